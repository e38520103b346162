/-
  The store: parse, walked (at what was written).
-/
import Derived.Test.YtjldahcckmmenaaGreatDoorZd15
import Derived.Test.YtjldahcckmmenaaGreatDoorZd11
import Derived.Test.YtjldahcckmmenaaGreatDoorZd7
import Derived.Laws.BitsAllLaws
open Array renaming getInternal_eq_getElem → QD
open Go.Lib renaming hid → QA
open List renaming mem_singleton → QB, setIfInBounds_toArray → QC, drop_succ_cons → QE, take_succ_cons → QF, set_cons_succ → QG, set_cons_zero → QH, getElem_cons_zero → QI, getElem_cons_succ → QJ, getElem_toArray → QK, drop_zero → QL, take_zero → QN, mem_of_getElem? → QZ, append_assoc → ZE, getElem?_eq_getElem → ZG, mem_append → ZI, getElem?_append_left → ZL, map_append → ZQ
open Nat renaming le_trans → QQ, reduceAdd → QW
namespace Go.Proofs.YtjldahcckmmenaaGreatDoor
set_option maxRecDepth 100000
set_option maxHeartbeats 4000000
set_option linter.unusedSimpArgs false
set_option linter.unusedVariables false
open Go Go.RowKit
open Go.Maps Go.WideMaps
theorem Sto.chk_kinds {ops:List Sto.Op} (h:Sto.chk ops=0):∀o∈ops,0≤o.2.1∧o.2.1≤9:=λo ho=>by
 unfold Sto.chk at h;split at h
 ·cases h
 split at h
 ·cases h
 rename_i hb;have A:Sto.badK o=false:=by
  cases h2:Sto.badK o
  ·rfl
  ·exact absurd (List.any_eq_true.2 ⟨o,ho,h2⟩) hb
 unfold Sto.badK at A;simp only[Bool.or_eq_false_iff,decide_eq_false_iff_not]at A;omega
theorem Sto.mass_mem {ops:List Sto.Op} {o:Sto.Op} (h:o∈ops):35+o.2.2.length≤Sto.mass ops:=by
 unfold Sto.mass;exact Sto.le_sum (List.mem_map.2 ⟨o,h,rfl⟩)
def AU (l:Sto.ME):List Value:=l.flatMap λp=>AG p.1 p.2
structure Hb (w:World) (F:Nat→Prop) (base:Nat) (v:Value) (l:Sto.ME):Prop where
 row:w.ownsRow base 43 34 v l.length (AU l)
 key:∀p∈l,p.1.1.length=32
 val:∀p∈l,Ax w F p.2 p.1.2.2
theorem Ax.low {w:World} {F:Nat→Prop} {v:Value} {l:List UInt8} (h:Ax w F v l):Ax w (λb=>F b∧b<w.heap.size) v l :=
 ⟨h.1,λp n c e hl=>⟨h.2 p n c e hl,by
  obtain⟨a,cap,B,_,_,D⟩:=h.1;obtain⟨b,o,C,A,_⟩:=D 0 _ (ZG hl);rw[B,C]at e;simp only[Value.slice.injEq,Option.some.injEq]at e;rw[← e.1];exact A⟩⟩
theorem Jm (n:Nat) (h:n≤65535):bits .or .i64 ((n:Int) % 256) ((n:Int) / 256*256)=(n:Int):=by
 have o:((n:Int) % 256)=((n % 256:Nat):Int):=by omega
 have A:((n:Int) / 256*256)=((2 ^ 8*(n / 256):Nat):Int):=by omega
 rw[o,A];show IntKind.i64.wrap ((BitVec.ofInt 64 ((n % 256:Nat):Int) ||| BitVec.ofInt 64 ((2 ^ 8*(n / 256):Nat):Int)).toNat:Int)=_;rw[BitVec.toNat_or,ofInt_u64 _ (by omega),ofInt_u64 _ (by omega),Nat.or_comm,← Nat.two_pow_add_eq_or_of_lt (by omega),IntKind.wrap_i64];omega
theorem Ad.range {w:World} {g:Nat} {o:Sto.Op} {v:Value} (h:Ad w g o v):w.rangeAt g 0 (AG o v):=λj u hj=>by rw[Nat.zero_add];exact h.cell hj
theorem Ad.set33 {w:World} {g:Nat} {k:List UInt8} {n:Int} {x:List UInt8} {u:Value} (h:Ad w g (k,n,x) u) (hk:k.length=32) (y:List UInt8) (v:Value):Ad (w.setCell ⟨g,33,none⟩ v) g (k,n,y) v:=by
 unfold Ad;have o:=heap_set (k:=33) h v;rw[o]
 congr 2
 unfold AG;simp[List.set_append,AP,hk]
theorem GX:(Tryz.prog.info? 43).map (λi=>(i.zero,i.size,i.bytes))=some (some (.agg (Array.replicate 32 (.int .u8 0)++#[.int .i64 0,.slice none 0 0])),34,64):=by kernel_rfl
theorem BW {ops:Array Oper} {rest:List Oper} {op:Oper} {a:Act} {w:World} {Q:Exit→Act→World→Prop} (hg:op.guard=none) (x:Operand) (ho:op.op=.buildSlice 22 1 #[(0,x)]) (o:Sto.Op) (v:Value) (hk:o.1.length=32)
  (hx:a.eval x=.agg (AG o v).toArray) (h:wpList Tryz.prog ops Q rest (a.put op.dst (.slice (some ⟨w.heap.size,0,none⟩) 1 1)) (w.alloc (.cells (AG o v).toArray 43))):wpList Tryz.prog ops Q (op::rest) a w:=by
 obtain⟨F,E,C,B,D⟩:=info_parts GX;refine wpList_plain hg λ_ hK=>?_
 have A:=B0 w 22 43 (AG o v) F _ Tryz.underlying22 E C (by rw[B,Ac hk]) (by rw[Ac hk];omega) (by rw[Ac hk];omega);unfold Oper.wp execOp;simp only[ho,List.map_toArray,List.map_cons,List.map_nil,hx,Sem.run_bind,A,Result.andThen_ok];exact hK _ _ h
theorem Bb:∀(l:Sto.ME),(∀p∈l,p.1.1.length=32)→∀(i:Nat) (p:Sto.Op×Value) (j:Nat) (u:Value),l[i]?=some p→(AG p.1 p.2)[j]?=some u→(AU l)[i*34+j]?=some u
 | [],_,i,p,j,u,h,_=>by simp at h
 | q::l,hk,0,p,j,u,h,hj=>by
  simp at h;subst h;show (AG q.1 q.2++AU l)[0*34+j]?=some u;rw[Nat.zero_mul,Nat.zero_add,ZL (List.getElem?_eq_some_iff.1 hj).1];exact hj
 | q::l,hk,i+1,p,j,u,h,hj=>by
  show (AG q.1 q.2++AU l)[(i+1)*34+j]?=some u;have o:=Ac (hk q List.mem_cons_self) q.2;rw[List.getElem?_append_right (by omega),o,show (i+1)*34+j-34=i*34+j by omega];exact Bb l (λx hx=>hk x (List.mem_cons_of_mem _ hx)) i p j u (by simpa using h) hj
theorem Hb.opsF {w:World} {F F':Nat→Prop} {base:Nat} {v:Value} {l:Sto.ME} (h:Hb w F base v l) (hF:∀b,base≤b→F' b) (hF':∀b,F b→F' b):Al w F' v l:=by
 rcases h.row.2 with⟨rfl,h5⟩|⟨g,cap,cur,hv,hg,hb,hc,hm,hs,ht⟩
 ·have:l=[]:=List.eq_nil_of_length_eq_zero h5;subst this;exact⟨none,0,rfl,Nat.le_refl _,λi p hi=>by simp at hi⟩
 ·subst hv;refine⟨some ⟨g,0,none⟩,cap,rfl,hc,λi p hi=>⟨h.key p (QZ hi),⟨(h.val p (QZ hi)).1,λa n c e hl=>hF' _ ((h.val p (QZ hi)).2 a n c e hl)⟩,g,0,rfl,AC hb,hF g hg,λj u hj=>?_⟩⟩;have A:=Bb l h.key i p j u hi hj;have o:=World.ownsRow.cells h.row (g:=g) rfl _ _ A;rw[Addr.add_mid,Nat.zero_add]at o;rw[Nat.zero_add];exact o
theorem Hb.below {w w':World} {F:Nat→Prop} {base:Nat} {v:Value} {l:Sto.ME} (h:Hb w F base v l) (hb:Below w.heap.size w w'):Hb w' F base v l :=
 ⟨AN h.row (λg hg=>hb.block g (h.row.lt g hg).2),h.key,λp hp=>(h.val p hp).mv (MV.below hb)⟩
theorem IL {ops:List Sto.Op} {j:Nat} {o:Sto.Op} (h:ops[j]?=some o):Sto.flat (ops.drop j)=Sto.bytes o++Sto.flat (ops.drop (j+1)):=by
 obtain⟨A,rfl⟩:=List.getElem?_eq_some_iff.1 h;rw[List.drop_eq_getElem_cons A];rfl
theorem I3 {zs:Array Value} {k:List UInt8} (hk:k.length=32) (hz:zs.size=34) (n:Int) (u:Value) (hu:zs[33]?=some u) (places:Nat→Option (Nat×Nat)) (h0:places 0=some (0,32)) (h1:places 1=some (32,1)) :
  Instr.fill places zs [(0,Ah k),(1,.int .i64 n)]=some (AH k++[.int .i64 n,u]).toArray:=by
 have C:(Ah k).cells.size=32:=by show (AH k).toArray.size=32;rw[List.size_toArray,AP,hk]
 unfold Instr.fill;rw[h0];simp only;rw[if_neg (by simp[C,hz])];obtain⟨D,E⟩:=Great.foldl_set 0 (AH k) 0 zs;have F:(Array.foldl (λA (x:Value×Nat)=>A.setIfInBounds (0+x.2) x.1) zs ((Ah k).cells.zipIdx))=((AH k).zipIdx 0).foldl (λA (x:Value×Nat)=>A.setIfInBounds (0+x.2) x.1) zs:=by
  show Array.foldl _ zs ((AH k).toArray.zipIdx)=_;rw[← Array.foldl_toList,Array.toList_zipIdx]
 rw[F];obtain⟨A,B⟩:∃A,((AH k).zipIdx 0).foldl (λA (x:Value×Nat)=>A.setIfInBounds (0+x.2) x.1) zs=A:=⟨_,rfl⟩
 rw[B]at D E ⊢;unfold Instr.fill;rw[h1];simp only;rw[if_neg (by simp[D,hz,Value.cells])];unfold Instr.fill
 congr 1
 show A.setIfInBounds (32+0) (.int .i64 n)=_;apply Array.ext_getElem?;intro t;have G:(AH k++[.int .i64 n,u]).toArray[t]?=(AH k++[.int .i64 n,u])[t]?:=by simp
 rw[Array.getElem?_setIfInBounds,G];have o:=AP k;rw[hk]at o;by_cases ht:32+0=t
 ·rw[if_pos ht,if_pos (by rw[D,hz];omega)];subst ht;rw[List.getElem?_append_right (by omega),o];rfl
 ·rw[if_neg ht,E];by_cases h32:t<32
  ·rw[if_pos (by omega),ZL (by omega)]
   congr 1
  ·rw[if_neg (by omega)];by_cases h33:t=33
   ·subst h33;rw[hu,List.getElem?_append_right (by omega),o];rfl
   ·rw[Array.getElem?_eq_none (by omega),List.getElem?_eq_none (by simp[o];omega)]
theorem G9 (w:World):(zeroValue 43).run Tryz.prog w=.ok (.agg (Array.replicate 32 (.int .u8 0)++#[.int .i64 0,.slice none 0 0])) w:=by kernel_rfl
theorem Fc (w:World) (k:List UInt8) (hk:k.length=32) (n:Int):(Instr.build 43 #[(0,Ah k),(1,.int .i64 n)]).run Tryz.prog w=.ok (.agg (AG (k,n,[]) (.slice none 0 0)).toArray) w:=by
 unfold Instr.build;simp only[Sem.run_bind,G9,Result.andThen_ok,run_underlying Tryz.underlying43];simp;rw[I3 hk (by simp[Value.cells]) n (.slice none 0 0) (by simp[Value.cells]) _ rfl rfl];rfl
theorem JU {ops:Array Oper} {S:World→Prop} {op:Oper} {a:Act} (hw:Region.wanted op (yielded ops a.tmps)=true) (x y:Operand) (ho:op.op=.build 43 #[(0,x),(1,y)]) (k:List UInt8) (hk:k.length=32) (n:Int)
  (hx:a.eval x=Ah k) (hy:a.eval y=.int .i64 n):YieldsIf Tryz.prog ops S op (.agg (AG (k,n,[]) (.slice none 0 0)).toArray) a :=
 .inl ⟨hw,λw _=>by
  unfold execOp;simp only[ho,List.map_toArray,List.map_cons,List.map_nil,hx,hy,Sem.run_bind,Fc w k hk n,Result.andThen_ok];rfl⟩
theorem Hc (v:Value) (ops:List Sto.Op) (w:World) (F:Nat→Prop) (hv0:Ax w F v (Sto.flat ops)) (hg:Sto.GoodB ops) :
  Calls Tryz.prog 48 #[v] w λe w'=>∃v' l,e=.returned (.tuple #[v',.bool true])∧Hb w' (λb=>F b∧b<w.heap.size) w.heap.size v' l∧Sto.opsOf l=ops∧Below w.heap.size w w':=by
 have hv:=hv0.low;clear hv0;obtain⟨U,aQ⟩:∃U,(λb=>F b∧b<w.heap.size)=U:=⟨_,rfl⟩
 rw[aQ]at hv ⊢;have HF:Hid (∀b,U b→b<w.heap.size):=QA λb hb=>by rw[← aQ]at hb;exact hb.2
 clear aQ;have hM:=hg.mass_le;have a8:=Sto.flat_len ops hg.key;obtain⟨va,vc,rfl,b2,bX⟩:=hv.1.form2;have HG:=QA hg;have HV:=QA hv;have b1:=QA a8;clear hg hv a8;go_enter Tryz.func48,Tryz.ntmps48;go_wp2_with fail
 go_loopg [0,4] ops.length (λk s0 s4 wr=>∃(j:Nat) (l:Sto.ME),j≤ops.length∧k=ops.length-j∧Ax wr U s0 (Sto.flat (ops.drop j))∧Hb wr U w.heap.size s4 l∧Sto.opsOf l=ops.take j∧Below w.heap.size w wr)
 case atStart=>exact⟨0,[],Nat.zero_le _,rfl,HV.out,⟨World.ownsRow_nil _ _ _ _,λp h=>(by cases h),λp h=>(by cases h)⟩,rfl,Below.refl _ _⟩
 case round =>
  obtain⟨j,l,hj,hk,hb,hl,a0,hB⟩:=hrel;have HK:=QA hk;have HL:=QA hl;have ai:=QA a0;have HB:=QA hB;clear hk hl a0 hB;obtain⟨ba,K,rfl,bu,bY⟩:=hb.1.form2;obtain⟨la,lc,rfl⟩:=BC HL.out.row;by_cases hjn:j<ops.length
  ·obtain⟨o,ho⟩:∃o,ops[j]?=some o:=⟨_,ZG hjn⟩
   have aI:o.1.length=32:=HG.out.key o (QZ ho);have HD:=QA (IL ho);have bi:=Sto.bytes_len aI;have hn:(Sto.flat (ops.drop j)).length=35+o.2.2.length+(Sto.flat (ops.drop (j+1))).length:=by rw[HD.out,List.length_append,bi]
   obtain⟨m,hm⟩:∃m,(Sto.flat (ops.drop j)).length=m:=⟨_,rfl⟩
   rw[hm]at hn bu ⊢;have bZ:(0:Int)<(m:Int):=by omega
   have bz:(35:Int)≤(m:Int):=by omega
   have aB:∀(i:Nat) (x:UInt8),(Sto.bytes o)[i]?=some x→(Sto.flat (ops.drop j))[i]?=some x:=λi x hx=>by
    rw[HD.out,ZL (List.getElem?_eq_some_iff.1 hx).1];exact hx
   obtain⟨g,A,rfl,aJ,Q⟩:∃g A,ba=some ⟨g,A,none⟩∧g<wr.heap.size∧∀(i:Nat) (x:UInt8),(Sto.flat (ops.drop j))[i]?=some x→wr.cell? ⟨g,A+i,none⟩=some (.int .u8 x.toNat):=by
    obtain⟨b,A,e1,e2,_⟩:=hb.1.at (i:=0) (ZG (by omega));subst e1;refine⟨b,A,rfl,e2,λi x hx=>?_⟩;obtain⟨b',bR,e3,e4,e5⟩:=hb.1.at hx;cases e3;exact e5
   have bf:∀i,i<32→(Sto.bytes o)[i]?=o.1[i]?:=λi hi=>by unfold Sto.bytes;rw[ZE,ZL (by omega)]
   have aM:(Sto.bytes o)[32]?=some (UInt8.ofNat o.2.1.toNat)∧(Sto.bytes o)[33]?=some (UInt8.ofNat (o.2.2.length % 256))∧(Sto.bytes o)[34]?=some (UInt8.ofNat (o.2.2.length / 256 % 256)):=by
    unfold Sto.bytes;rw[ZE];refine⟨?_,?_,?_⟩<;>(rw[List.getElem?_append_right (by omega),aI];rfl)
   have a1:wr.rangeAt g A (AH o.1):=λi u hi=>by
    unfold AH at hi;rw[List.getElem?_map]at hi;cases hx:o.1[i]? with
    | none=>rw[hx]at hi;cases hi
    | some x =>
     rw[hx]at hi;have hi:Value.int .u8 (x.toNat:Int)=u:=by simpa using hi
     rw[← hi];have b0:=(List.getElem?_eq_some_iff.1 hx).1;exact Q i x (aB i x (by rw[bf i (by omega)];exact hx))
   have bx:0≤o.2.1∧o.2.1≤9:=by
    have:=HG.out.chk;have h1:=Sto.chk_kinds this o (QZ ho);exact h1
   have a6:wr.cell? ⟨g,A+32,none⟩=some (.int .u8 o.2.1):=by
    rw[Q 32 _ (aB _ _ aM.1),UInt8.toNat_ofNat_of_lt' (by show _<256;omega),show ((o.2.1.toNat:Nat):Int)=o.2.1 by omega]
   have bp:o.2.2.length≤8192:=by
    have:=Sto.mass_mem (QZ ho);omega
   have a7:wr.cell? ⟨g,A+33,none⟩=some (.int .u8 ((o.2.2.length:Int) % 256)):=by
    rw[Q 33 _ (aB _ _ aM.2.1),UInt8.toNat_ofNat_of_lt' (by show _<256;omega)];rfl
   have a2:wr.cell? ⟨g,A+34,none⟩=some (.int .u8 ((o.2.2.length:Int) / 256)):=by
    rw[Q 34 _ (aB _ _ aM.2.2),UInt8.toNat_ofNat_of_lt' (by show _<256;omega),show ((o.2.2.length / 256 % 256:Nat):Int)=(o.2.2.length:Int) / 256 by omega]
   have bd:∀w,(Instr.arrayAt 40 (.slice (some ⟨g,A,none⟩) 32 K)).run Tryz.prog w=.ok (.pointer (some ⟨g,A,none⟩)) w:=λw=>by
    unfold Instr.arrayAt;simp only[Sem.run_bind,run_underlying Tryz.underlying40,Result.andThen_ok];rfl
   have bI:(32:Int)≤(K:Int):=by omega
   have bB:(32:Int)<(m:Int):=by omega
   have bJ:(33:Int)<(m:Int):=by omega
   have bM:(34:Int)<(m:Int):=by omega
   have bV:IntKind.i64.wrap o.2.1=o.2.1:=by rw[IntKind.wrap_i64];omega
   have HN:=QA hn;clear hn bi;have C:=QA aI;have V:=QA hb;clear hb aM bf aB Q aI;go_wp2_with fail;refine AM (λw'=>Below wr.heap.size wr w') 11 (by kernel_rfl) ?_;have E:Below wr.heap.size wr { wr with drawn:=wr.drawn+1 }:=Below.drewN (Below.refl _ wr) 1;obtain⟨wD,hD⟩:∃x:World,{ wr with drawn:=wr.drawn+1 }=x:=⟨_,rfl⟩
   rw[hD]at E ⊢;clear hD;refine TK (i:=0) (v:=.slice (some ⟨g,A,none⟩) m K) rfl (Or.inl ⟨by rfl,λw hSw=>by go_simp⟩) E ?_;simp only[Act.put,QD,QK,QI,QJ,QC,QH,QG];refine TK (i:=1) (v:=.slice (some ⟨g,A,none⟩) 32 K) rfl (Or.inl ⟨by rfl,λw hSw=>by go_simp⟩) E ?_;simp only[Act.put,QD,QK,QI,QJ,QC,QH,QG];refine TK (i:=2) (v:=.pointer (some ⟨g,A,none⟩)) rfl (Or.inl ⟨by rfl,λw hSw=>by go_simp⟩) E ?_;simp only[Act.put,QD,QK,QI,QJ,QC,QH,QG];refine TK (i:=3) (v:=Ah o.1) rfl (Aw rfl _ rfl g A rfl o.1 C.out (λw hw=>AW a1 (hw.block g aJ))) E ?_;simp only[Act.put,QD,QK,QI,QJ,QC,QH,QG];refine TK (i:=4) (v:=.slice (some ⟨g,A,none⟩) m K) rfl (Or.inl ⟨by rfl,λw hSw=>by go_simp⟩) E ?_;simp only[Act.put,QD,QK,QI,QJ,QC,QH,QG];refine TK (i:=5) (v:=.pointer (some ⟨g,A+32,none⟩)) rfl (Or.inl ⟨by rfl,λw hSw=>by go_simp⟩) E ?_;simp only[Act.put,QD,QK,QI,QJ,QC,QH,QG];refine TK (i:=6) (v:=.int .u8 o.2.1) rfl (Or.inl ⟨by rfl,λw hSw=>by have b3:=(hSw.cell (p:=⟨g,A+32,none⟩) aJ).trans a6;go_simp⟩) E ?_;simp only[Act.put,QD,QK,QI,QJ,QC,QH,QG];refine TK (i:=7) (v:=.int .i64 o.2.1) rfl (Or.inl ⟨by rfl,λw hSw=>by go_simp⟩) E ?_;simp only[Act.put,QD,QK,QI,QJ,QC,QH,QG];refine TK (i:=8) (v:=.agg (AG (o.1,o.2.1,[]) (.slice none 0 0)).toArray) rfl (JU rfl _ _ rfl o.1 C.out o.2.1 rfl rfl) E ?_;simp only[Act.put,QD,QK,QI,QJ,QC,QH,QG];refine TO (i:=9) ?_;refine AD (by decide) (λK9 HK9=>?_);simp only[QE,QL,QF,QN];go_wp2_with fail;refine HK9.out _ _ ⟨λ_=>E.alloc E.size _,?_⟩;clear HK9;refine TO (i:=10) ?_;refine AD (by decide) (λK10 HK10=>?_);simp only[QE,QL,QF,QN];go_wp2_with (first|(guard_target=wpList _ _ _ ({ dst:=_,op:=.store 43 _ _,type:=_,pos:=_,after:=_,guard:=none }::_) _ _;refine AL rfl _ _ rfl _ rfl (o.1,o.2.1,[]) (.slice none 0 0) C.out rfl rfl rfl ?_)|fail);have ar:Below wr.heap.size wr (wD.alloc (.cells (AG (o.1,o.2.1,[]) (.slice none 0 0)).toArray 43)):=E.alloc E.size _;have aL:=Ad.new wD (o.1,o.2.1,[]) (.slice none 0 0);refine HK10.out _ _ ⟨λ_=>ar,?_⟩;clear HK10;refine AO (by kernel_rfl) ?_ _;have Z:wr.heap.size≤wD.heap.size:=E.size;obtain⟨X,hX⟩:∃x,wD.heap.size=x:=⟨_,rfl⟩
   obtain⟨wE,hE⟩:∃x,wD.alloc (.cells (AG (o.1,o.2.1,[]) (.slice none 0 0)).toArray 43)=x:=⟨_,rfl⟩
   rw[hX]at aL Z ⊢;rw[hE]at aL ar ⊢;clear hE hX E;have ap:=QA ar;have aq:=QA aL;have aH:wE.cell? ⟨g,A+33,none⟩=some (.int .u8 ((o.2.2.length:Int) % 256)):=(ar.cell (p:=⟨g,A+33,none⟩) aJ).trans a7;have aK:wE.cell? ⟨g,A+34,none⟩=some (.int .u8 ((o.2.2.length:Int) / 256)):=(ar.cell (p:=⟨g,A+34,none⟩) aJ).trans a2;clear a6 a7 a2 ar aL bd a1;simp only[Act.put,QD,QK,QI,QJ,QC,QH,QG];have bv:=Jm o.2.2.length (by omega);obtain⟨B,aS⟩:∃B,o.2.2.length=B:=⟨_,rfl⟩
   rw[aS]at bv bp HN aH aK;have W:=QA aS;have Y:=QA hm;clear aS hm;have bF:B≤m-35:=by have:=HN.out;omega
   have bw:l.length≤1000:=by
    have h1:=congrArg List.length ai.out;rw[Sto.opsOf_len,List.length_take]at h1;have:=Sto.mass_len ops;omega
   by_cases hbc35:K=35
   ·have aR:m=35:=by omega
    have bn:B=0:=by omega
    subst hbc35 aR bn;have bQ:bits .or .i64 0 0=0:=by kernel_rfl
    go_wp2_with fail;refine Ai [] (by kernel_rfl) (by kernel_rfl) ?_;simp only[Bo,QF,QN,QE,QL,Nat.sub_zero,Nat.reduceSub,QW]
    repeat (go_big_quiet_step (fail))
    refine wpQuiet_nil ?_;rintro _ ⟨nq,rfl⟩;have G:Ad (wE.drewN nq) X (o.1,o.2.1,[]) (.slice none 0 0):=aq.out;have R:Below wr.heap.size wr (wE.drewN nq):=Below.drewN ap.out nq;clear aH aK;obtain⟨T,ak⟩:∃x,wE.drewN nq=x:=⟨_,rfl⟩
    rw[ak]at G R ⊢;clear ak aq ap;have J:=QA G;have ae:=QA R;clear G R;go_wp2_with fail;refine AM (λ_=>True) 9 (by kernel_rfl) ?_;have E:True:=trivial;have D:Ad { T with drawn:=T.drawn+1 } X (o.1,o.2.1,[]) (.slice none 0 0):=J.out;have S:Below wr.heap.size wr { T with drawn:=T.drawn+1 }:=Below.drewN ae.out 1;obtain⟨wG,ah⟩:∃x:World,{ T with drawn:=T.drawn+1 }=x:=⟨_,rfl⟩
    rw[ah]at D S ⊢;clear ah J ae;have fX:=AE D 33;have yX:=D.cell (Ae C.out _);have H:=QA (D.set33 C.out o.2.2 (.slice (some ⟨g,A,none⟩) 0 0));have N:Hid (Below wr.heap.size wr (wG.setCell ⟨X,33,none⟩ (.slice (some ⟨g,A,none⟩) 0 0))):=QA (S.setCell (p:=⟨X,33,none⟩) Z _);clear D S;refine TK (i:=0) (v:=.slice (some ⟨g,A,none⟩) 0 0) rfl (Or.inl ⟨by rfl,λw hSw=>by go_simp⟩) E ?_;simp only[Act.put,QD,QK,QI,QJ,QC,QH,QG];refine TK (i:=1) (v:=.int .i64 0) rfl (Or.inl ⟨by rfl,λw hSw=>by go_simp⟩) E ?_;simp only[Act.put,QD,QK,QI,QJ,QC,QH,QG];refine TK (i:=2) (v:=.slice (some ⟨g,A,none⟩) 0 0) rfl (Or.inl ⟨by rfl,λw hSw=>by go_simp⟩) E ?_;simp only[Act.put,QD,QK,QI,QJ,QC,QH,QG];refine TK (i:=3) (v:=.slice (some ⟨g,A,none⟩) 0 0) rfl (Or.inl ⟨by rfl,λw hSw=>by go_simp⟩) E ?_;simp only[Act.put,QD,QK,QI,QJ,QC,QH,QG];refine TK (i:=4) (v:=.int .i64 0) rfl (Or.inl ⟨by rfl,λw hSw=>by go_simp⟩) E ?_;simp only[Act.put,QD,QK,QI,QJ,QC,QH,QG];refine TK (i:=5) (v:=.slice (some ⟨g,A,none⟩) 0 0) rfl (Or.inl ⟨by rfl,λw hSw=>by go_simp⟩) E ?_;simp only[Act.put,QD,QK,QI,QJ,QC,QH,QG];refine TK (i:=6) (v:=.pointer (some ⟨X,33,none⟩)) rfl (Or.inl ⟨by rfl,λw hSw=>by go_simp⟩) E ?_;simp only[Act.put,QD,QK,QI,QJ,QC,QH,QG];refine TO (i:=7) ?_;refine AD (by decide) (λK7 HK7=>?_);simp only[QE,QL,QF,QN];go_wp2_with fail;refine HK7.out _ _ ⟨λ_=>trivial,?_⟩;clear HK7;refine TO (i:=8) ?_;refine AD (by decide) (λK8 HK8=>?_);simp only[QE,QL,QF,QN];go_wp2_with fail;refine HK8.out _ _ ⟨λ_=>trivial,?_⟩;clear HK8;refine AO (by kernel_rfl) ?_ _;clear fX yX
    try simp only[Act.put,QD,QK,QI,QJ,QC,QH,QG]
    obtain⟨wI,ab⟩:∃x,wG.setCell ⟨X,33,none⟩ (.slice (some ⟨g,A,none⟩) 0 0)=x:=⟨_,rfl⟩
    rw[ab]at H N ⊢;have ad:=H;have L:=N;clear ab H N;have ag:=L.out.size;have ac:Hid (wI.ownsRow w.heap.size 43 34 (.slice la l.length lc) l.length (AU l)):=QA (AN HL.out.row λg2 hg2=>L.out.block g2 (HL.out.row.lt g2 hg2).2);have bh:w.heap.size≤wI.heap.size:=QQ HB.out.size ag;obtain⟨i0,hi,aE,aC,ay⟩:=info_parts GX;go_wp2_with (first|(guard_target=wpList _ _ _ ({ dst:=_,op:=.load 43 _,type:=_,pos:=_,after:=_,guard:=none }::_) _ _;refine AJ rfl _ rfl X 0 o (.slice (some ⟨g,A,none⟩) 0 0) C.out rfl ad.out.range ?_)|(guard_target=wpList _ _ _ ({ dst:=_,op:=.buildSlice 22 _ _,type:=_,pos:=_,after:=_,guard:=none }::_) _ _;refine BW rfl _ rfl o (.slice (some ⟨g,A,none⟩) 0 0) C.out rfl ?_)|(at_builtin;refine wpList_append_own_at _ rfl _ _ 22 rfl w.heap.size 43 i0 _ 34 64 Tryz.underlying22 hi aE aC ay rfl (by decide) (.slice la l.length lc) l.length (AU l) rfl (World.ownsRow.alloc ac.out _) ⟨wI.heap.size,0,none⟩ 1 1 (AG o (.slice (some ⟨g,A,none⟩) 0 0)) rfl (by rw[Ac C.out]) (λj2 u2 hj2=>by rw[Addr.add_mid,Nat.zero_add];exact AA (AK wI _) j2 u2 (by simpa using hj2)) (BQ rfl) (by unfold maxLen;omega) (by omega) (by simp;omega) ?_;intro d' w5 hown5 hgrow5 hnil5 hloc5;clear hnil5)|fail);have P:Below w.heap.size w w5:=((HB.out.trans (L.out.mono HB.out.size)).alloc (by omega) _).grown hgrow5 (by simp;omega) (λk2 e2=>(HL.out.row.lt k2 e2).1);have aj:MV U U wr w5:=⟨by have:=hgrow5.size;simp at this;omega,λb hb hf=>⟨hf,(P.block b (HF.out b hf)).trans (HB.out.block b (HF.out b hf)).symm⟩⟩
    have af:U g:=V.out.2 ⟨g,A,none⟩ _ 35 rfl (by have:=Y.out;omega);have aP:=Sto.bytes_len C.out;have M:=V.out.1.part 35 (35+0) 0 (by omega) (by have:=Y.out;omega) (by omega) (some ⟨g,A,none⟩) (.inr ⟨by omega,by simp⟩);have I:=V.out.1.part (35+0) 35 0 (by omega) (by have:=Y.out;omega) (by omega) (some ⟨g,A,none⟩) (.inr ⟨by omega,by simp⟩);have e1:((Sto.flat (ops.drop j)).drop 35).take (35+0-35)=o.2.2:=by
     rw[HD.out,List.drop_append_of_le_length (by omega)];unfold Sto.bytes;rw[ZE,List.drop_append,C.out];have a9:=W.out;rw[show 35+0-35=o.2.2.length by omega];simp[List.take_append,C.out]
    have e2:((Sto.flat (ops.drop j)).drop (35+0)).take (35-(35+0))=Sto.flat (ops.drop (j+1)):=by
     rw[HD.out,show 35+0=(Sto.bytes o).length by have:=W.out;omega,List.drop_left,List.take_of_length_le (by have:=HN.out;have:=W.out;omega)]
    rw[e1,show 35+0-35=0 by omega]at M;rw[e2]at I;have ax:=QA P;have O:=QA aj;have aA:=QA M;rw[show 35-(35+0)=0 by omega]at I;have aw:=QA I;have av:=QA hown5;clear P aj M I hown5 hgrow5 hloc5 e1 e2
    try go_wp2_with fail
    go_roundg (ops.length-(j+1))
    case measure=>rw[HK.out];omega
    case rel =>
     refine⟨j+1,l++[(o,.slice (some ⟨g,A,none⟩) 0 0)],by omega,rfl,Ax.mv (F:=U) (And.intro aw.out λp n c e _=>by cases e;exact af) O.out,⟨?_,λp hp=>?_,λp hp=>?_⟩,?_,ax.out⟩
     ·have e3:(l++[(o,Value.slice (some ⟨g,A,none⟩) 0 0)]).length=l.length+1:=by simp
      have e4:AU (l++[(o,Value.slice (some ⟨g,A,none⟩) 0 0)])=AU l++AG o (.slice (some ⟨g,A,none⟩) 0 0):=by unfold AU;simp
      rw[e3,e4];exact av.out
     ·rcases ZI.1 hp with hp|hp
      ·exact HL.out.key p hp
      ·rw[QB.1 hp];exact C.out
     ·rcases ZI.1 hp with hp|hp
      ·exact (HL.out.val p hp).mv O.out
      ·rw[QB.1 hp];exact Ax.mv (F:=U) (And.intro aA.out λp n c e _=>by cases e;exact af) O.out
     ·unfold Sto.opsOf at ai ⊢;rw[ZQ,ai.out,List.take_add_one,ho];rfl
   ·by_cases hbcn:K-35=B
    ·have bq:K=35+B:=by omega
     have bl:m=35+B:=by omega
     subst bq bl;have bo:(B:Int)≤((35+B-35:Nat):Int):=by omega
     have bH:B≠0:=by omega
     go_wp2_with fail;refine Ai [] (by kernel_rfl) (by kernel_rfl) ?_;simp only[Bo,QF,QN,QE,QL,Nat.sub_zero,Nat.reduceSub,QW]
     repeat (go_big_quiet_step (fail))
     refine wpQuiet_nil ?_;rintro _ ⟨nq,rfl⟩;have G:Ad (wE.drewN nq) X (o.1,o.2.1,[]) (.slice none 0 0):=aq.out;have R:Below wr.heap.size wr (wE.drewN nq):=Below.drewN ap.out nq;clear aH aK;obtain⟨T,ak⟩:∃x,wE.drewN nq=x:=⟨_,rfl⟩
     rw[ak]at G R ⊢;clear ak aq ap;have J:=QA G;have ae:=QA R;clear G R;go_wp2_with fail;refine AM (λ_=>True) 9 (by kernel_rfl) ?_;have E:True:=trivial;have D:Ad { T with drawn:=T.drawn+1 } X (o.1,o.2.1,[]) (.slice none 0 0):=J.out;have S:Below wr.heap.size wr { T with drawn:=T.drawn+1 }:=Below.drewN ae.out 1;obtain⟨wG,ah⟩:∃x:World,{ T with drawn:=T.drawn+1 }=x:=⟨_,rfl⟩
     rw[ah]at D S ⊢;clear ah J ae;have fX:=AE D 33;have yX:=D.cell (Ae C.out _);have H:=QA (D.set33 C.out o.2.2 (.slice (some ⟨g,A+35,none⟩) B B));have N:Hid (Below wr.heap.size wr (wG.setCell ⟨X,33,none⟩ (.slice (some ⟨g,A+35,none⟩) B B))):=QA (S.setCell (p:=⟨X,33,none⟩) Z _);clear D S;refine TK (i:=0) (v:=.slice (some ⟨g,A+35,none⟩) (35+B-35) B) rfl (Or.inl ⟨by rfl,λw hSw=>by go_simp⟩) E ?_;simp only[Act.put,QD,QK,QI,QJ,QC,QH,QG];refine TK (i:=1) (v:=.int .i64 (B:Nat)) rfl (Or.inl ⟨by rfl,λw hSw=>by go_simp⟩) E ?_;simp only[Act.put,QD,QK,QI,QJ,QC,QH,QG];refine TK (i:=2) (v:=.slice (some ⟨g,A+35,none⟩) B B) rfl (Or.inl ⟨by rfl,λw hSw=>by go_simp⟩) E ?_;simp only[Act.put,QD,QK,QI,QJ,QC,QH,QG];refine TK (i:=3) (v:=.slice (some ⟨g,A+35,none⟩) (35+B-35) B) rfl (Or.inl ⟨by rfl,λw hSw=>by go_simp⟩) E ?_;simp only[Act.put,QD,QK,QI,QJ,QC,QH,QG];refine TK (i:=4) (v:=.int .i64 (B:Nat)) rfl (Or.inl ⟨by rfl,λw hSw=>by go_simp⟩) E ?_;simp only[Act.put,QD,QK,QI,QJ,QC,QH,QG];refine TK (i:=5) (v:=.slice (some ⟨g,A+35,none⟩) (35+B-35-B) 0) rfl (Or.inl ⟨by rfl,λw hSw=>by go_simp⟩) E ?_;simp only[Act.put,QD,QK,QI,QJ,QC,QH,QG];refine TK (i:=6) (v:=.pointer (some ⟨X,33,none⟩)) rfl (Or.inl ⟨by rfl,λw hSw=>by go_simp⟩) E ?_;simp only[Act.put,QD,QK,QI,QJ,QC,QH,QG];refine TO (i:=7) ?_;refine AD (by decide) (λK7 HK7=>?_);simp only[QE,QL,QF,QN];go_wp2_with fail;refine HK7.out _ _ ⟨λ_=>trivial,?_⟩;clear HK7;refine TO (i:=8) ?_;refine AD (by decide) (λK8 HK8=>?_);simp only[QE,QL,QF,QN];go_wp2_with fail;refine HK8.out _ _ ⟨λ_=>trivial,?_⟩;clear HK8;refine AO (by kernel_rfl) ?_ _;clear fX yX
     try simp only[Act.put,QD,QK,QI,QJ,QC,QH,QG]
     obtain⟨wI,ab⟩:∃x,wG.setCell ⟨X,33,none⟩ (.slice (some ⟨g,A+35,none⟩) B B)=x:=⟨_,rfl⟩
     rw[ab]at H N ⊢;have ad:=H;have L:=N;clear ab H N;have ag:=L.out.size;have ac:Hid (wI.ownsRow w.heap.size 43 34 (.slice la l.length lc) l.length (AU l)):=QA (AN HL.out.row λg2 hg2=>L.out.block g2 (HL.out.row.lt g2 hg2).2);have bh:w.heap.size≤wI.heap.size:=QQ HB.out.size ag;obtain⟨i0,hi,aE,aC,ay⟩:=info_parts GX;go_wp2_with (first|(guard_target=wpList _ _ _ ({ dst:=_,op:=.load 43 _,type:=_,pos:=_,after:=_,guard:=none }::_) _ _;refine AJ rfl _ rfl X 0 o (.slice (some ⟨g,A+35,none⟩) B B) C.out rfl ad.out.range ?_)|(guard_target=wpList _ _ _ ({ dst:=_,op:=.buildSlice 22 _ _,type:=_,pos:=_,after:=_,guard:=none }::_) _ _;refine BW rfl _ rfl o (.slice (some ⟨g,A+35,none⟩) B B) C.out rfl ?_)|(at_builtin;refine wpList_append_own_at _ rfl _ _ 22 rfl w.heap.size 43 i0 _ 34 64 Tryz.underlying22 hi aE aC ay rfl (by decide) (.slice la l.length lc) l.length (AU l) rfl (World.ownsRow.alloc ac.out _) ⟨wI.heap.size,0,none⟩ 1 1 (AG o (.slice (some ⟨g,A+35,none⟩) B B)) rfl (by rw[Ac C.out]) (λj2 u2 hj2=>by rw[Addr.add_mid,Nat.zero_add];exact AA (AK wI _) j2 u2 (by simpa using hj2)) (BQ rfl) (by unfold maxLen;omega) (by omega) (by simp;omega) ?_;intro d' w5 hown5 hgrow5 hnil5 hloc5;clear hnil5)|fail);have P:Below w.heap.size w w5:=((HB.out.trans (L.out.mono HB.out.size)).alloc (by omega) _).grown hgrow5 (by simp;omega) (λk2 e2=>(HL.out.row.lt k2 e2).1);have aj:MV U U wr w5:=⟨by have:=hgrow5.size;simp at this;omega,λb hb hf=>⟨hf,(P.block b (HF.out b hf)).trans (HB.out.block b (HF.out b hf)).symm⟩⟩
     have af:U g:=V.out.2 ⟨g,A,none⟩ _ (35+B) rfl (by have:=Y.out;omega);have aP:=Sto.bytes_len C.out;have M:=V.out.1.part 35 (35+B) B (by omega) (by have:=Y.out;omega) (by omega) (some ⟨g,A+35,none⟩) (.inl rfl);have I:=V.out.1.part (35+B) (35+B) 0 (by omega) (by have:=Y.out;omega) (by omega) (some ⟨g,A+35,none⟩) (.inr ⟨by omega,by simp⟩);have e1:((Sto.flat (ops.drop j)).drop 35).take (35+B-35)=o.2.2:=by
      rw[HD.out,List.drop_append_of_le_length (by omega)];unfold Sto.bytes;rw[ZE,List.drop_append,C.out];have a9:=W.out;rw[show 35+B-35=o.2.2.length by omega];simp[List.take_append,C.out]
     have e2:((Sto.flat (ops.drop j)).drop (35+B)).take ((35+B)-(35+B))=Sto.flat (ops.drop (j+1)):=by
      rw[HD.out,show 35+B=(Sto.bytes o).length by have:=W.out;omega,List.drop_left,List.take_of_length_le (by have:=HN.out;have:=W.out;omega)]
     rw[e1,show 35+B-35=B by omega]at M;rw[e2]at I;have ax:=QA P;have O:=QA aj;have aA:=QA M;rw[show (35+B)-(35+B)=0 by omega]at I;have aw:=QA I;have av:=QA hown5;clear P aj M I hown5 hgrow5 hloc5 e1 e2
     try go_wp2_with fail
     go_roundg (ops.length-(j+1))
     case measure=>rw[HK.out];omega
     case rel =>
      refine⟨j+1,l++[(o,.slice (some ⟨g,A+35,none⟩) B B)],by omega,rfl,Ax.mv (F:=U) (And.intro aw.out λp n c e _=>by cases e;exact af) O.out,⟨?_,λp hp=>?_,λp hp=>?_⟩,?_,ax.out⟩
      ·have e3:(l++[(o,Value.slice (some ⟨g,A+35,none⟩) B B)]).length=l.length+1:=by simp
       have e4:AU (l++[(o,Value.slice (some ⟨g,A+35,none⟩) B B)])=AU l++AG o (.slice (some ⟨g,A+35,none⟩) B B):=by unfold AU;simp
       rw[e3,e4];exact av.out
      ·rcases ZI.1 hp with hp|hp
       ·exact HL.out.key p hp
       ·rw[QB.1 hp];exact C.out
      ·rcases ZI.1 hp with hp|hp
       ·exact (HL.out.val p hp).mv O.out
       ·rw[QB.1 hp];exact Ax.mv (F:=U) (And.intro aA.out λp n c e _=>by cases e;exact af) O.out
      ·unfold Sto.opsOf at ai ⊢;rw[ZQ,ai.out,List.take_add_one,ho];rfl
    ·have bo:(B:Int)≤((m-35:Nat):Int):=by omega
     have bE:(B:Int)≤((K-35:Nat):Int):=by omega
     go_wp2_with fail;refine Ai [] (by kernel_rfl) (by kernel_rfl) ?_;simp only[Bo,QF,QN,QE,QL,Nat.sub_zero,Nat.reduceSub,QW]
     repeat (go_big_quiet_step (fail))
     refine wpQuiet_nil ?_;rintro _ ⟨nq,rfl⟩;have G:Ad (wE.drewN nq) X (o.1,o.2.1,[]) (.slice none 0 0):=aq.out;have R:Below wr.heap.size wr (wE.drewN nq):=Below.drewN ap.out nq;clear aH aK;obtain⟨T,ak⟩:∃x,wE.drewN nq=x:=⟨_,rfl⟩
     rw[ak]at G R ⊢;clear ak aq ap;have J:=QA G;have ae:=QA R;clear G R;go_wp2_with fail;refine AM (λ_=>True) 9 (by kernel_rfl) ?_;have E:True:=trivial;have D:Ad { T with drawn:=T.drawn+1 } X (o.1,o.2.1,[]) (.slice none 0 0):=J.out;have S:Below wr.heap.size wr { T with drawn:=T.drawn+1 }:=Below.drewN ae.out 1;obtain⟨wG,ah⟩:∃x:World,{ T with drawn:=T.drawn+1 }=x:=⟨_,rfl⟩
     rw[ah]at D S ⊢;clear ah J ae;have fX:=AE D 33;have yX:=D.cell (Ae C.out _);have H:=QA (D.set33 C.out o.2.2 (.slice (some ⟨g,A+35,none⟩) B (K-35)));have N:Hid (Below wr.heap.size wr (wG.setCell ⟨X,33,none⟩ (.slice (some ⟨g,A+35,none⟩) B (K-35)))):=QA (S.setCell (p:=⟨X,33,none⟩) Z _);clear D S;refine TK (i:=0) (v:=.slice (some ⟨g,A+35,none⟩) (m-35) (K-35)) rfl (Or.inl ⟨by rfl,λw hSw=>by go_simp⟩) E ?_;simp only[Act.put,QD,QK,QI,QJ,QC,QH,QG];refine TK (i:=1) (v:=.int .i64 (B:Nat)) rfl (Or.inl ⟨by rfl,λw hSw=>by go_simp⟩) E ?_;simp only[Act.put,QD,QK,QI,QJ,QC,QH,QG];refine TK (i:=2) (v:=.slice (some ⟨g,A+35,none⟩) B (K-35)) rfl (Or.inl ⟨by rfl,λw hSw=>by go_simp⟩) E ?_;simp only[Act.put,QD,QK,QI,QJ,QC,QH,QG];refine TK (i:=3) (v:=.slice (some ⟨g,A+35,none⟩) (m-35) (K-35)) rfl (Or.inl ⟨by rfl,λw hSw=>by go_simp⟩) E ?_;simp only[Act.put,QD,QK,QI,QJ,QC,QH,QG];refine TK (i:=4) (v:=.int .i64 (B:Nat)) rfl (Or.inl ⟨by rfl,λw hSw=>by go_simp⟩) E ?_;simp only[Act.put,QD,QK,QI,QJ,QC,QH,QG];refine TK (i:=5) (v:=.slice (some ⟨g,A+35+B,none⟩) (m-35-B) (K-35-B)) rfl (Or.inl ⟨by rfl,λw hSw=>by go_simp⟩) E ?_;simp only[Act.put,QD,QK,QI,QJ,QC,QH,QG];refine TK (i:=6) (v:=.pointer (some ⟨X,33,none⟩)) rfl (Or.inl ⟨by rfl,λw hSw=>by go_simp⟩) E ?_;simp only[Act.put,QD,QK,QI,QJ,QC,QH,QG];refine TO (i:=7) ?_;refine AD (by decide) (λK7 HK7=>?_);simp only[QE,QL,QF,QN];go_wp2_with fail;refine HK7.out _ _ ⟨λ_=>trivial,?_⟩;clear HK7;refine TO (i:=8) ?_;refine AD (by decide) (λK8 HK8=>?_);simp only[QE,QL,QF,QN];go_wp2_with fail;refine HK8.out _ _ ⟨λ_=>trivial,?_⟩;clear HK8;refine AO (by kernel_rfl) ?_ _;clear fX yX
     try simp only[Act.put,QD,QK,QI,QJ,QC,QH,QG]
     obtain⟨wI,ab⟩:∃x,wG.setCell ⟨X,33,none⟩ (.slice (some ⟨g,A+35,none⟩) B (K-35))=x:=⟨_,rfl⟩
     rw[ab]at H N ⊢;have ad:=H;have L:=N;clear ab H N;have ag:=L.out.size;have ac:Hid (wI.ownsRow w.heap.size 43 34 (.slice la l.length lc) l.length (AU l)):=QA (AN HL.out.row λg2 hg2=>L.out.block g2 (HL.out.row.lt g2 hg2).2);have bh:w.heap.size≤wI.heap.size:=QQ HB.out.size ag;obtain⟨i0,hi,aE,aC,ay⟩:=info_parts GX;go_wp2_with (first|(guard_target=wpList _ _ _ ({ dst:=_,op:=.load 43 _,type:=_,pos:=_,after:=_,guard:=none }::_) _ _;refine AJ rfl _ rfl X 0 o (.slice (some ⟨g,A+35,none⟩) B (K-35)) C.out rfl ad.out.range ?_)|(guard_target=wpList _ _ _ ({ dst:=_,op:=.buildSlice 22 _ _,type:=_,pos:=_,after:=_,guard:=none }::_) _ _;refine BW rfl _ rfl o (.slice (some ⟨g,A+35,none⟩) B (K-35)) C.out rfl ?_)|(at_builtin;refine wpList_append_own_at _ rfl _ _ 22 rfl w.heap.size 43 i0 _ 34 64 Tryz.underlying22 hi aE aC ay rfl (by decide) (.slice la l.length lc) l.length (AU l) rfl (World.ownsRow.alloc ac.out _) ⟨wI.heap.size,0,none⟩ 1 1 (AG o (.slice (some ⟨g,A+35,none⟩) B (K-35))) rfl (by rw[Ac C.out]) (λj2 u2 hj2=>by rw[Addr.add_mid,Nat.zero_add];exact AA (AK wI _) j2 u2 (by simpa using hj2)) (BQ rfl) (by unfold maxLen;omega) (by omega) (by simp;omega) ?_;intro d' w5 hown5 hgrow5 hnil5 hloc5;clear hnil5)|fail);have P:Below w.heap.size w w5:=((HB.out.trans (L.out.mono HB.out.size)).alloc (by omega) _).grown hgrow5 (by simp;omega) (λk2 e2=>(HL.out.row.lt k2 e2).1);have aj:MV U U wr w5:=⟨by have:=hgrow5.size;simp at this;omega,λb hb hf=>⟨hf,(P.block b (HF.out b hf)).trans (HB.out.block b (HF.out b hf)).symm⟩⟩
     have af:U g:=V.out.2 ⟨g,A,none⟩ _ K rfl (by have:=Y.out;omega);have aP:=Sto.bytes_len C.out;have M:=V.out.1.part 35 (35+B) (K-35) (by omega) (by have:=Y.out;omega) (by omega) (some ⟨g,A+35,none⟩) (.inl rfl);have I:=V.out.1.part (35+B) m (K-35-B) (by omega) (by have:=Y.out;omega) (by omega) (some ⟨g,A+35+B,none⟩) (.inl (by rw[Nat.add_assoc]));have e1:((Sto.flat (ops.drop j)).drop 35).take (35+B-35)=o.2.2:=by
      rw[HD.out,List.drop_append_of_le_length (by omega)];unfold Sto.bytes;rw[ZE,List.drop_append,C.out];have a9:=W.out;rw[show 35+B-35=o.2.2.length by omega];simp[List.take_append,C.out]
     have e2:((Sto.flat (ops.drop j)).drop (35+B)).take (m-(35+B))=Sto.flat (ops.drop (j+1)):=by
      rw[HD.out,show 35+B=(Sto.bytes o).length by have:=W.out;omega,List.drop_left,List.take_of_length_le (by have:=HN.out;have:=W.out;omega)]
     rw[e1,show 35+B-35=B by omega]at M;rw[e2]at I;have ax:=QA P;have O:=QA aj;have aA:=QA M;rw[show m-(35+B)=(m-35-B) by omega]at I;have aw:=QA I;have av:=QA hown5;clear P aj M I hown5 hgrow5 hloc5 e1 e2
     try go_wp2_with fail
     go_roundg (ops.length-(j+1))
     case measure=>rw[HK.out];omega
     case rel =>
      refine⟨j+1,l++[(o,.slice (some ⟨g,A+35,none⟩) B (K-35))],by omega,rfl,Ax.mv (F:=U) (And.intro aw.out λp n c e _=>by cases e;exact af) O.out,⟨?_,λp hp=>?_,λp hp=>?_⟩,?_,ax.out⟩
      ·have e3:(l++[(o,Value.slice (some ⟨g,A+35,none⟩) B (K-35))]).length=l.length+1:=by simp
       have e4:AU (l++[(o,Value.slice (some ⟨g,A+35,none⟩) B (K-35))])=AU l++AG o (.slice (some ⟨g,A+35,none⟩) B (K-35)):=by unfold AU;simp
       rw[e3,e4];exact av.out
      ·rcases ZI.1 hp with hp|hp
       ·exact HL.out.key p hp
       ·rw[QB.1 hp];exact C.out
      ·rcases ZI.1 hp with hp|hp
       ·exact (HL.out.val p hp).mv O.out
       ·rw[QB.1 hp];exact Ax.mv (F:=U) (And.intro aA.out λp n c e _=>by cases e;exact af) O.out
      ·unfold Sto.opsOf at ai ⊢;rw[ZQ,ai.out,List.take_add_one,ho];rfl
  ·have bS:j=ops.length:=by omega
   have hz:Sto.flat (ops.drop j)=[]:=by rw[List.drop_eq_nil_of_le (by omega)];rfl
   obtain⟨m,hm⟩:∃m,(Sto.flat (ops.drop j)).length=m:=⟨_,rfl⟩
   rw[hm];have bb:m=0:=by rw[← hm,hz];rfl
   subst bb;have az:Hid (Sto.opsOf l=ops):=by rw[ai.out,List.take_of_length_le (by omega)];exact QA rfl
   have bP:0<l.length:=by
    have h1:=congrArg List.length az.out;rw[Sto.opsOf_len]at h1;have:=HG.out.some';omega
   have bw:(0:Int)<(l.length:Int):=by omega
   have bG:l.length≤1000:=by
    have h1:=congrArg List.length az.out;rw[Sto.opsOf_len]at h1;have:=Sto.mass_len ops;omega
   clear hb hm hz;go_wp2_with fail;refine (Ct _ l wr (λ_=>True) (HL.out.opsF (λ_ _=>trivial) (λ_ _=>trivial)) (by omega) (λp hp=>by
    have h1:p.1∈ops:=by rw[← az.out];exact List.mem_map.2 ⟨p,hp,rfl⟩
    have:=Sto.mass_mem h1;omega)).mono ?_
   rintro e w2 ⟨rfl,hb2⟩;rw[az.out,HG.out.chk];have bs:=QA (HB.out.trans (hb2.mono HB.out.size));have br:=QA (HL.out.below hb2);clear hb2;go_wp2_with fail;refine bodyPost_ret (v:=.tuple #[.slice la l.length lc,.bool true]) (by simp[results,Tryz.results48,go_sem]) rfl ?_;exact⟨_,l,rfl,br.out,az.out,bs.out⟩
end Go.Proofs.YtjldahcckmmenaaGreatDoor
