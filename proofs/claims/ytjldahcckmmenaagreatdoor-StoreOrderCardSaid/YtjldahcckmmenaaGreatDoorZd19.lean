/-
  The store in a law: what a batch finds room for; keys in boxes; awake of rubriclaw06, walked. Entries as the document has them, in memory; the law's same and Fits, Steps, walked.
-/
import Derived.Test.YtjldahcckmmenaaGreatDoorZd18
import Derived.Test.YtjldahcckmmenaaGreatDoorZd15
import Derived.Laws.StructEq
import Derived.Test.YtjldahcckmmenaaGreatDoorZd7
open Array renaming getInternal_eq_getElem → QD
open Go.Lib renaming hid → QA
open List renaming mem_singleton → QB, setIfInBounds_toArray → QC, set_cons_succ → QG, set_cons_zero → QH, getElem_cons_zero → QI, getElem_cons_succ → QJ, getElem_toArray → QK, length_map → QV, mem_of_getElem? → QZ, getElem?_eq_getElem → ZG, mem_append → ZI
open Nat renaming le_refl → QM, le_trans → QQ
namespace Go.Proofs.YtjldahcckmmenaaGreatDoor
set_option maxRecDepth 100000
set_option maxHeartbeats 4000000
set_option linter.unusedSimpArgs false
set_option linter.unusedVariables false
open Go Go.RowKit
open Go.Maps Go.WideMaps
namespace Sto
theorem Can.of {f:Fs.St} {k:Nat} {ver:Int} {S:List Seg} {ops:List Op} (hD:Disk f k ver S 12297) (ho:GoodB ops) (h1:S.length≤31) (h2:(((S.length+3)*12297+800:Nat):Int)≤f.room) (h3:k≤100000):Can f k S 12297 ops:=by
 have C:=ho.mass_le;have D:=(Hw hD.x.ne ops).2;have A:((put S ops).length+1)*12297≤(S.length+2)*12297:=Nat.mul_le_mul_right _ (by omega);refine Can.mk (by omega) (λs hs=>?_) (Nat.le_of_ble_eq_true rfl) (λ_=>h2) (Int.le_trans (Int.ofNat_le.2 ?_) h2) h3
 case refine_2 =>
  refine QQ (Nat.add_le_add A (Nat.add_le_add_right C 9)) ?_;rw[Nat.add_mul,Nat.add_mul,Nat.add_assoc,Nat.add_assoc];exact Nat.add_le_add_left (Nat.le_of_ble_eq_true rfl) _
 obtain⟨E,a,B,rfl⟩:=snoc_of hD.x.ne;have o:=hD.x.len.2;rw[put_snoc]at hs;split at hs
 ·rcases ZI.1 hs with hs|hs
  ·exact o s hs
  ·rw[QB.1 hs];show (fileOf [ops]).length≤_;rw[ho.one];omega
 ·rcases ZI.1 hs with hs|hs
  ·exact o s (List.mem_append_left _ hs)
  ·rw[QB.1 hs];show (fileOf (B++[ops])).length≤_;rw[BH,List.length_append,ho.blen];omega
theorem Can.one {f:Fs.St} {k:Nat} {bs:List (List Op)} {ops:List Op} {a:Int} (ho:GoodB ops) (h1:(fileOf bs).length+(mass ops+9)≤800) (h2:(3000:Int)≤f.room) (h3:k≤100000):Can f k [(a,bs)] 800 ops:=by
 have e:put [(a,bs)] ops=[(a,bs++[ops])]:=by
  have:=put_snoc [] a bs ops;rw[if_neg (by omega)]at this;exact this
 refine⟨by rw[e];show 1≤32;omega,λs hs=>?_,by omega,λh=>?_,?_,h3⟩
 ·rw[e]at hs;rw[QB.1 hs];show (fileOf (bs++[ops])).length≤_;rw[BH,List.length_append,ho.blen];omega
 ·rw[e]at h;exact absurd h (by simp)
 ·rw[e];show (((1+1)*800+(mass ops+9):Nat):Int)≤_;omega
end Sto
theorem EF (base B r mb:Nat) (f:Fs.St) (V:FsV) (own:Nat→Tag) (ver:Int) (sv:Value) (S:List Sto.Seg) (M k:Nat) (l:Sto.ME) (v:Value) (ops:Sto.ME) (w:World)
  (h:Aa base B f V own w) (hE:Aq base w) (hbase:base≤w.heap.size) (hrb:base≤r) (hA:An w own B r ⟨ver,Sto.ids S,Sto.ents S,false⟩ mb sv l) (hD:Sto.Disk f k ver S M)
  (ho:Al w (SF r own) v ops) (hol:ops.length≤1000000000) (hbl:∀p∈ops,p.1.2.2.length≤1000000000) (hk:∀p∈ops,p.1.1.length=32) (hC:Sto.Goes S (Sto.opsOf ops)→Sto.Can f k S M (Sto.opsOf ops)) :
  Calls Tryz.prog 13 #[.pointer (some ⟨r,0,none⟩),v] w λe w'=>e=.returned (.int .i64 (Sto.wcode S (Sto.opsOf ops)))∧D3 base B r f own (Sto.wrote S (Sto.opsOf ops)) M k w w':=by
 obtain⟨o,a,A,rfl⟩:=Sto.snoc_of hD.x.ne;exact G3 base B r mb f V own ver sv o a A M k l v ops w h hE hbase hrb hA hD ho hol hbl hk hC
theorem Below.setCells {B b:Nat} {a:World} (hb:B≤b):∀(vs:List Value) (o:Nat) (w:World),Below B a w→Below B a (w.setCells b o vs)
 | [],_,_,h=>h
 | _::r,o,_,h=>Below.setCells hb r (o+1) _ (h.setCell (p:=⟨b,o,none⟩) hb _)
theorem GY (w:World) (c:Array Value) (hc:c.size=32):(w.alloc (.cells c 40)).there w.heap.size 0 32:=λj hj=>by
 have o:=AK w (.cells c 40);rw[Nat.zero_add];exact⟨by rw[AA o j _ (Array.getElem?_eq_getElem (by omega))];rfl,AE o j⟩
theorem Cj {ops:Array Oper} {rest:List Oper} {op:Oper} {a:Act} {w:World} {Q:Exit→Act→World→Prop} (hg:op.guard=none) (x y:Operand) (ho:op.op=.store 40 x y) (b:Nat) (k:List UInt8) (hk:k.length=32)
  (hx:a.eval x=.pointer (some ⟨b,0,none⟩)) (hy:a.eval y=Ah k) (ht:w.there b 0 32) (h:wpList Tryz.prog ops Q rest (a.put op.dst undef) (w.setCells b 0 (AH k))):wpList Tryz.prog ops Q (op::rest) a w :=
 wpList_store_mid hg _ x y ho b 0 (AH k).toArray hx hy (by rw[List.size_toArray,AP,hk];exact ht) (by rw[List.size_toArray,AP,hk];kernel_rfl) (all_oneCell_toArray (CW k)) h
theorem J3 (w:World) (c d:Array Value) (hc:c.size=32) (hd:d.size=32) (k m:List UInt8) (hk:k.length=32) (hm:m.length=32) :
  Below w.heap.size w ((((w.alloc (.cells c 40)).alloc (.cells d 40)).setCells w.heap.size 0 (AH k)).setCells (w.heap.size+1) 0 (AH m)) ∧
   ((((w.alloc (.cells c 40)).alloc (.cells d 40)).setCells w.heap.size 0 (AH k)).setCells (w.heap.size+1) 0 (AH m)).rangeAt w.heap.size 0 (AH k) ∧
   ((((w.alloc (.cells c 40)).alloc (.cells d 40)).setCells w.heap.size 0 (AH k)).setCells (w.heap.size+1) 0 (AH m)).rangeAt (w.heap.size+1) 0 (AH m) ∧
   ((w.alloc (.cells c 40)).alloc (.cells d 40)).there w.heap.size 0 32∧(((w.alloc (.cells c 40)).alloc (.cells d 40)).setCells w.heap.size 0 (AH k)).there (w.heap.size+1) 0 32:=by
 have A:((w.alloc (.cells c 40)).alloc (.cells d 40)).there w.heap.size 0 32:=World.there_alloc (GY w c hc) _;have B:((w.alloc (.cells c 40)).alloc (.cells d 40)).there (w.heap.size+1) 0 32:=by
  have:=GY (w.alloc (.cells c 40)) d hd
  rwa [show (w.alloc (.cells c 40)).heap.size=w.heap.size+1 by simp]at this
 have o:=World.there_setCells B w.heap.size 0 (AH k);have C:(AH k).length=32:=by rw[AP,hk]
 have D:(AH m).length=32:=by rw[AP,hm]
 refine⟨Below.setCells (by omega) _ _ _ (Below.setCells (QM _) _ _ _ (((Below.refl _ w).alloc (QM _) _).alloc (by simp) _)),?_,?_,A,o⟩
 ·exact World.rangeAt_setCells_apart (World.rangeAt_setCells_same _ _ _ _ (by rw[C];exact A)) _ _ _ (.inl (by omega))
 ·exact World.rangeAt_setCells_same _ _ _ _ (by rw[D];exact o)
theorem Bi (b:Nat):∀(vs:List Value) (o:Nat) (w:World),(w.setCells b o vs).heap.size=w.heap.size
 | [],_,_=>rfl
 | v::r,o,w=>by
  rw[World.setCells,Bi b r];simp[World.setCell]
theorem Jw (w:World) (c d:Array Value) (hc:c.size=32) (hd:d.size=32) (k m:List UInt8) (hk:k.length=32) (hm:m.length=32):∃w2:World,Below w.heap.size w w2∧w2.heap.size=w.heap.size+2∧w2.rangeAt w.heap.size 0 (AH k)∧w2.rangeAt (w.heap.size+1) 0 (AH m) ∧
   ((w.alloc (.cells c 40)).alloc (.cells d 40)).there w.heap.size 0 32∧(((w.alloc (.cells c 40)).alloc (.cells d 40)).setCells w.heap.size 0 (AH k)).there (w.heap.size+1) 0 32 ∧
   (((w.alloc (.cells c 40)).alloc (.cells d 40)).setCells w.heap.size 0 (AH k)).setCells (w.heap.size+1) 0 (AH m)=w2:=by
 obtain⟨A,B,o,C,D⟩:=J3 w c d hc hd k m hk hm;exact⟨_,A,by rw[Bi,Bi];simp,B,o,C,D,rfl⟩
theorem EJ {k:List UInt8} (hk:k.length=32):(Ah k).formed Tryz.prog 40=true:=by simp[Ah,Value.formed,Tryz.underlying40,Eb,AH,hk]
theorem Cq:∀{a b:List UInt8},(a.map λc=>Lit.int .u8 (c.toNat:Int))=(b.map λc=>Lit.int .u8 (c.toNat:Int))→a=b
 | [],[],_=>rfl
 | [],_::_,h=>by simp at h
 | _::_,[],h=>by simp at h
 | x::a,y::b,h=>by
  simp only[List.map_cons,List.cons.injEq,Lit.int.injEq,true_and]at h;rw[Cq h.2,UInt8.toNat_inj.1 (Int.ofNat_inj.1 h.1)]
theorem Ga (a b:List UInt8) (ha:a.length=32) (hb:b.length=32) (w:World):(Op.equalIn 10000 40 (Ah a) (Ah b)).run Tryz.prog w=.ok (decide (a=b)) w:=by
 obtain⟨r,A,o⟩:=run_equalIn_deep (P:=Tryz.prog) 9998 2 40 (by kernel_rfl) w 2 2 (Ah a) (Ah b) _ _ (EJ ha) (EJ hb) (by show Tryz.prog.keyLits 2 _ (AH a).toArray.toList=_;rw[List.toList_toArray];exact CU 0 a ha) (by show Tryz.prog.keyLits 2 _ (AH b).toArray.toList=_;rw[List.toList_toArray];exact CU 0 b hb);refine Eq.trans (b:=.ok r w) A ?_
 congr 1
 rw[Bool.eq_iff_iff,o,decide_eq_true_iff];exact⟨Cq,λe=>by rw[e]⟩
theorem KA (a b:List UInt8) (ha:a.length=32) (hb:b.length=32) (w:World):(binOp .eql 40 (Ah a) (Ah b)).run Tryz.prog w=.ok (.bool (decide (a=b))) w:=by
 show (binOp .eql 40 (.agg _) (.agg _)).run Tryz.prog w=_;rw[run_eql_struct,show (Op.equalIn 10000 40 (.agg (AH a).toArray) (.agg (AH b).toArray)).run Tryz.prog w=_ from Ga a b ha hb w];rfl
theorem IU (op:BinOp) (x y:Operand) (a b:List UInt8) (w:World):(eqGuard op 40 x y (Ah a) (Ah b)).run Tryz.prog w=.ok () w:=by
 have h:Tryz.prog.eqGuardType Tryz.prog.depth 40=false:=by kernel_rfl
 unfold eqGuard;cases op<;>simp[Ah,h]
theorem Hl {w:World} {base g n c:Nat} {ks:List K32} (h:Cz w base (.slice (some ⟨g,0,none⟩) n c) ks) {i:Nat} {k:K32} (hi:ks[i]?=some k):w.rangeAt g (i*32) (AH k.1):=λj u hj=>by
 have A:j<32:=by
  have:=(List.getElem?_eq_some_iff.1 hj).1
  rwa [AP,k.2]at this
 have o:(Aj ks)[i*32+j]?=some u:=by
  rw[Dg,show (i*32+j) / 32=i by omega,show (i*32+j) % 32=j by omega,hi];exact hj
 have:=World.ownsRow.cells h (g:=g) rfl _ _ o;rw[addr_add]at this;exact this
theorem J9 {x:List UInt8}:∀{ks:List K32},ks.map (·.1)=[x]→∃k:K32,ks=[k]∧k.1=x
 | [],h=>by simp at h
 | [k],h=>⟨k,rfl,by simpa using h⟩
 | _::_::_,h=>by simp at h
def aw1:List Sto.Op:=[(Ao 1,1,[120]),(Ao 2,1,[121])]
def aw2:List Sto.Op:=[(Ao 1,0,[])]
theorem B3:Sto.GoodB aw1:=⟨by kernel_rfl,by decide,by intro o ho;simp[aw1]at ho;rcases ho with rfl|rfl<;>rfl⟩
theorem DF:Sto.GoodB aw2:=⟨by kernel_rfl,by decide,by intro o ho;simp[aw2]at ho;rcases ho with rfl;rfl⟩
theorem JN:Sto.live (Sto.chgs (Sto.ents [(1,[])]) aw1)=90:=by kernel_rfl
theorem JZ:Sto.live (Sto.chgs (Sto.ents [(1,[aw1])]) aw2)=45:=by kernel_rfl
theorem KT:Sto.ents [(1,[aw1,aw2])]=[(Ao 2,1,[121])]:=by kernel_rfl
theorem GM:Sto.Goes [(1,[])] aw1:=⟨B3.chk,by rw[JN];decide,B3.some'⟩
theorem GR:Sto.Goes [(1,[aw1])] aw2:=⟨DF.chk,by rw[JZ];decide,DF.some'⟩
theorem KB:Sto.wrote [(1,[])] aw1=[(1,[aw1])]:=by
 unfold Sto.wrote;rw[if_pos GM];exact (Sto.put_snoc [] 1 [] aw1).trans (if_neg (by decide))
theorem KJ:Sto.wrote [(1,[aw1])] aw2=[(1,[aw1,aw2])]:=by
 unfold Sto.wrote;rw[if_pos GR];refine (Sto.put_snoc [] 1 [aw1] aw2).trans (if_neg ?_);rw[B3.one]
 decide
theorem GA:Sto.mass aw1=72:=by kernel_rfl
theorem JS:Sto.mass aw2=35:=by kernel_rfl
theorem FI (w:World) (c:UInt8) (fz:Nat×Nat):AZ (w.alloc (.cells #[.int .u8 (c.toNat:Int)] 5 fz)) (.slice (some ⟨w.heap.size,0,none⟩) 1 1) [c] :=
 CN [c] 1 (QM _) (by simp) λi x hi=>by
  rw[Nat.zero_add,cell_of_row _ _ _ _ _ _ (AK w _)]
  match i,hi with
  | 0,hi=>simp at hi;subst hi;rfl
  | i+1,hi=>simp at hi
theorem Ax.nil (w:World) (F:Nat→Prop):Ax w F (.slice none 0 0) []:=⟨⟨none,0,rfl,QM _,λ_=>rfl,λi x hi=>by simp at hi⟩,λp n c e _=>by simp at e⟩
theorem Cn (base:Nat) (w:World) (hE:Dm base w) (hbase:base≤w.heap.size):Calls Tryz.prog 8 #[] w λe w'=>e=.returned (.bool true)∧Below w.heap.size w w':=by
 have HE:=QA hE;clear hE;go_enter Tryz.func8,Tryz.ntmps8;go_wp2_with fail;refine (Dv base 5000 w HE.out.sg hbase (by decide) (by decide)).mono ?_;rintro e w1 ⟨r,V1,own1,sv1,mb1,rfl,hr1,hf1,hb1,hA1⟩;obtain⟨d1,d2,d3,d4,d5,d6⟩:=Sto.Disk.begin (r:=5000) (by decide) (by decide);obtain⟨f1,hf⟩:∃f,(Mf.save (Sg.create (Fs.new 5000) 1).1 1 [1]).1=f:=⟨_,rfl⟩
 rw[hf]at hf1 d5 d6;have am:=QA hf1;have N:=QA hb1;have az:=QA hA1;have bn:=QA d6;have aU:=QA d5;clear d1 d2 d3 d4 d5 d6 hf1 hb1 hA1 hf;obtain⟨B,ah,aD,ao,aR,aE,ax,aX⟩:=Jw w1 #[.int .u8 0,.int .u8 0,.int .u8 0,.int .u8 0,.int .u8 0,.int .u8 0,.int .u8 0,.int .u8 0,.int .u8 0,.int .u8 0,.int .u8 0,.int .u8 0,.int .u8 0,.int .u8 0,.int .u8 0,.int .u8 0,.int .u8 0,.int .u8 0,.int .u8 0,.int .u8 0,.int .u8 0,.int .u8 0,.int .u8 0,.int .u8 0,.int .u8 0,.int .u8 0,.int .u8 0,.int .u8 0,.int .u8 0,.int .u8 0,.int .u8 0,.int .u8 0] #[.int .u8 0,.int .u8 0,.int .u8 0,.int .u8 0,.int .u8 0,.int .u8 0,.int .u8 0,.int .u8 0,.int .u8 0,.int .u8 0,.int .u8 0,.int .u8 0,.int .u8 0,.int .u8 0,.int .u8 0,.int .u8 0,.int .u8 0,.int .u8 0,.int .u8 0,.int .u8 0,.int .u8 0,.int .u8 0,.int .u8 0,.int .u8 0,.int .u8 0,.int .u8 0,.int .u8 0,.int .u8 0,.int .u8 0,.int .u8 0,.int .u8 0,.int .u8 0] rfl rfl (Ao 1) (Ao 2) rfl rfl;have bk:=QA aX;have bc:=QA aE;have bi:=QA ax;have bg:=QA ah;have L:=QA aD;have aC:=QA ao;have aN:=QA aR;clear aX aE ax ah aD ao aR;have bA:Hid (B.heap.size=w1.heap.size+2):=L;have I:Hid (∀b,w1.heap.size≤b→SF r own1 b):=QA λb hb=>⟨am.out.fresh b hb,by have:=AC az.out.root;omega⟩
 have bx:∀(x:UInt8),Below B.heap.size B (B.alloc (.cells #[.int .u8 (x.toNat:Int)] 5)):=λx=>(Below.refl _ _).alloc (QM _) _
 have bs:=Joins.run_convert_bytes_const_at (P:=Tryz.prog) B 41 5 #[.int .u8 120] 1 1 B.heap.size rfl Tryz.underlying41 Tryz.underlying5;have br:=Joins.run_convert_bytes_const_at (P:=Tryz.prog) (B.alloc (.cells #[.int .u8 120] 5 (1,2))) 41 5 #[.int .u8 121] 1 1 (B.heap.size+1) (by simp) Tryz.underlying41 Tryz.underlying5;have a6:Hid ((B.alloc (.cells #[.int .u8 120] 5 (1,2))).rangeAt (w1.heap.size+1) 0 (AH (Ao 2))):=QA (World.rangeAt_alloc aN.out _);go_wp2_with (first|(guard_target=wpList _ _ _ ({ dst:=_,op:=.build 40 #[(0,.const (.int .u8 1))],type:=_,pos:=_,after:=_,guard:=_ }::_) _ _;refine Hn rfl _ rfl 1 rfl ?_)|(guard_target=wpList _ _ _ ({ dst:=_,op:=.build 40 #[(0,.const (.int .u8 2))],type:=_,pos:=_,after:=_,guard:=_ }::_) _ _;refine Hn rfl _ rfl 2 rfl ?_)|(guard_target=wpList _ _ _ ({ dst:=_,op:=.store 40 (.tmp 3) _,type:=_,pos:=_,after:=_,guard:=none }::_) _ _;refine Cj rfl _ _ rfl (w1.heap.size) (Ao 1) rfl rfl rfl bc.out ?_)|((guard_target=wpList _ _ _ ({ dst:=_,op:=.store 40 (.tmp 4) _,type:=_,pos:=_,after:=_,guard:=none }::_) _ _;refine Cj rfl _ _ rfl (w1.heap.size+1) (Ao 2) rfl rfl rfl bi.out ?_);rw[bk.out])|(guard_target=wpList _ _ _ ({ dst:=_,op:=.load 40 (.tmp 3),type:=_,pos:=_,after:=_,guard:=_ }::_) _ _;refine CG rfl _ rfl w1.heap.size 0 (Ao 1) rfl rfl aC.out ?_)|(guard_target=wpList _ _ _ ({ dst:=_,op:=.load 40 (.tmp 4),type:=_,pos:=_,after:=_,guard:=_ }::_) _ _;refine CG rfl _ rfl (w1.heap.size+1) 0 (Ao 2) rfl rfl a6.out ?_)|(guard_target=wpList _ _ _ ({ dst:=_,op:=.build 43 #[(0,.tmp 21),(1,_),(2,_)],type:=_,pos:=_,after:=_,guard:=_ }::_) _ _;refine Ht rfl _ _ _ rfl (Ao 1) rfl _ [120] _ rfl rfl rfl rfl ?_)|(guard_target=wpList _ _ _ ({ dst:=_,op:=.build 43 #[(0,.tmp 25),(1,_),(2,_)],type:=_,pos:=_,after:=_,guard:=_ }::_) _ _;refine Ht rfl _ _ _ rfl (Ao 2) rfl _ [121] _ rfl rfl rfl rfl ?_)|(guard_target=wpList _ _ _ ({ dst:=_,op:=.buildSlice 22 2 _,type:=_,pos:=_,after:=_,guard:=_ }::_) _ _;refine Hp rfl _ _ rfl [((Ao 1,1,[120]),.slice (some ⟨B.heap.size,0,none⟩) 1 1),((Ao 2,1,[121]),.slice (some ⟨B.heap.size+1,0,none⟩) 1 1)] (by simp[Gn]) rfl (by decide) (by decide) rfl ?_)|fail);obtain⟨U,K⟩:∃q,(B.alloc (.cells #[.int .u8 120] 5 (1,2))).alloc (.cells #[.int .u8 121] 5 (1,2))=q:=⟨_,rfl⟩
 have ag:Below B.heap.size B U:=by rw[← K];exact ((Below.refl _ _).alloc (QM _) _).alloc (by simp) _
 have aI:U.heap.size=B.heap.size+1+1:=by rw[← K];simp
 have aL:AZ U (.slice (some ⟨B.heap.size,0,none⟩) 1 1) [120]:=by rw[← K];exact (FI B 120 (1,2)).below ((Below.refl _ _).alloc (QM _) _)
 have aJ:AZ U (.slice (some ⟨B.heap.size+1,0,none⟩) 1 1) [121]:=by
  rw[← K];have:=FI (B.alloc (.cells #[.int .u8 120] 5 (1,2))) 121 (1,2)
  rwa [show (B.alloc (.cells #[.int .u8 120] 5 (1,2))).heap.size=B.heap.size+1 by simp]at this
 rw[K,← aI];obtain⟨S,C⟩:∃l:Sto.ME,[((Ao 1,(1:Int),[(120:UInt8)]),Value.slice (some ⟨B.heap.size,0,none⟩) 1 1),((Ao 2,1,[121]),.slice (some ⟨B.heap.size+1,0,none⟩) 1 1)]=l:=⟨_,rfl⟩
 have Z:Sto.opsOf S=aw1:=by rw[← C];rfl
 have ae:∀p∈S,p.1.1.length=32:=by rw[← C];intro p hp;simp at hp;rcases hp with rfl|rfl<;>rfl
 have aZ:∀p∈S,p.1.2.2.length≤1000000000:=by rw[← C];intro p hp;simp at hp;rcases hp with rfl|rfl<;>simp
 have aH:∀p∈S,Ax U (SF r own1) p.2 p.1.2.2:=by
  have hz:=L.out;rw[← C];intro p hp;simp at hp;rcases hp with rfl|rfl
  ·exact⟨aL,λq n c e _=>I.out _ (by simp at e;rw[← e.1];show _≤B.heap.size;omega)⟩
  ·exact⟨aJ,λq n c e _=>I.out _ (by simp at e;rw[← e.1];show _≤B.heap.size+1;omega)⟩
 have a0:S.length=2:=by rw[← C];rfl
 rw[C];have hO:=Al.lit (w:=U) (F:=SF r own1) S ae aH (I.out _ (by have:=L.out;omega));rw[a0]at hO;have a1:Below w1.heap.size w1 (U.alloc (.cells (AU S).toArray 43)):=bg.out.trans ((ag.mono (by have:=L.out;omega)).alloc (by have:=L.out;omega) _);have J:=QA a1;have R:Hid (Below B.heap.size B (U.alloc (.cells (AU S).toArray 43))):=QA (ag.alloc (by omega) _);have aB:=QA hO;have aQ:=QA Z;clear ag aI aL aJ aH C K hO a1 Z;obtain⟨wb,au⟩:∃q,U.alloc (.cells (AU S).toArray 43)=q:=⟨_,rfl⟩
 rw[au]at J R aB ⊢;clear au;refine (EF w.heap.size (w.heap.size+2) r mb1 f1 V1 own1 1 sv1 [(1,[])] 800 15 [] _ S wb (am.out.kept (AB J.out)) ((HE.out.sg.below ((N.out.trans (J.out.mono N.out.size)).mono hbase)).mono hbase) (QQ N.out.size J.out.size) hr1 (az.out.below J.out) bn.out aB.out (by omega) aZ ae
  (λ_=>by rw[aQ.out];exact Sto.Can.one B3 (by rw[GA];decide) (by rw[aU.out];decide) (by decide))).mono ?_
 rw[aQ.out,KB,show Sto.wcode [(1,[])] aw1=0 from Sto.wcode_ok B3.chk GM.2.1];rintro e w3 ⟨rfl,f3,V3,own3,ver3,mb3,sv3,l3,hf3,hs3,hb3,hA3,hD3,hrm3⟩;have bh:=QA hf3;have a7:=QA hA3;have bp:=QA hD3;have aM:Hid (f3.room=5000):=QA (hrm3.trans aU.out);have E:Hid (Below w.heap.size w w3):=QA ((N.out.trans (J.out.mono N.out.size)).trans hb3);have aT:Hid (∀b,w3.heap.size≤b→SF r own3 b):=QA λb hb=>⟨hf3.fresh b hb,by have:=AC hA3.root;omega⟩
 have be:SFr r own1 own3 wb w3:=hs3;have O:Hid (∀b k,w1.heap.size≤b→b<w1.heap.size+2→B.rangeAt b 0 (AH k)→w3.rangeAt b 0 (AH k)∧SF r own3 b∧b<w3.heap.size):=QA λb k hb ah hk=>by
  have hz:=L.out;have bM:=R.out.size;have h1:=I.out b hb;exact⟨AW hk ((hs3.block b (by omega) h1.1 h1.2).trans (R.out.block b (by omega))),⟨(hs3.tags b (by omega)).trans h1.1,h1.2⟩,by have:=hs3.size;omega⟩
 have aK:=QA (O.out w1.heap.size _ (QM _) (by omega) aC.out);have aw:=QA (O.out (w1.heap.size+1) _ (by omega) (by omega) aN.out);clear hf3 hs3 hb3 hA3 hD3 hrm3 aZ ae a0 O be;go_wp2_with (first|(guard_target=wpList _ _ _ ({ dst:=_,op:=.load 40 (.tmp 3),type:=_,pos:=_,after:=_,guard:=_ }::_) _ _;refine CG rfl _ rfl w1.heap.size 0 (Ao 1) rfl rfl aK.out.1 ?_)|(guard_target=wpList _ _ _ ({ dst:=_,op:=.build 43 #[(0,_)],type:=_,pos:=_,after:=_,guard:=_ }::_) _ _;refine KU rfl _ rfl (Ao 1) rfl rfl ?_)|(guard_target=wpList _ _ _ ({ dst:=_,op:=.buildSlice 22 1 _,type:=_,pos:=_,after:=_,guard:=_ }::_) _ _;refine Hp rfl _ _ rfl [((Ao 1,0,[]),.slice none 0 0)] (by simp[Gn]) rfl (by decide) (by decide) rfl ?_)|fail);have hO:=Al.lit (w:=w3) (F:=SF r own3) [((Ao 1,0,[]),.slice none 0 0)] (by intro p hp;simp at hp;rw[hp];rfl) (by intro p hp;simp at hp;rw[hp];exact Ax.nil _ _) (aT.out _ (QM _));have aP:Below w3.heap.size w3 (w3.alloc (.cells (AU [((Ao 1,0,[]),.slice none 0 0)]).toArray 43)):=(Below.refl _ _).alloc (QM _) _;have aO:=QA hO;have G:=QA aP;clear hO aP;obtain⟨wc,aG⟩:∃q,w3.alloc (.cells (AU [((Ao 1,0,[]),.slice none 0 0)]).toArray 43)=q:=⟨_,rfl⟩
 rw[aG]at G aO ⊢;clear aG;refine (EF w.heap.size (w.heap.size+2) r mb3 f3 V3 own3 ver3 sv3 [(1,[aw1])] 800 29 l3 _ [((Ao 1,0,[]),.slice none 0 0)] wc (bh.out.kept (AB G.out)) ((HE.out.sg.below ((E.out.trans (G.out.mono E.out.size)).mono hbase)).mono hbase) (QQ E.out.size G.out.size) hr1 (a7.out.below G.out) bp.out aO.out (by simp) (by intro p hp;simp at hp;rw[hp];simp) (by intro p hp;simp at hp;rw[hp];rfl)
  (λ_=>Sto.Can.one DF (by show (Sto.fileOf [aw1]).length+(Sto.mass aw2+9)≤800;rw[B3.one,GA,JS];decide) (by rw[aM.out];decide) (by decide))).mono ?_
 rw[show Sto.opsOf [((Ao 1,(0:Int),([]:List UInt8)),Value.slice none 0 0)]=aw2 from rfl,KJ,show Sto.wcode [(1,[aw1])] aw2=0 from Sto.wcode_ok DF.chk GR.2.1];rintro e w4 ⟨rfl,f4,V4,own4,ver4,mb4,sv4,l4,hf4,hs4,hb4,hA4,hD4,hrm4⟩;have bm:=QA hf4;have ar:=QA hD4;have Q:Hid (Below w.heap.size w w4):=QA ((E.out.trans (G.out.mono E.out.size)).trans hb4);have av:Hid (w4.rangeAt (w1.heap.size+1) 0 (AH (Ao 2))∧own4 (w1.heap.size+1)=.other∧w1.heap.size+1<w4.heap.size):=by
  obtain⟨k1,k2,k3⟩:=aw.out;have bN:=G.out.size;exact QA ⟨AW k1 ((hs4.block _ (by omega) k2.1 k2.2).trans (G.out.block _ k3)),(hs4.tags _ (by omega)).trans k2.1,by have:=hs4.size;omega⟩
 clear hf4 hs4 hb4 hA4 hD4 hrm4;go_wp2_with fail;refine (Ig w.heap.size (w.heap.size+2) f4 V4 own4 43 ver4 [(1,[aw1,aw2])] 800 w4 bm.out ((HE.out.below (Q.out.mono hbase)).mono hbase) Q.out.size ar.out.x (by decide)).mono ?_;rw[ar.out.clean];rintro e w5 ⟨r5,V5,own5,sv5,mb5,l5,rfl,hr5,hf5,hs5,hb5,hA5⟩;have aq:A1 w5 (SF r5 own5) mb5 l5:=⟨hA5.ents.map,hA5.ents.key,hA5.ents.val⟩
 have af:l5.map (·.1)=[(Ao 2,1,[121])]:=hA5.is.trans KT;have ap:=QA aq;have ac:=QA af;have H:=QA hA5.root;have bt:=QA hA5.srt;have aa:Hid (Below w.heap.size w w5):=QA (Q.out.trans hb5);have M:Hid (w5.rangeAt (w1.heap.size+1) 0 (AH (Ao 2))∧w1.heap.size+1<w5.heap.size):=by
  obtain⟨k1,k2,k3⟩:=av.out;exact QA ⟨AW k1 (hs5.block _ k3 k2 (by omega)),by have:=hs5.size;omega⟩
 have bw:l5.length=1:=by have:=congrArg List.length af;rwa [QV]at this
 clear aq af hf5 hs5 hb5 hA5;have y0:=rc0 H.out;have y1:=rc1 H.out;have y2:=rc2 H.out;have y3:=rc3 H.out;have y4:=rc4 H.out;go_wp2_with fail;refine (E6 mb5 l5 w5 _ ap.out (by rw[ac.out];exact List.pairwise_singleton _ _) (by omega)).mono ?_;rintro e w6 ⟨kv,ks,rfl,hok,hks,hb6⟩;have Y:ks.map (·.1)=[Ao 2]:=by
  rw[hks,show (λp:Sto.Op×Value=>p.1.1)=(λo:Sto.Op=>o.1)∘(λp:Sto.Op×Value=>p.1) from rfl,← List.map_map,ac.out];rfl
 obtain⟨kk,bb,X⟩:=J9 Y;subst bb;obtain⟨T,kc,a9⟩:=Bj hok (by simp);subst a9;have aW:w6.rangeAt T 0 (AH (Ao 2)):=by
  have:=Hl hok (i:=0) rfl
  rwa [X]at this
 have ba:=QA aW;have bj:Hid (T<w6.heap.size):=QA (hok.lt T rfl).2;have aA:Hid (w5.heap.size≤w6.heap.size):=QA hb6.size;have ab:Hid (Below w.heap.size w w6):=QA (aa.out.trans (hb6.mono aa.out.size));have ad:Hid (w6.heap[r5]?=some (.cells (AF ver4 sv5 mb5 (w.heap.size+2) false) 51 (0,0))):=QA ((hb6.block _ (AC H.out)).trans H.out);have bf:=QA (ap.out.below hb6);have W:Hid (w6.rangeAt (w1.heap.size+1) 0 (AH (Ao 2))):=QA (AW M.out.1 (hb6.block _ M.out.2));clear aW hok hks Y X hb6 y0 y1 y2 y3 y4;go_wp2_with fail;refine AM (λw'=>w'.heap[r5]?=some (.cells (AF ver4 sv5 mb5 (w.heap.size+2) false) 51 (0,0))∧w'.rangeAt (w1.heap.size+1) 0 (AH (Ao 2))) 13 (by kernel_rfl) ?_;have A:w6.drew.heap[r5]?=some (.cells (AF ver4 sv5 mb5 (w.heap.size+2) false) 51 (0,0))∧w6.drew.rangeAt (w1.heap.size+1) 0 (AH (Ao 2)):=⟨ad.out,(World.rangeAt_drew _ _ _ _).2 W.out⟩
 change Af _ _ _ _ _ _ _ _ _ w6.drew;refine TK (i:=0) (v:=.pointer (some ⟨r5,0,none⟩)) rfl (Or.inl ⟨by rfl,λw hSw=>by go_simp⟩) A ?_;simp only[Act.put,QD,QK,QI,QJ,QC,QH,QG];refine TK (i:=1) (v:=.pointer (some ⟨r5,0,none⟩)) rfl (Or.inl ⟨by rfl,λw hSw=>by go_simp⟩) A ?_;simp only[Act.put,QD,QK,QI,QJ,QC,QH,QG];refine TK (i:=2) (v:=.pointer (some ⟨r5,2,none⟩)) rfl (Or.inl ⟨by rfl,λw hSw=>by go_simp⟩) A ?_;simp only[Act.put,QD,QK,QI,QJ,QC,QH,QG];refine TK (i:=3) (v:=.map (some mb5)) rfl (Or.inl ⟨by rfl,λw hSw=>by have bo:=rc2 hSw.1;go_simp⟩) A ?_;simp only[Act.put,QD,QK,QI,QJ,QC,QH,QG];refine TK (i:=4) (v:=Ah (Ao 2)) rfl (Aw rfl _ rfl (w1.heap.size+1) 0 rfl (Ao 2) rfl (λw hSw=>hSw.2)) A ?_;simp only[Act.put,QD,QK,QI,QJ,QC,QH,QG];refine TO (i:=5) ?_;refine AD (by decide) (λK5 HK5=>?_);simp only[List.drop_succ_cons,List.drop_zero,List.take_succ_cons,List.take_zero];go_wp2_with fail;have aV:Sto.getE (l5.map (·.1)) (Ao 2)=(1,[121],true):=by rw[ac.out];kernel_rfl
 have an:=QA aV;clear aV;refine (C4 mb5 l5 (Ao 2) w6.drew _ (bf.out.below (Below.drew (Below.refl _ _))) rfl (by rw[an.out];decide)).mono ?_;rw[an.out];rintro e w7 ⟨gv,rfl,hgv,hb7⟩;obtain⟨ga,gn,gc,ay,bD⟩:=Ag.form3 hgv;subst ay;have a8:=QA hgv;have D:Below w6.heap.size w6 w7:=(Below.drew (Below.refl _ w6)).trans hb7;have aF:Hid (Below w.heap.size w w7):=QA (ab.out.trans (D.mono ab.out.size));have aY:Hid (w7.rangeAt T 0 (AH (Ao 2))):=QA (AW ba.out (D.block _ bj.out));have V:Hid (w7.rangeAt (w1.heap.size+1) 0 (AH (Ao 2))):=QA (AW W.out (D.block _ (by have:=M.out.2;have:=aA.out;omega)));have A:=(⟨(D.block _ (AC ad.out)).trans ad.out,V.out⟩:w7.heap[r5]?=some (.cells (AF ver4 sv5 mb5 (w.heap.size+2) false) 51 (0,0))∧w7.rangeAt (w1.heap.size+1) 0 (AH (Ao 2)))
 clear hgv hb7 D;go_wp2;refine HK5.out _ _ ⟨λ_=>A,?_⟩;clear HK5;refine TK (i:=6) (v:=.tuple #[.int .i64 1,.slice ga gn gc,.bool true]) rfl (Or.inl ⟨by rfl,λw hSw=>by go_simp⟩) A ?_;simp only[Act.put,QD,QK,QI,QJ,QC,QH,QG];refine TK (i:=7) (v:=.int .i64 1) rfl (Or.inl ⟨by rfl,λw hSw=>by go_simp⟩) A ?_;simp only[Act.put,QD,QK,QI,QJ,QC,QH,QG];refine TK (i:=8) (v:=.slice ga gn gc) rfl (Or.inl ⟨by rfl,λw hSw=>by go_simp⟩) A ?_;simp only[Act.put,QD,QK,QI,QJ,QC,QH,QG];refine TK (i:=9) (v:=.bool true) rfl (Or.inl ⟨by rfl,λw hSw=>by go_simp⟩) A ?_;simp only[Act.put,QD,QK,QI,QJ,QC,QH,QG];refine TK (i:=10) (v:=.int .i64 1) rfl (Or.inl ⟨by rfl,λw hSw=>by go_simp⟩) A ?_;simp only[Act.put,QD,QK,QI,QJ,QC,QH,QG];refine TK (i:=11) (v:=.slice ga gn gc) rfl (Or.inl ⟨by rfl,λw hSw=>by go_simp⟩) A ?_;simp only[Act.put,QD,QK,QI,QJ,QC,QH,QG];refine TK (i:=12) (v:=.bool true) rfl (Or.inl ⟨by rfl,λw hSw=>by go_simp⟩) A ?_;simp only[Act.put,QD,QK,QI,QJ,QC,QH,QG];refine AO (by kernel_rfl) ?_ _;go_wp2_with fail;refine AM (λw'=>w'.rangeAt T 0 (AH (Ao 2))∧w'.rangeAt (w1.heap.size+1) 0 (AH (Ao 2))∧AZ w' (.slice ga gn gc) [121]) 19 (by kernel_rfl) ?_;have A:w7.drew.rangeAt T 0 (AH (Ao 2))∧w7.drew.rangeAt (w1.heap.size+1) 0 (AH (Ao 2))∧AZ w7.drew (.slice ga gn gc) [121]:=⟨(World.rangeAt_drew _ _ _ _).2 aY.out,(World.rangeAt_drew _ _ _ _).2 V.out,a8.out.byts.below (Below.drew (Below.refl _ _))⟩
 change Af _ _ _ _ _ _ _ _ _ w7.drew;have bQ:∀w',(binOp .eql 40 (Ah (Ao 2)) (Ah (Ao 2))).run Tryz.prog w'=.ok (.bool true) w':=λw'=>by rw[KA _ _ rfl rfl,decide_eq_true rfl]
 refine TK (i:=0) (v:=.slice (some ⟨T,0,none⟩) 1 kc) rfl (Or.inl ⟨by rfl,λw hSw=>by go_simp⟩) A ?_;simp only[Act.put,QD,QK,QI,QJ,QC,QH,QG];refine TK (i:=1) (v:=.int .i64 1) rfl (Or.inl ⟨by rfl,λw hSw=>by go_simp⟩) A ?_;simp only[Act.put,QD,QK,QI,QJ,QC,QH,QG];refine TK (i:=2) (v:=.bool true) rfl (Or.inl ⟨by rfl,λw hSw=>by go_simp⟩) A ?_;simp only[Act.put,QD,QK,QI,QJ,QC,QH,QG];refine TK (i:=3) (v:=.bool true) rfl (Or.inl ⟨by rfl,λw hSw=>by go_simp⟩) A ?_;simp only[Act.put,QD,QK,QI,QJ,QC,QH,QG];refine TK (i:=4) (v:=.slice (some ⟨T,0,none⟩) 1 kc) rfl (Or.inl ⟨by rfl,λw hSw=>by go_simp⟩) A ?_;simp only[Act.put,QD,QK,QI,QJ,QC,QH,QG];refine TK (i:=5) (v:=.pointer (some ⟨T,0,none⟩)) rfl (Or.inl ⟨by rfl,λw hSw=>by go_simp⟩) A ?_;simp only[Act.put,QD,QK,QI,QJ,QC,QH,QG];refine TK (i:=6) (v:=Ah (Ao 2)) rfl (Aw rfl _ rfl T 0 rfl (Ao 2) rfl (λw hSw=>hSw.1)) A ?_;simp only[Act.put,QD,QK,QI,QJ,QC,QH,QG];refine TK (i:=7) (v:=Ah (Ao 2)) rfl (Aw rfl _ rfl (w1.heap.size+1) 0 rfl (Ao 2) rfl (λw hSw=>hSw.2.1)) A ?_;simp only[Act.put,QD,QK,QI,QJ,QC,QH,QG];have bJ:=IU .eql;refine TK (i:=8) (v:=.bool true) rfl (Or.inl ⟨by rfl,λw hSw=>by go_simp⟩) A ?_;simp only[Act.put,QD,QK,QI,QJ,QC,QH,QG];refine TK (i:=9) (v:=.bool true) rfl (Or.inl ⟨by rfl,λw hSw=>by go_simp⟩) A ?_;simp only[Act.put,QD,QK,QI,QJ,QC,QH,QG];refine TK (i:=10) (v:=.bool true) rfl (Or.inl ⟨by rfl,λw hSw=>by go_simp⟩) A ?_;simp only[Act.put,QD,QK,QI,QJ,QC,QH,QG];refine TK (i:=11) (v:=.bool true) rfl (Or.inl ⟨by rfl,λw hSw=>by go_simp⟩) A ?_;simp only[Act.put,QD,QK,QI,QJ,QC,QH,QG];refine TK (i:=12) (v:=.bool true) rfl (Or.inl ⟨by rfl,λw hSw=>by go_simp⟩) A ?_;simp only[Act.put,QD,QK,QI,QJ,QC,QH,QG];refine TK (i:=13) (v:=.bool true) rfl (Or.inl ⟨by rfl,λw hSw=>by go_simp⟩) A ?_;simp only[Act.put,QD,QK,QI,QJ,QC,QH,QG];refine TK (i:=14) (v:=.slice ga gn gc) rfl (Or.inl ⟨by rfl,λw hSw=>by go_simp⟩) A ?_;simp only[Act.put,QD,QK,QI,QJ,QC,QH,QG];refine TK (i:=15) (v:=.string ⟨#[121]⟩) rfl (Or.inl ⟨by rfl,λw hSw=>by have bo:=(Cl hSw.2.2);go_simp⟩) A ?_;simp only[Act.put,QD,QK,QI,QJ,QC,QH,QG];refine TK (i:=16) (v:=.bool true) rfl (Or.inl ⟨by rfl,λw hSw=>by go_simp⟩) A ?_;simp only[Act.put,QD,QK,QI,QJ,QC,QH,QG];refine TK (i:=17) (v:=.bool true) rfl (Or.inl ⟨by rfl,λw hSw=>by go_simp⟩) A ?_;simp only[Act.put,QD,QK,QI,QJ,QC,QH,QG];refine TK (i:=18) (v:=.bool true) rfl (Or.inl ⟨by rfl,λw hSw=>by go_simp⟩) A ?_;simp only[Act.put,QD,QK,QI,QJ,QC,QH,QG];refine AO (by kernel_rfl) ?_ _;go_wp2_with fail;refine bodyPost_ret (v:=.bool true) (by simp[results,Tryz.results8,go_sem]) rfl ?_;exact⟨rfl,Below.drew aF.out⟩
open Go.Maps Go.WideMaps
def txt (l:List UInt8):Value:=.string ⟨l.toArray⟩
structure ROk (o:Sto.Op):Prop where
 key:o.1.length=32
 kind:-9223372036854775808≤o.2.1∧o.2.1≤9223372036854775807
 val:o.2.2.length≤1000000000
def AR (o:Sto.Op):List Value:=AG o (txt o.2.2)
def BR (E:Sto.Ents):List Value:=AU (E.map λo=>(o,txt o.2.2))
theorem A6 {o:Sto.Op} (h:o.1.length=32):(AR o).length=34:=Ac h _
theorem KE (l:List UInt8):(txt l).oneCell'=true:=rfl
def DO (w:World) (F:Nat→Prop) (v:Value) (E:Sto.Ents):Prop :=
 ∃a cap,v=.slice a E.length cap∧E.length≤cap∧∀(i:Nat) o,E[i]?=some o→ROk o∧∃g off,a=some ⟨g,off,none⟩∧g<w.heap.size∧F g∧w.rangeAt g (off+i*34) (AR o)
theorem DO.form {w:World} {F:Nat→Prop} {v:Value} {E:Sto.Ents} (h:DO w F v E):∃a cap,v=.slice a E.length cap:=by
 obtain⟨a,cap,o,_⟩:=h;exact⟨a,cap,o⟩
theorem DO.at {w:World} {F:Nat→Prop} {a:Option Addr} {n cap:Nat} {E:Sto.Ents} (h:DO w F (.slice a n cap) E) {i:Nat} {o:Sto.Op} (hi:E[i]?=some o) :
  ROk o∧∃g off,a=some ⟨g,off,none⟩∧g<w.heap.size∧w.rangeAt g (off+i*34) (AR o):=by
 obtain⟨J,A,B,_,H⟩:=h;simp only[Value.slice.injEq]at B;rw[B.1];obtain⟨G,g,off,D,I,_,C⟩:=H i o hi;exact⟨G,g,off,D,I,C⟩
theorem DO.mv {F F':Nat→Prop} {w w':World} {v:Value} {E:Sto.Ents} (h:DO w F v E) (m:MV F F' w w'):DO w' F' v E:=by
 obtain⟨a,cap,D,I,H⟩:=h;refine⟨a,cap,D,I,λi p hi=>?_⟩;obtain⟨G,g,o,C,A,B,K⟩:=H i p hi;obtain⟨L,J⟩:=m.2 g A B;exact⟨G,g,o,C,Nat.lt_of_lt_of_le A m.1,L,AW K J⟩
theorem DO.ok {w:World} {F:Nat→Prop} {v:Value} {E:Sto.Ents} (h:DO w F v E):∀o∈E,ROk o:=λo ho=>by
 obtain⟨i,B⟩:=List.getElem?_of_mem ho;obtain⟨a,cap,C,D,A⟩:=h;exact (A i o B).1
structure CP (w:World) (base:Nat) (v:Value) (E:Sto.Ents):Prop where
 row:w.ownsRow base 82 34 v E.length (BR E)
 ok:∀o∈E,ROk o
theorem FN (E D:Sto.Ents):BR (E++D)=BR E++BR D:=by unfold BR AU;rw[List.map_append,List.flatMap_append]
theorem FX (o:Sto.Op):BR [o]=AR o:=by unfold BR AU AR;simp
theorem CP.rosF {w:World} {base:Nat} {F:Nat→Prop} {v:Value} {E:Sto.Ents} (h:CP w base v E) (hF:∀b,base≤b→F b):DO w F v E:=by
 have A:=λg hg=>World.ownsRow.cells (g:=g) h.row hg
 rcases h.row.2 with⟨h1,h2⟩|⟨g,cap,cur,h1,hg,hb,hc,hm,_,_⟩
 ·have C:E=[]:=List.eq_nil_of_length_eq_zero h2;subst C;exact⟨none,0,h1,QM _,λi p hp=>by simp at hp⟩
 ·refine⟨some ⟨g,0,none⟩,cap,h1,hc,λi o hi=>⟨h.ok o (QZ hi),g,0,rfl,AC hb,hF g hg,λj u hj=>?_⟩⟩;have D:∀p∈E.map (λo=>(o,txt o.2.2)),p.1.1.length=32:=λp hp=>by obtain⟨o,G,rfl⟩:=List.mem_map.1 hp;exact (h.ok o G).key
  have B:(E.map λo=>(o,txt o.2.2))[i]?=some (o,txt o.2.2):=by rw[List.getElem?_map,hi];rfl
  have:=A g (by rw[h1];rfl) (i*34+j) u (Bb _ D i _ j u B hj);rw[addr_add]at this;rw[Nat.zero_add];exact this
theorem CP.nil (w:World) (base:Nat):CP w base (.slice none 0 0) []:=⟨World.ownsRow_nil _ _ _ _,λo h=>by simp at h⟩
theorem CP.keep {w w':World} {base:Nat} {v:Value} {E:Sto.Ents} (h:CP w base v E) (hb:Below w.heap.size w w'):CP w' base v E:=⟨AN h.row (λg hg=>hb.block g (h.row.lt g hg).2),h.ok⟩
theorem CP.form {w:World} {base:Nat} {v:Value} {E:Sto.Ents} (h:CP w base v E):∃a c,v=.slice a E.length c:=by
 rcases h.row.2 with⟨h1,h2⟩|⟨g,cap,cur,h1,_⟩
 ·exact⟨none,0,by rw[h1,h2]⟩
 ·exact⟨_,_,h1⟩
theorem Dd {ops:Array Oper} {S:World→Prop} {op:Oper} {a:Act} (hw:Region.wanted op (yielded ops a.tmps)=true) (x:Operand) (ho:op.op=.load 82 x) (b o:Nat) (hx:a.eval x=.pointer (some ⟨b,o,none⟩)) (p:Sto.Op) (hk:p.1.length=32)
  (hS:∀w,S w→w.rangeAt b o (AR p)):YieldsIf Tryz.prog ops S op (.agg (AR p).toArray) a :=
 yieldsIf_load_mid hw _ x ho b o hx (AR p) _ hS Tryz.underlying82 rfl (by rw[A6 hk];kernel_rfl)
/-! ### Two entries are the same -/
theorem GH (m:Nat) (k:List UInt8) (hk:k.length=32):Tryz.prog.keyLits (m+2) 39 (AH k)=some (k.map λc=>Lit.int .u8 (c.toNat:Int)):=by
 unfold Program.keyLits;simp only[Tryz.underlying39];rw[if_pos (by rw[show Tryz.prog.cellsOf 39=32 by kernel_rfl];simp[AH,hk]),mapM_some (g:=λi=>[Lit.int .u8 ((k.getD i 0).toNat:Int)]) _ (λi hi=>?_)]
 ·rw[Option.map_some]
  congr 1
  have:(List.range 32).map (λi=>[Lit.int .u8 ((k.getD i 0).toNat:Int)])=k.map λc=>[Lit.int .u8 (c.toNat:Int)]:=by
   apply List.ext_getElem
   ·simp[hk]
   ·intro i h1 h2;simp at h1 h2;simp[ZG h2]
  rw[this];clear this hk
  induction k with
  | nil=>rfl
  | cons c r ih=>rw[List.map_cons,List.flatten_cons,ih];rfl
 ·have o:i<k.length:=by have:=List.mem_range.1 hi;omega
  rw[Kj];have:((AH k).drop (i*1)).take 1=[Value.int .u8 ((k.getD i 0).toNat:Int)]:=by
   rw[Nat.mul_one,List.drop_eq_getElem_cons (by simpa [AH] using o),List.take_succ_cons,List.take_zero];simp[AH,ZG o]
  rw[this];exact EH m _
def FS (o:Sto.Op):List Lit:=(o.1.map λc=>Lit.int .u8 (c.toNat:Int))++[.int .i64 o.2.1,.string o.2.2]
theorem Hg {a b:Sto.Op} (ha:a.1.length=32) (hb:b.1.length=32) (h:FS a=FS b):a=b:=by
 unfold FS at h;obtain⟨A,o⟩:=List.append_inj h (by rw[QV,QV,ha,hb]);simp only[List.cons.injEq,Lit.int.injEq,Lit.string.injEq,true_and,and_true]at o;exact Prod.ext (Cq A) (Prod.ext o.1 o.2)
theorem Kr (n:Int) (h:-9223372036854775808≤n∧n≤9223372036854775807):(Lit.int .i64 n).wf=true:=by
 have o:IntKind.i64.min=-9223372036854775808:=by decide
 have A:IntKind.i64.max=9223372036854775807:=by decide
 simp[Lit.wf,o,A];omega
theorem KG (o:Sto.Op) (h:o.1.length=32):(AR o).take 32=AH o.1∧((AR o).drop 32).take 1=[.int .i64 o.2.1]∧((AR o).drop 33).take 1=[txt o.2.2]:=by
 have A:(AH o.1).length=32:=by rw[AP,h]
 unfold AR AG;refine⟨?_,?_,?_⟩
 ·rw[← A];exact List.take_left
 ·rw[show (32:Nat)=(AH o.1).length from A.symm,List.drop_left];rfl
 ·rw[show (33:Nat)=(AH o.1).length+1 by omega,← List.drop_drop,List.drop_left];rfl
theorem EG {o:Sto.Op} (h:ROk o):Tryz.prog.keyLits 3 82 (AR o)=some (FS o):=by
 obtain⟨B,F,A⟩:=KG o h.key;have C:Tryz.prog.keyLits 2 3 [.int .i64 o.2.1]=some [.int .i64 o.2.1]:=by
  unfold Program.keyLits;simp only[Tryz.underlying3,Kr _ h.kind,and_self,if_true]
 have D:Tryz.prog.keyLits 2 9 [txt o.2.2]=some [.string o.2.2]:=by
  unfold Program.keyLits txt;have:(⟨o.2.2.toArray⟩:ByteArray).size≤maxLen:=by show o.2.2.toArray.size≤_;have:=h.val;unfold maxLen;simp;omega
  simp only[Tryz.underlying9,this,if_true]
 have E:=GH 0 o.1 h.key;unfold Program.keyLits;simp only[Tryz.underlying82];rw[if_pos ⟨by rw[A6 h.key];kernel_rfl,by kernel_rfl⟩];simp only[List.mapM_cons,List.mapM_nil,List.drop_zero,show Tryz.prog.cellsOf 39=32 by kernel_rfl,show Tryz.prog.cellsOf 3=1 by kernel_rfl,show Tryz.prog.cellsOf 9=1 by kernel_rfl,B,F,A,E,C,D];rfl
theorem FJ {o:Sto.Op} (h:o.1.length=32):(Value.agg (AR o).toArray).formed Tryz.prog 82=true:=by
 have A:Tryz.prog.cellsOf 82=34:=by kernel_rfl
 simp[Value.formed,Tryz.underlying82,A,A6 h]
theorem G7 (a b:Sto.Op) (ha:ROk a) (hb:ROk b) (w:World):(Op.equalIn 10000 82 (.agg (AR a).toArray) (.agg (AR b).toArray)).run Tryz.prog w=.ok (decide (a=b)) w:=by
 obtain⟨r,A,o⟩:=run_equalIn_deep (P:=Tryz.prog) 9997 3 82 (by kernel_rfl) w 3 3 (.agg (AR a).toArray) (.agg (AR b).toArray) _ _ (FJ ha.key) (FJ hb.key) (by show Tryz.prog.keyLits 3 _ (AR a).toArray.toList=_;rw[List.toList_toArray];exact EG ha) (by show Tryz.prog.keyLits 3 _ (AR b).toArray.toList=_;rw[List.toList_toArray];exact EG hb);refine Eq.trans (b:=.ok r w) A ?_
 congr 1
 rw[Bool.eq_iff_iff,o,decide_eq_true_iff];exact⟨Hg ha.key hb.key,λe=>by rw[e]⟩
theorem Ko (a b:Sto.Op) (ha:ROk a) (hb:ROk b) (w:World):(binOp .neq 82 (.agg (AR a).toArray) (.agg (AR b).toArray)).run Tryz.prog w=.ok (.bool (!decide (a=b))) w:=by
 rw[run_neq_struct,G7 a b ha hb w];rfl
theorem Jk (op:BinOp) (x y:Operand) (a b:Sto.Op) (w:World):(eqGuard op 82 x y (.agg (AR a).toArray) (.agg (AR b).toArray)).run Tryz.prog w=.ok () w:=by
 have h:Tryz.prog.eqGuardType Tryz.prog.depth 82=false:=by kernel_rfl
 unfold eqGuard;cases op<;>simp[h]
theorem E5 (a b:Value) (E D:Sto.Ents) (w:World) (F G:Nat→Prop) (ha:DO w F a E) (hb:DO w G b D) (hl:E.length≤1000000000) (hm:D.length≤1000000000) :
  Calls Tryz.prog 15 #[a,b] w λe w'=>e=.returned (.bool (decide (E=D)))∧Below w.heap.size w w':=by
 obtain⟨aa,ac,rfl⟩:=ha.form;obtain⟨ba,bc,rfl⟩:=hb.form;have HA:=QA ha;have HB:=QA hb;clear ha hb;go_enter Tryz.func15,Tryz.ntmps15;by_cases hlen:E.length=D.length
 ·have ht:((E.length:Int) != (D.length:Int))=false:=by rw[hlen];simp
  have S:(E.length != D.length)=false:=by rw[hlen];simp
  have o:=QA hlen;clear hlen;go_wp2_with fail
  go_loopg [13] E.length (λk s13 wr=>∃j:Nat,j≤E.length∧k=E.length-j∧s13=.int .i64 (j:Nat)∧E.take j=D.take j∧∃n,wr=w.drewN n)
  case atStart=>exact⟨0,Nat.zero_le _,rfl,rfl,by simp,0,rfl⟩
  case round =>
   obtain⟨j,hj,V,rfl,J,nd,rfl⟩:=hrel;have HK:=QA V;have K:=QA J;clear V J;have an:(0:Int)≤(j:Int):=Int.natCast_nonneg _;by_cases hjn:j<E.length
   ·have N:(j:Int)<(E.length:Int):=by omega
    have W:(j:Int)<(D.length:Int):=by have:=o.out;omega
    obtain⟨x,Q⟩:∃x,E[j]?=some x:=⟨_,ZG hjn⟩
    obtain⟨y,R⟩:∃y,D[j]?=some y:=⟨_,ZG (by have:=o.out;omega)⟩
    obtain⟨U,M,H,rfl,af,c1⟩:=HA.out.at Q;obtain⟨Z,L,O,rfl,ae,c2⟩:=HB.out.at R;have Y:=QA Q;have X:=QA R;have I:=QA U;have B:=QA Z;clear Q R U Z;go_wp2_with fail;refine AM (λw'=>w'.rangeAt M (H+j*34) (AR x)∧w'.rangeAt L (O+j*34) (AR y)) 9 (by kernel_rfl) ?_;have A:(w.drewN nd).drew.rangeAt M (H+j*34) (AR x)∧(w.drewN nd).drew.rangeAt L (O+j*34) (AR y):=⟨(World.rangeAt_drew _ _ _ _).2 c1,(World.rangeAt_drew _ _ _ _).2 c2⟩
    change Af _ _ _ _ _ _ _ _ _ (w.drewN nd).drew;refine TK (i:=0) (v:=.slice (some ⟨M,H,none⟩) E.length ac) rfl (Or.inl ⟨by rfl,λw hSw=>by go_simp⟩) A ?_;simp only[Act.put,QD,QK,QI,QJ,QC,QH,QG];refine TK (i:=1) (v:=.int .i64 (j:Nat)) rfl (Or.inl ⟨by rfl,λw hSw=>by go_simp⟩) A ?_;simp only[Act.put,QD,QK,QI,QJ,QC,QH,QG];refine TK (i:=2) (v:=.pointer (some ⟨M,H+j*34,none⟩)) rfl (Or.inl ⟨by rfl,λw hSw=>by go_simp⟩) A ?_;simp only[Act.put,QD,QK,QI,QJ,QC,QH,QG];refine TK (i:=3) (v:=.agg (AR x).toArray) rfl (Dd rfl _ rfl M (H+j*34) rfl x I.out.key (λw hSw=>hSw.1)) A ?_;simp only[Act.put,QD,QK,QI,QJ,QC,QH,QG];refine TK (i:=4) (v:=.slice (some ⟨L,O,none⟩) D.length bc) rfl (Or.inl ⟨by rfl,λw hSw=>by go_simp⟩) A ?_;simp only[Act.put,QD,QK,QI,QJ,QC,QH,QG];refine TK (i:=5) (v:=.int .i64 (j:Nat)) rfl (Or.inl ⟨by rfl,λw hSw=>by go_simp⟩) A ?_;simp only[Act.put,QD,QK,QI,QJ,QC,QH,QG];refine TK (i:=6) (v:=.pointer (some ⟨L,O+j*34,none⟩)) rfl (Or.inl ⟨by rfl,λw hSw=>by go_simp⟩) A ?_;simp only[Act.put,QD,QK,QI,QJ,QC,QH,QG];refine TK (i:=7) (v:=.agg (AR y).toArray) rfl (Dd rfl _ rfl L (O+j*34) rfl y B.out.key (λw hSw=>hSw.2)) A ?_;simp only[Act.put,QD,QK,QI,QJ,QC,QH,QG];have ag:=Jk .neq;have ah:=Ko x y I.out B.out;refine TK (i:=8) (v:=.bool (!decide (x=y))) rfl (Or.inl ⟨by rfl,λw hSw=>by go_simp⟩) A ?_;simp only[Act.put,QD,QK,QI,QJ,QC,QH,QG];refine AO (by kernel_rfl) ?_ _;by_cases hxy:x=y
    ·have P:(!decide (x=y))=false:=by rw[decide_eq_true hxy];rfl
     rw[P];go_wp2_with fail;go_roundg (E.length-(j+1))
     case measure=>rw[HK.out];omega
     case rel=>exact⟨j+1,by omega,rfl,by simp,by rw[List.take_add_one,List.take_add_one,K.out,Y.out,X.out,hxy],nd+1,by first|rfl|(simp[World.drewN,World.drew];omega)⟩
    ·have P:(!decide (x=y))=true:=by rw[decide_eq_false hxy];rfl
     have C:Hid (decide (E=D)=false):=QA (decide_eq_false (λe=>hxy (by have:=Y.out;rw[e,X.out]at this;exact (Option.some.inj this).symm)));rw[P];go_wp2_with fail;go_ret;exact⟨by rw[C.out];rfl,Below.drew (Below.drewN (Below.refl _ _) _)⟩
   ·have N:(E.length:Int)≤(j:Int):=by omega
    have C:Hid (decide (E=D)=true):=by
     have T:=K.out;rw[List.take_of_length_le (by omega),List.take_of_length_le (by have:=o.out;omega)]at T;exact QA (decide_eq_true T)
    go_wp2_with fail;go_ret;exact⟨by rw[C.out];rfl,Below.drewN (Below.refl _ _) _⟩
 ·have ht:((E.length:Int) != (D.length:Int))=true:=by rw[bne_iff_ne];omega
  have S:(E.length != D.length)=true:=by rw[bne_iff_ne];exact hlen
  have C:Hid (decide (E=D)=false):=QA (decide_eq_false (λe=>hlen (by rw[e])));clear hlen;go_wp2_with fail;go_ret;exact⟨by rw[C.out];rfl,Below.refl _ _⟩
def JC (l:Sto.ME) (w:World) (e:Ending) (w':World):Prop :=
 ∃b,e=.returned (.bool b)∧(b=true→l.length≤70∧∀p∈l,p.1.2.2.length≤9000)∧Below w.heap.size w w'
theorem Il (v:Value) (l:Sto.ME) (w:World) (F:Nat→Prop) (h:Al w F v l) (hl:l.length≤9223372036854775807) (hb:∀p∈l,p.1.2.2.length≤9223372036854775807) :
  Calls Tryz.prog 9 #[.agg #[.int .i64 0,.int .i64 0,v,.slice none 0 0]] w (JC l w):=by
 obtain⟨va,vc,rfl⟩:=h.form;have D:Below w.heap.size w (w.alloc (.cells #[.int .i64 0,.int .i64 0,.slice va l.length vc,.slice none 0 0] 27)):=(Below.refl _ _).alloc (QM _) _;have H:=QA (h.mv (MV.below D));have C:=QA D;have Y:=QA hb;clear h D hb;go_enter Tryz.func9,Tryz.ntmps9;by_cases h70:70<l.length
 ·have U:(70:Int)<(l.length:Int):=by omega
  go_wp2_with fail;go_ret;exact⟨false,rfl,λe=>(by cases e),C.out⟩
 ·have U:(l.length:Int)≤70:=by omega
  go_wp2_with fail;obtain⟨W,Q⟩:∃x,w.alloc (.cells #[.int .i64 0,.int .i64 0,.slice va l.length vc,.slice none 0 0] 27)=x:=⟨_,rfl⟩
  rw[Q]at C H ⊢;clear Q
  go_loopg [3,19] l.length (λk s3 s19 wr=>∃j n:Nat,j≤l.length∧k=l.length-j∧s19=.int .i64 (j:Nat)∧s3=.int .i64 (n:Nat)∧n≤9000∧(∀p∈l.take j,p.1.2.2.length≤9000)∧Below W.heap.size W wr)
  case atStart=>exact⟨0,0,Nat.zero_le _,rfl,rfl,rfl,Nat.zero_le _,λp E=>(by simp at E),Below.refl _ _⟩
  case round =>
   obtain⟨j,n,hj,hk,rfl,rfl,hn,K,hB⟩:=hrel;have HK:=QA hk;have V:=QA hB;have J:=QA K;clear hk hB K;have aj:(0:Int)≤(j:Int):=Int.natCast_nonneg _;by_cases hjn:j<l.length
   ·have S:(j:Int)<(l.length:Int):=by omega
    obtain⟨⟨o,pv⟩,E⟩:∃p,l[j]?=some p:=⟨_,ZG hjn⟩
    obtain⟨A,R,g,P,rfl,hg,L⟩:=(H.out.mv (MV.below V.out)).at E;have G:=R.1;have Z:Hid (l.take (j+1)=l.take j++[(o,pv)]):=QA (by rw[List.take_add_one,E];rfl);have X:=Y.out _ (QZ E);obtain⟨M,N,T,ah⟩:=G.form;simp only at T A G L X;subst T;have D:=Ad.new wr o (.slice M o.2.2.length N);have ag:=D.cell (Ae A _);have O:=QA G;have B:=QA A;clear D G A E R;have I:Hid (Below W.heap.size W (wr.alloc (.cells (AG o (.slice M o.2.2.length N)).toArray 43))):=QA (V.out.alloc V.out.size _);by_cases hbig:9000-(n:Int)<(o.2.2.length:Int)
    ·go_wp2_with (first|(guard_target=wpList _ _ _ ({ dst:=_,op:=.load 43 _,type:=_,pos:=_,after:=_,guard:=none }::_) _ _;refine AJ rfl _ rfl g (P+j*34) o (.slice M o.2.2.length N) B.out rfl L ?_)|(guard_target=wpList _ _ _ ({ dst:=_,op:=.store 43 _ _,type:=_,pos:=_,after:=_,guard:=none }::_) _ _;refine AL rfl _ _ rfl _ rfl o (.slice M o.2.2.length N) B.out O.out.one rfl rfl ?_)|fail);refine bodyPost_ret (v:=.bool false) (by simp[results,Tryz.results9,go_sem]) rfl ?_;exact⟨false,rfl,λe=>(by cases e),C.out.trans (I.out.mono C.out.size)⟩
    ·have aa:(o.2.2.length:Int)≤9000-(n:Int):=by omega
     go_wp2_with (first|(guard_target=wpList _ _ _ ({ dst:=_,op:=.load 43 _,type:=_,pos:=_,after:=_,guard:=none }::_) _ _;refine AJ rfl _ rfl g (P+j*34) o (.slice M o.2.2.length N) B.out rfl L ?_)|(guard_target=wpList _ _ _ ({ dst:=_,op:=.store 43 _ _,type:=_,pos:=_,after:=_,guard:=none }::_) _ _;refine AL rfl _ _ rfl _ rfl o (.slice M o.2.2.length N) B.out O.out.one rfl rfl ?_)|fail);go_roundg (l.length-(j+1))
     case measure=>rw[HK.out];omega
     case rel=>exact⟨j+1,n+o.2.2.length,by omega,rfl,by simp,by simp,by omega,(by
      rw[Z.out];intro p E;rcases ZI.1 E with E|E
      ·exact J.out p E
      ·rw[QB.1 E];show o.2.2.length≤9000;omega),I.out⟩
   ·have S:(l.length:Int)≤(j:Int):=by omega
    have HT:Hid (l.take j=l):=QA (List.take_of_length_le (by omega));go_wp2_with fail;refine bodyPost_ret (v:=.bool true) (by simp[results,Tryz.results9,go_sem]) rfl ?_;exact⟨true,rfl,λ_=>⟨by omega,by have:=J.out;rwa [HT.out]at this⟩,C.out.trans (V.out.mono C.out.size)⟩
end Go.Proofs.YtjldahcckmmenaaGreatDoor
