/-
  The store in a law: what a batch finds room for; keys in boxes; awake of rubriclaw06, walked. Entries as the document has them, in memory; the law's same and Fits, Steps, walked.
-/
import Derived.Test.YtjldahcckmmenaaGreatDoorZc18
import Derived.Test.YtjldahcckmmenaaGreatDoorZc15
import Derived.Laws.StructEq
import Derived.Test.YtjldahcckmmenaaGreatDoorZc7
open Array renaming getInternal_eq_getElem → QD
open Go.Lib renaming hid → QA
open List renaming mem_singleton → QB, setIfInBounds_toArray → QC, set_cons_succ → QG, set_cons_zero → QH, getElem_cons_zero → QI, getElem_cons_succ → QJ, getElem_toArray → QK, length_map → QV, mem_of_getElem? → QZ, getElem?_eq_getElem → ZG, mem_append → ZI
open Nat renaming le_refl → QM, le_trans → QQ
namespace Go.Proofs.YtjldahcckmmenaaGreatDoor
set_option maxRecDepth 100000
set_option maxHeartbeats 4000000
set_option linter.unusedSimpArgs false
set_option linter.unusedVariables false
open Go Go.RowKit
open Go.Maps Go.WideMaps
namespace Sto
theorem Can.of {f:Fs.St} {k:Nat} {ver:Int} {S:List Seg} {ops:List Op} (hD:Disk f k ver S 12297) (ho:GoodB ops) (h1:S.length≤31) (h2:(((S.length+3)*12297+800:Nat):Int)≤f.room) (h3:k≤100000):Can f k S 12297 ops:=by
 have B:=ho.mass_le;have E:=(H6 hD.x.ne ops).2;have A:((put S ops).length+1)*12297≤(S.length+2)*12297:=Nat.mul_le_mul_right _ (by omega);refine Can.mk (by omega) (λs hs=>?_) (Nat.le_of_ble_eq_true rfl) (λ_=>h2) (Int.le_trans (Int.ofNat_le.2 ?_) h2) h3
 case refine_2 =>
  refine QQ (Nat.add_le_add A (Nat.add_le_add_right B 9)) ?_;rw[Nat.add_mul,Nat.add_mul,Nat.add_assoc,Nat.add_assoc];exact Nat.add_le_add_left (Nat.le_of_ble_eq_true rfl) _
 obtain⟨D,a,C,rfl⟩:=snoc_of hD.x.ne;have o:=hD.x.len.2;rw[put_snoc]at hs;split at hs
 ·rcases ZI.1 hs with hs|hs
  ·exact o s hs
  ·rw[QB.1 hs];show (fileOf [ops]).length≤_;rw[ho.one];omega
 ·rcases ZI.1 hs with hs|hs
  ·exact o s (List.mem_append_left _ hs)
  ·rw[QB.1 hs];show (fileOf (C++[ops])).length≤_;rw[BH,List.length_append,ho.blen];omega
theorem Can.one {f:Fs.St} {k:Nat} {bs:List (List Op)} {ops:List Op} {a:Int} (ho:GoodB ops) (h1:(fileOf bs).length+(mass ops+9)≤800) (h2:(3000:Int)≤f.room) (h3:k≤100000):Can f k [(a,bs)] 800 ops:=by
 have e:put [(a,bs)] ops=[(a,bs++[ops])]:=by
  have:=put_snoc [] a bs ops;rw[if_neg (by omega)]at this;exact this
 refine⟨by rw[e];show 1≤32;omega,λs hs=>?_,by omega,λh=>?_,?_,h3⟩
 ·rw[e]at hs;rw[QB.1 hs];show (fileOf (bs++[ops])).length≤_;rw[BH,List.length_append,ho.blen];omega
 ·rw[e]at h;exact absurd h (by simp)
 ·rw[e];show (((1+1)*800+(mass ops+9):Nat):Int)≤_;omega
end Sto
theorem Ev (base B r mb:Nat) (f:Fs.St) (V:FsV) (own:Nat→Tag) (ver:Int) (sv:Value) (S:List Sto.Seg) (M k:Nat) (l:Sto.ME) (v:Value) (ops:Sto.ME) (w:World)
  (h:Aa base B f V own w) (hE:Ay base w) (hbase:base≤w.heap.size) (hrb:base≤r) (hA:A6 w own B r ⟨ver,Sto.ids S,Sto.ents S,false⟩ mb sv l) (hD:Sto.Disk f k ver S M)
  (ho:BQ w (SF r own) v ops) (hol:ops.length≤1000000000) (hbl:∀p∈ops,p.1.2.2.length≤1000000000) (hk:∀p∈ops,p.1.1.length=32) (hC:Sto.Goes S (Sto.opsOf ops)→Sto.Can f k S M (Sto.opsOf ops)) :
  Calls Tryz.prog 13 #[.pointer (some ⟨r,0,none⟩),v] w λe w'=>e=.returned (.int .i64 (Sto.wcode S (Sto.opsOf ops)))∧Ef base B r f own (Sto.wrote S (Sto.opsOf ops)) M k w w':=by
 obtain⟨o,a,A,rfl⟩:=Sto.snoc_of hD.x.ne;exact Hd base B r mb f V own ver sv o a A M k l v ops w h hE hbase hrb hA hD ho hol hbl hk hC
theorem Below.setCells {B b:Nat} {a:World} (hb:B≤b):∀(vs:List Value) (o:Nat) (w:World),Below B a w→Below B a (w.setCells b o vs)
 | [],_,_,h=>h
 | _::r,o,_,h=>Below.setCells hb r (o+1) _ (h.setCell (p:=⟨b,o,none⟩) hb _)
theorem GJ (w:World) (c:Array Value) (hc:c.size=32):(w.alloc (.cells c 40)).there w.heap.size 0 32:=λj hj=>by
 have o:=AJ w (.cells c 40);rw[Nat.zero_add];exact⟨by rw[AA o j _ (Array.getElem?_eq_getElem (by omega))];rfl,AE o j⟩
theorem Cr {ops:Array Oper} {rest:List Oper} {op:Oper} {a:Act} {w:World} {Q:Exit→Act→World→Prop} (hg:op.guard=none) (x y:Operand) (ho:op.op=.store 40 x y) (b:Nat) (k:List UInt8) (hk:k.length=32)
  (hx:a.eval x=.pointer (some ⟨b,0,none⟩)) (hy:a.eval y=Ag k) (ht:w.there b 0 32) (h:wpList Tryz.prog ops Q rest (a.put op.dst undef) (w.setCells b 0 (AH k))):wpList Tryz.prog ops Q (op::rest) a w :=
 wpList_store_mid hg _ x y ho b 0 (AH k).toArray hx hy (by rw[List.size_toArray,AP,hk];exact ht) (by rw[List.size_toArray,AP,hk];kernel_rfl) (all_oneCell_toArray (DC k)) h
theorem KO (w:World) (c d:Array Value) (hc:c.size=32) (hd:d.size=32) (k m:List UInt8) (hk:k.length=32) (hm:m.length=32) :
  Below w.heap.size w ((((w.alloc (.cells c 40)).alloc (.cells d 40)).setCells w.heap.size 0 (AH k)).setCells (w.heap.size+1) 0 (AH m)) ∧
   ((((w.alloc (.cells c 40)).alloc (.cells d 40)).setCells w.heap.size 0 (AH k)).setCells (w.heap.size+1) 0 (AH m)).rangeAt w.heap.size 0 (AH k) ∧
   ((((w.alloc (.cells c 40)).alloc (.cells d 40)).setCells w.heap.size 0 (AH k)).setCells (w.heap.size+1) 0 (AH m)).rangeAt (w.heap.size+1) 0 (AH m) ∧
   ((w.alloc (.cells c 40)).alloc (.cells d 40)).there w.heap.size 0 32∧(((w.alloc (.cells c 40)).alloc (.cells d 40)).setCells w.heap.size 0 (AH k)).there (w.heap.size+1) 0 32:=by
 have A:((w.alloc (.cells c 40)).alloc (.cells d 40)).there w.heap.size 0 32:=World.there_alloc (GJ w c hc) _;have B:((w.alloc (.cells c 40)).alloc (.cells d 40)).there (w.heap.size+1) 0 32:=by
  have:=GJ (w.alloc (.cells c 40)) d hd
  rwa [show (w.alloc (.cells c 40)).heap.size=w.heap.size+1 by simp]at this
 have o:=World.there_setCells B w.heap.size 0 (AH k);have C:(AH k).length=32:=by rw[AP,hk]
 have D:(AH m).length=32:=by rw[AP,hm]
 refine⟨Below.setCells (by omega) _ _ _ (Below.setCells (QM _) _ _ _ (((Below.refl _ w).alloc (QM _) _).alloc (by simp) _)),?_,?_,A,o⟩
 ·exact World.rangeAt_setCells_apart (World.rangeAt_setCells_same _ _ _ _ (by rw[C];exact A)) _ _ _ (.inl (by omega))
 ·exact World.rangeAt_setCells_same _ _ _ _ (by rw[D];exact o)
theorem Bw (b:Nat):∀(vs:List Value) (o:Nat) (w:World),(w.setCells b o vs).heap.size=w.heap.size
 | [],_,_=>rfl
 | v::r,o,w=>by
  rw[World.setCells,Bw b r];simp[World.setCell]
theorem Ju (w:World) (c d:Array Value) (hc:c.size=32) (hd:d.size=32) (k m:List UInt8) (hk:k.length=32) (hm:m.length=32):∃w2:World,Below w.heap.size w w2∧w2.heap.size=w.heap.size+2∧w2.rangeAt w.heap.size 0 (AH k)∧w2.rangeAt (w.heap.size+1) 0 (AH m) ∧
   ((w.alloc (.cells c 40)).alloc (.cells d 40)).there w.heap.size 0 32∧(((w.alloc (.cells c 40)).alloc (.cells d 40)).setCells w.heap.size 0 (AH k)).there (w.heap.size+1) 0 32 ∧
   (((w.alloc (.cells c 40)).alloc (.cells d 40)).setCells w.heap.size 0 (AH k)).setCells (w.heap.size+1) 0 (AH m)=w2:=by
 obtain⟨D,A,C,o,B⟩:=KO w c d hc hd k m hk hm;exact⟨_,D,by rw[Bw,Bw];simp,A,C,o,B,rfl⟩
theorem Eh {k:List UInt8} (hk:k.length=32):(Ag k).formed Tryz.prog 40=true:=by simp[Ag,Value.formed,Tryz.underlying40,EZ,AH,hk]
theorem Cz:∀{a b:List UInt8},(a.map λc=>Lit.int .u8 (c.toNat:Int))=(b.map λc=>Lit.int .u8 (c.toNat:Int))→a=b
 | [],[],_=>rfl
 | [],_::_,h=>by simp at h
 | _::_,[],h=>by simp at h
 | x::a,y::b,h=>by
  simp only[List.map_cons,List.cons.injEq,Lit.int.injEq,true_and]at h;rw[Cz h.2,UInt8.toNat_inj.1 (Int.ofNat_inj.1 h.1)]
theorem GZ (a b:List UInt8) (ha:a.length=32) (hb:b.length=32) (w:World):(Op.equalIn 10000 40 (Ag a) (Ag b)).run Tryz.prog w=.ok (decide (a=b)) w:=by
 obtain⟨r,o,A⟩:=run_equalIn_deep (P:=Tryz.prog) 9998 2 40 (by kernel_rfl) w 2 2 (Ag a) (Ag b) _ _ (Eh ha) (Eh hb) (by show Tryz.prog.keyLits 2 _ (AH a).toArray.toList=_;rw[List.toList_toArray];exact CZ 0 a ha) (by show Tryz.prog.keyLits 2 _ (AH b).toArray.toList=_;rw[List.toList_toArray];exact CZ 0 b hb);refine Eq.trans (b:=.ok r w) o ?_
 congr 1
 rw[Bool.eq_iff_iff,A,decide_eq_true_iff];exact⟨Cz,λe=>by rw[e]⟩
theorem J6 (a b:List UInt8) (ha:a.length=32) (hb:b.length=32) (w:World):(binOp .eql 40 (Ag a) (Ag b)).run Tryz.prog w=.ok (.bool (decide (a=b))) w:=by
 show (binOp .eql 40 (.agg _) (.agg _)).run Tryz.prog w=_;rw[run_eql_struct,show (Op.equalIn 10000 40 (.agg (AH a).toArray) (.agg (AH b).toArray)).run Tryz.prog w=_ from GZ a b ha hb w];rfl
theorem I0 (op:BinOp) (x y:Operand) (a b:List UInt8) (w:World):(eqGuard op 40 x y (Ag a) (Ag b)).run Tryz.prog w=.ok () w:=by
 have h:Tryz.prog.eqGuardType Tryz.prog.depth 40=false:=by kernel_rfl
 unfold eqGuard;cases op<;>simp[Ag,h]
theorem Fx {w:World} {base g n c:Nat} {ks:List K32} (h:DJ w base (.slice (some ⟨g,0,none⟩) n c) ks) {i:Nat} {k:K32} (hi:ks[i]?=some k):w.rangeAt g (i*32) (AH k.1):=λj u hj=>by
 have A:j<32:=by
  have:=(List.getElem?_eq_some_iff.1 hj).1
  rwa [AP,k.2]at this
 have o:(Ai ks)[i*32+j]?=some u:=by
  rw[Dw,show (i*32+j) / 32=i by omega,show (i*32+j) % 32=j by omega,hi];exact hj
 have:=World.ownsRow.cells h (g:=g) rfl _ _ o;rw[addr_add]at this;exact this
theorem KU {x:List UInt8}:∀{ks:List K32},ks.map (·.1)=[x]→∃k:K32,ks=[k]∧k.1=x
 | [],h=>by simp at h
 | [k],h=>⟨k,rfl,by simpa using h⟩
 | _::_::_,h=>by simp at h
def aw1:List Sto.Op:=[(Ak 1,1,[120]),(Ak 2,1,[121])]
def aw2:List Sto.Op:=[(Ak 1,0,[])]
theorem CG:Sto.GoodB aw1:=⟨by kernel_rfl,by decide,by intro o ho;simp[aw1]at ho;rcases ho with rfl|rfl<;>rfl⟩
theorem DT:Sto.GoodB aw2:=⟨by kernel_rfl,by decide,by intro o ho;simp[aw2]at ho;rcases ho with rfl;rfl⟩
theorem Jy:Sto.live (Sto.chgs (Sto.ents [(1,[])]) aw1)=90:=by kernel_rfl
theorem Jw:Sto.live (Sto.chgs (Sto.ents [(1,[aw1])]) aw2)=45:=by kernel_rfl
theorem J7:Sto.ents [(1,[aw1,aw2])]=[(Ak 2,1,[121])]:=by kernel_rfl
theorem Gt:Sto.Goes [(1,[])] aw1:=⟨CG.chk,by rw[Jy];decide,CG.some'⟩
theorem G2:Sto.Goes [(1,[aw1])] aw2:=⟨DT.chk,by rw[Jw];decide,DT.some'⟩
theorem KS:Sto.wrote [(1,[])] aw1=[(1,[aw1])]:=by
 unfold Sto.wrote;rw[if_pos Gt];exact (Sto.put_snoc [] 1 [] aw1).trans (if_neg (by decide))
theorem KX:Sto.wrote [(1,[aw1])] aw2=[(1,[aw1,aw2])]:=by
 unfold Sto.wrote;rw[if_pos G2];refine (Sto.put_snoc [] 1 [aw1] aw2).trans (if_neg ?_);rw[CG.one]
 decide
theorem Gp:Sto.mass aw1=72:=by kernel_rfl
theorem JV:Sto.mass aw2=35:=by kernel_rfl
theorem FD (w:World) (c:UInt8) (fz:Nat×Nat):AZ (w.alloc (.cells #[.int .u8 (c.toNat:Int)] 5 fz)) (.slice (some ⟨w.heap.size,0,none⟩) 1 1) [c] :=
 CK [c] 1 (QM _) (by simp) λi x hi=>by
  rw[Nat.zero_add,cell_of_row _ _ _ _ _ _ (AJ w _)]
  match i,hi with
  | 0,hi=>simp at hi;subst hi;rfl
  | i+1,hi=>simp at hi
theorem BA.nil (w:World) (F:Nat→Prop):BA w F (.slice none 0 0) []:=⟨⟨none,0,rfl,QM _,λ_=>rfl,λi x hi=>by simp at hi⟩,λp n c e _=>by simp at e⟩
theorem EO (base:Nat) (w:World) (hE:Dl base w) (hbase:base≤w.heap.size):Calls Tryz.prog 8 #[] w λe w'=>e=.returned (.bool true)∧Below w.heap.size w w':=by
 have HE:=QA hE;clear hE;go_enter Tryz.func8,Tryz.ntmps8;go_wp2_with fail;refine (Eu base 5000 w HE.out.sg hbase (by decide) (by decide)).mono ?_;rintro e w1 ⟨r,V1,own1,sv1,mb1,rfl,hr1,hf1,hb1,hA1⟩;obtain⟨d1,d2,d3,d4,d5,d6⟩:=Sto.Disk.begin (r:=5000) (by decide) (by decide);obtain⟨f1,hf⟩:∃f,(Mf.save (Sg.create (Fs.new 5000) 1).1 1 [1]).1=f:=⟨_,rfl⟩
 rw[hf]at hf1 d5 d6;have aC:=QA hf1;have N:=QA hb1;have aG:=QA hA1;have a9:=QA d6;have a0:=QA d5;clear d1 d2 d3 d4 d5 d6 hf1 hb1 hA1 hf;obtain⟨B,af,aM,aW,ao,aB,am,a1⟩:=Ju w1 #[.int .u8 0,.int .u8 0,.int .u8 0,.int .u8 0,.int .u8 0,.int .u8 0,.int .u8 0,.int .u8 0,.int .u8 0,.int .u8 0,.int .u8 0,.int .u8 0,.int .u8 0,.int .u8 0,.int .u8 0,.int .u8 0,.int .u8 0,.int .u8 0,.int .u8 0,.int .u8 0,.int .u8 0,.int .u8 0,.int .u8 0,.int .u8 0,.int .u8 0,.int .u8 0,.int .u8 0,.int .u8 0,.int .u8 0,.int .u8 0,.int .u8 0,.int .u8 0] #[.int .u8 0,.int .u8 0,.int .u8 0,.int .u8 0,.int .u8 0,.int .u8 0,.int .u8 0,.int .u8 0,.int .u8 0,.int .u8 0,.int .u8 0,.int .u8 0,.int .u8 0,.int .u8 0,.int .u8 0,.int .u8 0,.int .u8 0,.int .u8 0,.int .u8 0,.int .u8 0,.int .u8 0,.int .u8 0,.int .u8 0,.int .u8 0,.int .u8 0,.int .u8 0,.int .u8 0,.int .u8 0,.int .u8 0,.int .u8 0,.int .u8 0,.int .u8 0] rfl rfl (Ak 1) (Ak 2) rfl rfl;have bl:=QA a1;have bp:=QA aB;have be:=QA am;have bn:=QA af;have K:=QA aM;have aq:=QA aW;have aD:=QA ao;clear a1 aB am af aM aW ao;have bJ:Hid (B.heap.size=w1.heap.size+2):=K;have I:Hid (∀b,w1.heap.size≤b→SF r own1 b):=QA λb hb=>⟨aC.out.fresh b hb,by have:=AC aG.out.root;omega⟩
 have bI:∀(x:UInt8),Below B.heap.size B (B.alloc (.cells #[.int .u8 (x.toNat:Int)] 5)):=λx=>(Below.refl _ _).alloc (QM _) _
 have bq:=Joins.run_convert_bytes_const_at (P:=Tryz.prog) B 41 5 #[.int .u8 120] 1 1 B.heap.size rfl Tryz.underlying41 Tryz.underlying5;have bs:=Joins.run_convert_bytes_const_at (P:=Tryz.prog) (B.alloc (.cells #[.int .u8 120] 5 (1,2))) 41 5 #[.int .u8 121] 1 1 (B.heap.size+1) (by simp) Tryz.underlying41 Tryz.underlying5;have bg:Hid ((B.alloc (.cells #[.int .u8 120] 5 (1,2))).rangeAt (w1.heap.size+1) 0 (AH (Ak 2))):=QA (World.rangeAt_alloc aD.out _);go_wp2_with (first|(guard_target=wpList _ _ _ ({ dst:=_,op:=.build 40 #[(0,.const (.int .u8 1))],type:=_,pos:=_,after:=_,guard:=_ }::_) _ _;refine Hx rfl _ rfl 1 rfl ?_)|(guard_target=wpList _ _ _ ({ dst:=_,op:=.build 40 #[(0,.const (.int .u8 2))],type:=_,pos:=_,after:=_,guard:=_ }::_) _ _;refine Hx rfl _ rfl 2 rfl ?_)|(guard_target=wpList _ _ _ ({ dst:=_,op:=.store 40 (.tmp 3) _,type:=_,pos:=_,after:=_,guard:=none }::_) _ _;refine Cr rfl _ _ rfl (w1.heap.size) (Ak 1) rfl rfl rfl bp.out ?_)|((guard_target=wpList _ _ _ ({ dst:=_,op:=.store 40 (.tmp 4) _,type:=_,pos:=_,after:=_,guard:=none }::_) _ _;refine Cr rfl _ _ rfl (w1.heap.size+1) (Ak 2) rfl rfl rfl be.out ?_);rw[bl.out])|(guard_target=wpList _ _ _ ({ dst:=_,op:=.load 40 (.tmp 3),type:=_,pos:=_,after:=_,guard:=_ }::_) _ _;refine CN rfl _ rfl w1.heap.size 0 (Ak 1) rfl rfl aq.out ?_)|(guard_target=wpList _ _ _ ({ dst:=_,op:=.load 40 (.tmp 4),type:=_,pos:=_,after:=_,guard:=_ }::_) _ _;refine CN rfl _ rfl (w1.heap.size+1) 0 (Ak 2) rfl rfl bg.out ?_)|(guard_target=wpList _ _ _ ({ dst:=_,op:=.build 43 #[(0,.tmp 21),(1,_),(2,_)],type:=_,pos:=_,after:=_,guard:=_ }::_) _ _;refine H9 rfl _ _ _ rfl (Ak 1) rfl _ [120] _ rfl rfl rfl rfl ?_)|(guard_target=wpList _ _ _ ({ dst:=_,op:=.build 43 #[(0,.tmp 25),(1,_),(2,_)],type:=_,pos:=_,after:=_,guard:=_ }::_) _ _;refine H9 rfl _ _ _ rfl (Ak 2) rfl _ [121] _ rfl rfl rfl rfl ?_)|(guard_target=wpList _ _ _ ({ dst:=_,op:=.buildSlice 22 2 _,type:=_,pos:=_,after:=_,guard:=_ }::_) _ _;refine Hy rfl _ _ rfl [((Ak 1,1,[120]),.slice (some ⟨B.heap.size,0,none⟩) 1 1),((Ak 2,1,[121]),.slice (some ⟨B.heap.size+1,0,none⟩) 1 1)] (by simp[G0]) rfl (by decide) (by decide) rfl ?_)|fail);obtain⟨U,L⟩:∃q,(B.alloc (.cells #[.int .u8 120] 5 (1,2))).alloc (.cells #[.int .u8 121] 5 (1,2))=q:=⟨_,rfl⟩
 have ah:Below B.heap.size B U:=by rw[← L];exact ((Below.refl _ _).alloc (QM _) _).alloc (by simp) _
 have aU:U.heap.size=B.heap.size+1+1:=by rw[← L];simp
 have aZ:AZ U (.slice (some ⟨B.heap.size,0,none⟩) 1 1) [120]:=by rw[← L];exact (FD B 120 (1,2)).below ((Below.refl _ _).alloc (QM _) _)
 have ax:AZ U (.slice (some ⟨B.heap.size+1,0,none⟩) 1 1) [121]:=by
  rw[← L];have:=FD (B.alloc (.cells #[.int .u8 120] 5 (1,2))) 121 (1,2)
  rwa [show (B.alloc (.cells #[.int .u8 120] 5 (1,2))).heap.size=B.heap.size+1 by simp]at this
 rw[L,← aU];obtain⟨T,C⟩:∃l:Sto.ME,[((Ak 1,(1:Int),[(120:UInt8)]),Value.slice (some ⟨B.heap.size,0,none⟩) 1 1),((Ak 2,1,[121]),.slice (some ⟨B.heap.size+1,0,none⟩) 1 1)]=l:=⟨_,rfl⟩
 have X:Sto.opsOf T=aw1:=by rw[← C];rfl
 have ae:∀p∈T,p.1.1.length=32:=by rw[← C];intro p hp;simp at hp;rcases hp with rfl|rfl<;>rfl
 have aE:∀p∈T,p.1.2.2.length≤1000000000:=by rw[← C];intro p hp;simp at hp;rcases hp with rfl|rfl<;>simp
 have aK:∀p∈T,BA U (SF r own1) p.2 p.1.2.2:=by
  have hz:=K.out;rw[← C];intro p hp;simp at hp;rcases hp with rfl|rfl
  ·exact⟨aZ,λq n c e _=>I.out _ (by simp at e;rw[← e.1];show _≤B.heap.size;omega)⟩
  ·exact⟨ax,λq n c e _=>I.out _ (by simp at e;rw[← e.1];show _≤B.heap.size+1;omega)⟩
 have aR:T.length=2:=by rw[← C];rfl
 rw[C];have hO:=BQ.lit (w:=U) (F:=SF r own1) T ae aK (I.out _ (by have:=K.out;omega));rw[aR]at hO;have ay:Below w1.heap.size w1 (U.alloc (.cells (AR T).toArray 43)):=bn.out.trans ((ah.mono (by have:=K.out;omega)).alloc (by have:=K.out;omega) _);have J:=QA ay;have M:Hid (Below B.heap.size B (U.alloc (.cells (AR T).toArray 43))):=QA (ah.alloc (by omega) _);have ar:=QA hO;have au:=QA X;clear ah aU aZ ax aK C L hO ay X;obtain⟨wb,aF⟩:∃q,U.alloc (.cells (AR T).toArray 43)=q:=⟨_,rfl⟩
 rw[aF]at J M ar ⊢;clear aF;refine (Ev w.heap.size (w.heap.size+2) r mb1 f1 V1 own1 1 sv1 [(1,[])] 800 15 [] _ T wb (aC.out.kept (AB J.out)) ((HE.out.sg.below ((N.out.trans (J.out.mono N.out.size)).mono hbase)).mono hbase) (QQ N.out.size J.out.size) hr1 (aG.out.below J.out) a9.out ar.out (by omega) aE ae
  (λ_=>by rw[au.out];exact Sto.Can.one CG (by rw[Gp];decide) (by rw[a0.out];decide) (by decide))).mono ?_
 rw[au.out,KS,show Sto.wcode [(1,[])] aw1=0 from Sto.wcode_ok CG.chk Gt.2.1];rintro e w3 ⟨rfl,f3,V3,own3,ver3,mb3,sv3,l3,hf3,hs3,hb3,hA3,hD3,hrm3⟩;have a6:=QA hf3;have a4:=QA hA3;have bh:=QA hD3;have aO:Hid (f3.room=5000):=QA (hrm3.trans a0.out);have D:Hid (Below w.heap.size w w3):=QA ((N.out.trans (J.out.mono N.out.size)).trans hb3);have aN:Hid (∀b,w3.heap.size≤b→SF r own3 b):=QA λb hb=>⟨hf3.fresh b hb,by have:=AC hA3.root;omega⟩
 have bj:SFr r own1 own3 wb w3:=hs3;have Q:Hid (∀b k,w1.heap.size≤b→b<w1.heap.size+2→B.rangeAt b 0 (AH k)→w3.rangeAt b 0 (AH k)∧SF r own3 b∧b<w3.heap.size):=QA λb k hb af hk=>by
  have hz:=K.out;have bL:=M.out.size;have h1:=I.out b hb;exact⟨AQ hk ((hs3.block b (by omega) h1.1 h1.2).trans (M.out.block b (by omega))),⟨(hs3.tags b (by omega)).trans h1.1,h1.2⟩,by have:=hs3.size;omega⟩
 have aX:=QA (Q.out w1.heap.size _ (QM _) (by omega) aq.out);have aY:=QA (Q.out (w1.heap.size+1) _ (by omega) (by omega) aD.out);clear hf3 hs3 hb3 hA3 hD3 hrm3 aE ae aR Q bj;go_wp2_with (first|(guard_target=wpList _ _ _ ({ dst:=_,op:=.load 40 (.tmp 3),type:=_,pos:=_,after:=_,guard:=_ }::_) _ _;refine CN rfl _ rfl w1.heap.size 0 (Ak 1) rfl rfl aX.out.1 ?_)|(guard_target=wpList _ _ _ ({ dst:=_,op:=.build 43 #[(0,_)],type:=_,pos:=_,after:=_,guard:=_ }::_) _ _;refine KN rfl _ rfl (Ak 1) rfl rfl ?_)|(guard_target=wpList _ _ _ ({ dst:=_,op:=.buildSlice 22 1 _,type:=_,pos:=_,after:=_,guard:=_ }::_) _ _;refine Hy rfl _ _ rfl [((Ak 1,0,[]),.slice none 0 0)] (by simp[G0]) rfl (by decide) (by decide) rfl ?_)|fail);have hO:=BQ.lit (w:=w3) (F:=SF r own3) [((Ak 1,0,[]),.slice none 0 0)] (by intro p hp;simp at hp;rw[hp];rfl) (by intro p hp;simp at hp;rw[hp];exact BA.nil _ _) (aN.out _ (QM _));have aS:Below w3.heap.size w3 (w3.alloc (.cells (AR [((Ak 1,0,[]),.slice none 0 0)]).toArray 43)):=(Below.refl _ _).alloc (QM _) _;have av:=QA hO;have E:=QA aS;clear hO aS;obtain⟨wc,aT⟩:∃q,w3.alloc (.cells (AR [((Ak 1,0,[]),.slice none 0 0)]).toArray 43)=q:=⟨_,rfl⟩
 rw[aT]at E av ⊢;clear aT;refine (Ev w.heap.size (w.heap.size+2) r mb3 f3 V3 own3 ver3 sv3 [(1,[aw1])] 800 29 l3 _ [((Ak 1,0,[]),.slice none 0 0)] wc (a6.out.kept (AB E.out)) ((HE.out.sg.below ((D.out.trans (E.out.mono D.out.size)).mono hbase)).mono hbase) (QQ D.out.size E.out.size) hr1 (a4.out.below E.out) bh.out av.out (by simp) (by intro p hp;simp at hp;rw[hp];simp) (by intro p hp;simp at hp;rw[hp];rfl)
  (λ_=>Sto.Can.one DT (by show (Sto.fileOf [aw1]).length+(Sto.mass aw2+9)≤800;rw[CG.one,Gp,JV];decide) (by rw[aO.out];decide) (by decide))).mono ?_
 rw[show Sto.opsOf [((Ak 1,(0:Int),([]:List UInt8)),Value.slice none 0 0)]=aw2 from rfl,KX,show Sto.wcode [(1,[aw1])] aw2=0 from Sto.wcode_ok DT.chk G2.2.1];rintro e w4 ⟨rfl,f4,V4,own4,ver4,mb4,sv4,l4,hf4,hs4,hb4,hA4,hD4,hrm4⟩;have bo:=QA hf4;have aP:=QA hD4;have R:Hid (Below w.heap.size w w4):=QA ((D.out.trans (E.out.mono D.out.size)).trans hb4);have aw:Hid (w4.rangeAt (w1.heap.size+1) 0 (AH (Ak 2))∧own4 (w1.heap.size+1)=.other∧w1.heap.size+1<w4.heap.size):=by
  obtain⟨k1,k2,k3⟩:=aY.out;have bz:=E.out.size;exact QA ⟨AQ k1 ((hs4.block _ (by omega) k2.1 k2.2).trans (E.out.block _ k3)),(hs4.tags _ (by omega)).trans k2.1,by have:=hs4.size;omega⟩
 clear hf4 hs4 hb4 hA4 hD4 hrm4;go_wp2_with fail;refine (CF w.heap.size (w.heap.size+2) f4 V4 own4 43 ver4 [(1,[aw1,aw2])] 800 w4 bo.out ((HE.out.below (R.out.mono hbase)).mono hbase) R.out.size aP.out.x (by decide)).mono ?_;rw[aP.out.clean];rintro e w5 ⟨r5,V5,own5,sv5,mb5,l5,rfl,hr5,hf5,hs5,hb5,hA5⟩;have aA:A4 w5 (SF r5 own5) mb5 l5:=⟨hA5.ents.map,hA5.ents.key,hA5.ents.val⟩
 have ac:l5.map (·.1)=[(Ak 2,1,[121])]:=hA5.is.trans J7;have ap:=QA aA;have ad:=QA ac;have H:=QA hA5.root;have bt:=QA hA5.srt;have W:Hid (Below w.heap.size w w5):=QA (R.out.trans hb5);have O:Hid (w5.rangeAt (w1.heap.size+1) 0 (AH (Ak 2))∧w1.heap.size+1<w5.heap.size):=by
  obtain⟨k1,k2,k3⟩:=aw.out;exact QA ⟨AQ k1 (hs5.block _ k3 k2 (by omega)),by have:=hs5.size;omega⟩
 have bv:l5.length=1:=by have:=congrArg List.length ac;rwa [QV]at this
 clear aA ac hf5 hs5 hb5 hA5;have y0:=rc0 H.out;have y1:=rc1 H.out;have y2:=rc2 H.out;have y3:=rc3 H.out;have y4:=rc4 H.out;go_wp2_with fail;refine (Dm mb5 l5 w5 _ ap.out (by rw[ad.out];exact List.pairwise_singleton _ _) (by omega)).mono ?_;rintro e w6 ⟨kv,ks,rfl,hok,hks,hb6⟩;have Y:ks.map (·.1)=[Ak 2]:=by
  rw[hks,show (λp:Sto.Op×Value=>p.1.1)=(λo:Sto.Op=>o.1)∘(λp:Sto.Op×Value=>p.1) from rfl,← List.map_map,ad.out];rfl
 obtain⟨kk,a5,Z⟩:=KU Y;subst a5;obtain⟨S,kc,ba⟩:=BX hok (by simp);subst ba;have aQ:w6.rangeAt S 0 (AH (Ak 2)):=by
  have:=Fx hok (i:=0) rfl
  rwa [Z]at this
 have bi:=QA aQ;have a8:Hid (S<w6.heap.size):=QA (hok.lt S rfl).2;have an:Hid (w5.heap.size≤w6.heap.size):=QA hb6.size;have aa:Hid (Below w.heap.size w w6):=QA (W.out.trans (hb6.mono W.out.size));have ag:Hid (w6.heap[r5]?=some (.cells (AF ver4 sv5 mb5 (w.heap.size+2) false) 51 (0,0))):=QA ((hb6.block _ (AC H.out)).trans H.out);have bb:=QA (ap.out.below hb6);have V:Hid (w6.rangeAt (w1.heap.size+1) 0 (AH (Ak 2))):=QA (AQ O.out.1 (hb6.block _ O.out.2));clear aQ hok hks Y Z hb6 y0 y1 y2 y3 y4;go_wp2_with fail;refine AK (λw'=>w'.heap[r5]?=some (.cells (AF ver4 sv5 mb5 (w.heap.size+2) false) 51 (0,0))∧w'.rangeAt (w1.heap.size+1) 0 (AH (Ak 2))) 13 (by kernel_rfl) ?_;have A:w6.drew.heap[r5]?=some (.cells (AF ver4 sv5 mb5 (w.heap.size+2) false) 51 (0,0))∧w6.drew.rangeAt (w1.heap.size+1) 0 (AH (Ak 2)):=⟨ag.out,(World.rangeAt_drew _ _ _ _).2 V.out⟩
 change Ab _ _ _ _ _ _ _ _ _ w6.drew;refine TK (i:=0) (v:=.pointer (some ⟨r5,0,none⟩)) rfl (Or.inl ⟨by rfl,λw hSw=>by go_simp⟩) A ?_;simp only[Act.put,QD,QK,QI,QJ,QC,QH,QG];refine TK (i:=1) (v:=.pointer (some ⟨r5,0,none⟩)) rfl (Or.inl ⟨by rfl,λw hSw=>by go_simp⟩) A ?_;simp only[Act.put,QD,QK,QI,QJ,QC,QH,QG];refine TK (i:=2) (v:=.pointer (some ⟨r5,2,none⟩)) rfl (Or.inl ⟨by rfl,λw hSw=>by go_simp⟩) A ?_;simp only[Act.put,QD,QK,QI,QJ,QC,QH,QG];refine TK (i:=3) (v:=.map (some mb5)) rfl (Or.inl ⟨by rfl,λw hSw=>by have a7:=rc2 hSw.1;go_simp⟩) A ?_;simp only[Act.put,QD,QK,QI,QJ,QC,QH,QG];refine TK (i:=4) (v:=Ag (Ak 2)) rfl (Ar rfl _ rfl (w1.heap.size+1) 0 rfl (Ak 2) rfl (λw hSw=>hSw.2)) A ?_;simp only[Act.put,QD,QK,QI,QJ,QC,QH,QG];refine TO (i:=5) ?_;refine AD (by decide) (λK5 HK5=>?_);simp only[List.drop_succ_cons,List.drop_zero,List.take_succ_cons,List.take_zero];go_wp2_with fail;have aH:Sto.getE (l5.map (·.1)) (Ak 2)=(1,[121],true):=by rw[ad.out];kernel_rfl
 have aI:=QA aH;clear aH;refine (Gg mb5 l5 (Ak 2) w6.drew _ (bb.out.below (Below.drew (Below.refl _ _))) rfl (by rw[aI.out];decide)).mono ?_;rw[aI.out];rintro e w7 ⟨gv,rfl,hgv,hb7⟩;obtain⟨ga,gn,gc,aV,bK⟩:=Ae.form3 hgv;subst aV;have bf:=QA hgv;have G:Below w6.heap.size w6 w7:=(Below.drew (Below.refl _ w6)).trans hb7;have az:Hid (Below w.heap.size w w7):=QA (aa.out.trans (G.mono aa.out.size));have aL:Hid (w7.rangeAt S 0 (AH (Ak 2))):=QA (AQ bi.out (G.block _ a8.out));have ab:Hid (w7.rangeAt (w1.heap.size+1) 0 (AH (Ak 2))):=QA (AQ V.out (G.block _ (by have:=O.out.2;have:=an.out;omega)));have A:=(⟨(G.block _ (AC ag.out)).trans ag.out,ab.out⟩:w7.heap[r5]?=some (.cells (AF ver4 sv5 mb5 (w.heap.size+2) false) 51 (0,0))∧w7.rangeAt (w1.heap.size+1) 0 (AH (Ak 2)))
 clear hgv hb7 G;go_wp2;refine HK5.out _ _ ⟨λ_=>A,?_⟩;clear HK5;refine TK (i:=6) (v:=.tuple #[.int .i64 1,.slice ga gn gc,.bool true]) rfl (Or.inl ⟨by rfl,λw hSw=>by go_simp⟩) A ?_;simp only[Act.put,QD,QK,QI,QJ,QC,QH,QG];refine TK (i:=7) (v:=.int .i64 1) rfl (Or.inl ⟨by rfl,λw hSw=>by go_simp⟩) A ?_;simp only[Act.put,QD,QK,QI,QJ,QC,QH,QG];refine TK (i:=8) (v:=.slice ga gn gc) rfl (Or.inl ⟨by rfl,λw hSw=>by go_simp⟩) A ?_;simp only[Act.put,QD,QK,QI,QJ,QC,QH,QG];refine TK (i:=9) (v:=.bool true) rfl (Or.inl ⟨by rfl,λw hSw=>by go_simp⟩) A ?_;simp only[Act.put,QD,QK,QI,QJ,QC,QH,QG];refine TK (i:=10) (v:=.int .i64 1) rfl (Or.inl ⟨by rfl,λw hSw=>by go_simp⟩) A ?_;simp only[Act.put,QD,QK,QI,QJ,QC,QH,QG];refine TK (i:=11) (v:=.slice ga gn gc) rfl (Or.inl ⟨by rfl,λw hSw=>by go_simp⟩) A ?_;simp only[Act.put,QD,QK,QI,QJ,QC,QH,QG];refine TK (i:=12) (v:=.bool true) rfl (Or.inl ⟨by rfl,λw hSw=>by go_simp⟩) A ?_;simp only[Act.put,QD,QK,QI,QJ,QC,QH,QG];refine AL (by kernel_rfl) ?_ _;go_wp2_with fail;refine AK (λw'=>w'.rangeAt S 0 (AH (Ak 2))∧w'.rangeAt (w1.heap.size+1) 0 (AH (Ak 2))∧AZ w' (.slice ga gn gc) [121]) 19 (by kernel_rfl) ?_;have A:w7.drew.rangeAt S 0 (AH (Ak 2))∧w7.drew.rangeAt (w1.heap.size+1) 0 (AH (Ak 2))∧AZ w7.drew (.slice ga gn gc) [121]:=⟨(World.rangeAt_drew _ _ _ _).2 aL.out,(World.rangeAt_drew _ _ _ _).2 ab.out,bf.out.byts.below (Below.drew (Below.refl _ _))⟩
 change Ab _ _ _ _ _ _ _ _ _ w7.drew;have bx:∀w',(binOp .eql 40 (Ag (Ak 2)) (Ag (Ak 2))).run Tryz.prog w'=.ok (.bool true) w':=λw'=>by rw[J6 _ _ rfl rfl,decide_eq_true rfl]
 refine TK (i:=0) (v:=.slice (some ⟨S,0,none⟩) 1 kc) rfl (Or.inl ⟨by rfl,λw hSw=>by go_simp⟩) A ?_;simp only[Act.put,QD,QK,QI,QJ,QC,QH,QG];refine TK (i:=1) (v:=.int .i64 1) rfl (Or.inl ⟨by rfl,λw hSw=>by go_simp⟩) A ?_;simp only[Act.put,QD,QK,QI,QJ,QC,QH,QG];refine TK (i:=2) (v:=.bool true) rfl (Or.inl ⟨by rfl,λw hSw=>by go_simp⟩) A ?_;simp only[Act.put,QD,QK,QI,QJ,QC,QH,QG];refine TK (i:=3) (v:=.bool true) rfl (Or.inl ⟨by rfl,λw hSw=>by go_simp⟩) A ?_;simp only[Act.put,QD,QK,QI,QJ,QC,QH,QG];refine TK (i:=4) (v:=.slice (some ⟨S,0,none⟩) 1 kc) rfl (Or.inl ⟨by rfl,λw hSw=>by go_simp⟩) A ?_;simp only[Act.put,QD,QK,QI,QJ,QC,QH,QG];refine TK (i:=5) (v:=.pointer (some ⟨S,0,none⟩)) rfl (Or.inl ⟨by rfl,λw hSw=>by go_simp⟩) A ?_;simp only[Act.put,QD,QK,QI,QJ,QC,QH,QG];refine TK (i:=6) (v:=Ag (Ak 2)) rfl (Ar rfl _ rfl S 0 rfl (Ak 2) rfl (λw hSw=>hSw.1)) A ?_;simp only[Act.put,QD,QK,QI,QJ,QC,QH,QG];refine TK (i:=7) (v:=Ag (Ak 2)) rfl (Ar rfl _ rfl (w1.heap.size+1) 0 rfl (Ak 2) rfl (λw hSw=>hSw.2.1)) A ?_;simp only[Act.put,QD,QK,QI,QJ,QC,QH,QG];have bC:=I0 .eql;refine TK (i:=8) (v:=.bool true) rfl (Or.inl ⟨by rfl,λw hSw=>by go_simp⟩) A ?_;simp only[Act.put,QD,QK,QI,QJ,QC,QH,QG];refine TK (i:=9) (v:=.bool true) rfl (Or.inl ⟨by rfl,λw hSw=>by go_simp⟩) A ?_;simp only[Act.put,QD,QK,QI,QJ,QC,QH,QG];refine TK (i:=10) (v:=.bool true) rfl (Or.inl ⟨by rfl,λw hSw=>by go_simp⟩) A ?_;simp only[Act.put,QD,QK,QI,QJ,QC,QH,QG];refine TK (i:=11) (v:=.bool true) rfl (Or.inl ⟨by rfl,λw hSw=>by go_simp⟩) A ?_;simp only[Act.put,QD,QK,QI,QJ,QC,QH,QG];refine TK (i:=12) (v:=.bool true) rfl (Or.inl ⟨by rfl,λw hSw=>by go_simp⟩) A ?_;simp only[Act.put,QD,QK,QI,QJ,QC,QH,QG];refine TK (i:=13) (v:=.bool true) rfl (Or.inl ⟨by rfl,λw hSw=>by go_simp⟩) A ?_;simp only[Act.put,QD,QK,QI,QJ,QC,QH,QG];refine TK (i:=14) (v:=.slice ga gn gc) rfl (Or.inl ⟨by rfl,λw hSw=>by go_simp⟩) A ?_;simp only[Act.put,QD,QK,QI,QJ,QC,QH,QG];refine TK (i:=15) (v:=.string ⟨#[121]⟩) rfl (Or.inl ⟨by rfl,λw hSw=>by have a7:=(Gy hSw.2.2);go_simp⟩) A ?_;simp only[Act.put,QD,QK,QI,QJ,QC,QH,QG];refine TK (i:=16) (v:=.bool true) rfl (Or.inl ⟨by rfl,λw hSw=>by go_simp⟩) A ?_;simp only[Act.put,QD,QK,QI,QJ,QC,QH,QG];refine TK (i:=17) (v:=.bool true) rfl (Or.inl ⟨by rfl,λw hSw=>by go_simp⟩) A ?_;simp only[Act.put,QD,QK,QI,QJ,QC,QH,QG];refine TK (i:=18) (v:=.bool true) rfl (Or.inl ⟨by rfl,λw hSw=>by go_simp⟩) A ?_;simp only[Act.put,QD,QK,QI,QJ,QC,QH,QG];refine AL (by kernel_rfl) ?_ _;go_wp2_with fail;refine bodyPost_ret (v:=.bool true) (by simp[results,Tryz.results8,go_sem]) rfl ?_;exact⟨rfl,Below.drew az.out⟩
open Go.Maps Go.WideMaps
def txt (l:List UInt8):Value:=.string ⟨l.toArray⟩
structure ROk (o:Sto.Op):Prop where
 key:o.1.length=32
 kind:-9223372036854775808≤o.2.1∧o.2.1≤9223372036854775807
 val:o.2.2.length≤1000000000
def AU (o:Sto.Op):List Value:=AG o (txt o.2.2)
def Bf (E:Sto.Ents):List Value:=AR (E.map λo=>(o,txt o.2.2))
theorem A1 {o:Sto.Op} (h:o.1.length=32):(AU o).length=34:=Ac h _
theorem Kd (l:List UInt8):(txt l).oneCell'=true:=rfl
def CW (w:World) (F:Nat→Prop) (v:Value) (E:Sto.Ents):Prop :=
 ∃a cap,v=.slice a E.length cap∧E.length≤cap∧∀(i:Nat) o,E[i]?=some o→ROk o∧∃g off,a=some ⟨g,off,none⟩∧g<w.heap.size∧F g∧w.rangeAt g (off+i*34) (AU o)
theorem CW.form {w:World} {F:Nat→Prop} {v:Value} {E:Sto.Ents} (h:CW w F v E):∃a cap,v=.slice a E.length cap:=by
 obtain⟨a,cap,o,_⟩:=h;exact⟨a,cap,o⟩
theorem CW.at {w:World} {F:Nat→Prop} {a:Option Addr} {n cap:Nat} {E:Sto.Ents} (h:CW w F (.slice a n cap) E) {i:Nat} {o:Sto.Op} (hi:E[i]?=some o) :
  ROk o∧∃g off,a=some ⟨g,off,none⟩∧g<w.heap.size∧w.rangeAt g (off+i*34) (AU o):=by
 obtain⟨J,A,B,_,D⟩:=h;simp only[Value.slice.injEq]at B;rw[B.1];obtain⟨G,g,off,C,I,_,H⟩:=D i o hi;exact⟨G,g,off,C,I,H⟩
theorem CW.mv {F F':Nat→Prop} {w w':World} {v:Value} {E:Sto.Ents} (h:CW w F v E) (m:MV F F' w w'):CW w' F' v E:=by
 obtain⟨a,cap,L,H,C⟩:=h;refine⟨a,cap,L,H,λi p hi=>?_⟩;obtain⟨D,g,o,B,A,G,I⟩:=C i p hi;obtain⟨J,K⟩:=m.2 g A G;exact⟨D,g,o,B,Nat.lt_of_lt_of_le A m.1,J,AQ I K⟩
theorem CW.ok {w:World} {F:Nat→Prop} {v:Value} {E:Sto.Ents} (h:CW w F v E):∀o∈E,ROk o:=λo ho=>by
 obtain⟨i,B⟩:=List.getElem?_of_mem ho;obtain⟨a,cap,D,C,A⟩:=h;exact (A i o B).1
structure C4 (w:World) (base:Nat) (v:Value) (E:Sto.Ents):Prop where
 row:w.ownsRow base 82 34 v E.length (Bf E)
 ok:∀o∈E,ROk o
theorem F4 (E D:Sto.Ents):Bf (E++D)=Bf E++Bf D:=by unfold Bf AR;rw[List.map_append,List.flatMap_append]
theorem Fc (o:Sto.Op):Bf [o]=AU o:=by unfold Bf AR AU;simp
theorem C4.rosF {w:World} {base:Nat} {F:Nat→Prop} {v:Value} {E:Sto.Ents} (h:C4 w base v E) (hF:∀b,base≤b→F b):CW w F v E:=by
 have A:=λg hg=>World.ownsRow.cells (g:=g) h.row hg
 rcases h.row.2 with⟨h1,h2⟩|⟨g,cap,cur,h1,hg,hb,hc,hm,_,_⟩
 ·have D:E=[]:=List.eq_nil_of_length_eq_zero h2;subst D;exact⟨none,0,h1,QM _,λi p hp=>by simp at hp⟩
 ·refine⟨some ⟨g,0,none⟩,cap,h1,hc,λi o hi=>⟨h.ok o (QZ hi),g,0,rfl,AC hb,hF g hg,λj u hj=>?_⟩⟩;have G:∀p∈E.map (λo=>(o,txt o.2.2)),p.1.1.length=32:=λp hp=>by obtain⟨o,C,rfl⟩:=List.mem_map.1 hp;exact (h.ok o C).key
  have B:(E.map λo=>(o,txt o.2.2))[i]?=some (o,txt o.2.2):=by rw[List.getElem?_map,hi];rfl
  have:=A g (by rw[h1];rfl) (i*34+j) u (Bj _ G i _ j u B hj);rw[addr_add]at this;rw[Nat.zero_add];exact this
theorem C4.nil (w:World) (base:Nat):C4 w base (.slice none 0 0) []:=⟨World.ownsRow_nil _ _ _ _,λo h=>by simp at h⟩
theorem C4.keep {w w':World} {base:Nat} {v:Value} {E:Sto.Ents} (h:C4 w base v E) (hb:Below w.heap.size w w'):C4 w' base v E:=⟨AN h.row (λg hg=>hb.block g (h.row.lt g hg).2),h.ok⟩
theorem C4.form {w:World} {base:Nat} {v:Value} {E:Sto.Ents} (h:C4 w base v E):∃a c,v=.slice a E.length c:=by
 rcases h.row.2 with⟨h1,h2⟩|⟨g,cap,cur,h1,_⟩
 ·exact⟨none,0,by rw[h1,h2]⟩
 ·exact⟨_,_,h1⟩
theorem D3 {ops:Array Oper} {S:World→Prop} {op:Oper} {a:Act} (hw:Region.wanted op (yielded ops a.tmps)=true) (x:Operand) (ho:op.op=.load 82 x) (b o:Nat) (hx:a.eval x=.pointer (some ⟨b,o,none⟩)) (p:Sto.Op) (hk:p.1.length=32)
  (hS:∀w,S w→w.rangeAt b o (AU p)):YieldsIf Tryz.prog ops S op (.agg (AU p).toArray) a :=
 yieldsIf_load_mid hw _ x ho b o hx (AU p) _ hS Tryz.underlying82 rfl (by rw[A1 hk];kernel_rfl)
/-! ### Two entries are the same -/
theorem Gk (m:Nat) (k:List UInt8) (hk:k.length=32):Tryz.prog.keyLits (m+2) 39 (AH k)=some (k.map λc=>Lit.int .u8 (c.toNat:Int)):=by
 unfold Program.keyLits;simp only[Tryz.underlying39];rw[if_pos (by rw[show Tryz.prog.cellsOf 39=32 by kernel_rfl];simp[AH,hk]),mapM_some (g:=λi=>[Lit.int .u8 ((k.getD i 0).toNat:Int)]) _ (λi hi=>?_)]
 ·rw[Option.map_some]
  congr 1
  have:(List.range 32).map (λi=>[Lit.int .u8 ((k.getD i 0).toNat:Int)])=k.map λc=>[Lit.int .u8 (c.toNat:Int)]:=by
   apply List.ext_getElem
   ·simp[hk]
   ·intro i h1 h2;simp at h1 h2;simp[ZG h2]
  rw[this];clear this hk
  induction k with
  | nil=>rfl
  | cons c r ih=>rw[List.map_cons,List.flatten_cons,ih];rfl
 ·have o:i<k.length:=by have:=List.mem_range.1 hi;omega
  rw[Ki];have:((AH k).drop (i*1)).take 1=[Value.int .u8 ((k.getD i 0).toNat:Int)]:=by
   rw[Nat.mul_one,List.drop_eq_getElem_cons (by simpa [AH] using o),List.take_succ_cons,List.take_zero];simp[AH,ZG o]
  rw[this];exact Ek m _
def F2 (o:Sto.Op):List Lit:=(o.1.map λc=>Lit.int .u8 (c.toNat:Int))++[.int .i64 o.2.1,.string o.2.2]
theorem HQ {a b:Sto.Op} (ha:a.1.length=32) (hb:b.1.length=32) (h:F2 a=F2 b):a=b:=by
 unfold F2 at h;obtain⟨A,o⟩:=List.append_inj h (by rw[QV,QV,ha,hb]);simp only[List.cons.injEq,Lit.int.injEq,Lit.string.injEq,true_and,and_true]at o;exact Prod.ext (Cz A) (Prod.ext o.1 o.2)
theorem K2 (n:Int) (h:-9223372036854775808≤n∧n≤9223372036854775807):(Lit.int .i64 n).wf=true:=by
 have o:IntKind.i64.min=-9223372036854775808:=by decide
 have A:IntKind.i64.max=9223372036854775807:=by decide
 simp[Lit.wf,o,A];omega
theorem Kb (o:Sto.Op) (h:o.1.length=32):(AU o).take 32=AH o.1∧((AU o).drop 32).take 1=[.int .i64 o.2.1]∧((AU o).drop 33).take 1=[txt o.2.2]:=by
 have A:(AH o.1).length=32:=by rw[AP,h]
 unfold AU AG;refine⟨?_,?_,?_⟩
 ·rw[← A];exact List.take_left
 ·rw[show (32:Nat)=(AH o.1).length from A.symm,List.drop_left];rfl
 ·rw[show (33:Nat)=(AH o.1).length+1 by omega,← List.drop_drop,List.drop_left];rfl
theorem EL {o:Sto.Op} (h:ROk o):Tryz.prog.keyLits 3 82 (AU o)=some (F2 o):=by
 obtain⟨E,B,D⟩:=Kb o h.key;have C:Tryz.prog.keyLits 2 3 [.int .i64 o.2.1]=some [.int .i64 o.2.1]:=by
  unfold Program.keyLits;simp only[Tryz.underlying3,K2 _ h.kind,and_self,if_true]
 have F:Tryz.prog.keyLits 2 9 [txt o.2.2]=some [.string o.2.2]:=by
  unfold Program.keyLits txt;have:(⟨o.2.2.toArray⟩:ByteArray).size≤maxLen:=by show o.2.2.toArray.size≤_;have:=h.val;unfold maxLen;simp;omega
  simp only[Tryz.underlying9,this,if_true]
 have A:=Gk 0 o.1 h.key;unfold Program.keyLits;simp only[Tryz.underlying82];rw[if_pos ⟨by rw[A1 h.key];kernel_rfl,by kernel_rfl⟩];simp only[List.mapM_cons,List.mapM_nil,List.drop_zero,show Tryz.prog.cellsOf 39=32 by kernel_rfl,show Tryz.prog.cellsOf 3=1 by kernel_rfl,show Tryz.prog.cellsOf 9=1 by kernel_rfl,E,B,D,A,C,F];rfl
theorem FT {o:Sto.Op} (h:o.1.length=32):(Value.agg (AU o).toArray).formed Tryz.prog 82=true:=by
 have A:Tryz.prog.cellsOf 82=34:=by kernel_rfl
 simp[Value.formed,Tryz.underlying82,A,A1 h]
theorem Hw (a b:Sto.Op) (ha:ROk a) (hb:ROk b) (w:World):(Op.equalIn 10000 82 (.agg (AU a).toArray) (.agg (AU b).toArray)).run Tryz.prog w=.ok (decide (a=b)) w:=by
 obtain⟨r,o,A⟩:=run_equalIn_deep (P:=Tryz.prog) 9997 3 82 (by kernel_rfl) w 3 3 (.agg (AU a).toArray) (.agg (AU b).toArray) _ _ (FT ha.key) (FT hb.key) (by show Tryz.prog.keyLits 3 _ (AU a).toArray.toList=_;rw[List.toList_toArray];exact EL ha) (by show Tryz.prog.keyLits 3 _ (AU b).toArray.toList=_;rw[List.toList_toArray];exact EL hb);refine Eq.trans (b:=.ok r w) o ?_
 congr 1
 rw[Bool.eq_iff_iff,A,decide_eq_true_iff];exact⟨HQ ha.key hb.key,λe=>by rw[e]⟩
theorem Km (a b:Sto.Op) (ha:ROk a) (hb:ROk b) (w:World):(binOp .neq 82 (.agg (AU a).toArray) (.agg (AU b).toArray)).run Tryz.prog w=.ok (.bool (!decide (a=b))) w:=by
 rw[run_neq_struct,Hw a b ha hb w];rfl
theorem JO (op:BinOp) (x y:Operand) (a b:Sto.Op) (w:World):(eqGuard op 82 x y (.agg (AU a).toArray) (.agg (AU b).toArray)).run Tryz.prog w=.ok () w:=by
 have h:Tryz.prog.eqGuardType Tryz.prog.depth 82=false:=by kernel_rfl
 unfold eqGuard;cases op<;>simp[h]
theorem BG (a b:Value) (E D:Sto.Ents) (w:World) (F G:Nat→Prop) (ha:CW w F a E) (hb:CW w G b D) (hl:E.length≤1000000000) (hm:D.length≤1000000000) :
  Calls Tryz.prog 15 #[a,b] w λe w'=>e=.returned (.bool (decide (E=D)))∧Below w.heap.size w w':=by
 obtain⟨aa,ac,rfl⟩:=ha.form;obtain⟨ba,bc,rfl⟩:=hb.form;have HA:=QA ha;have HB:=QA hb;clear ha hb;go_enter Tryz.func15,Tryz.ntmps15;by_cases hlen:E.length=D.length
 ·have ht:((E.length:Int) != (D.length:Int))=false:=by rw[hlen];simp
  have P:(E.length != D.length)=false:=by rw[hlen];simp
  have o:=QA hlen;clear hlen;go_wp2_with fail
  go_loopg [13] E.length (λk s13 wr=>∃j:Nat,j≤E.length∧k=E.length-j∧s13=.int .i64 (j:Nat)∧E.take j=D.take j∧∃n,wr=w.drewN n)
  case atStart=>exact⟨0,Nat.zero_le _,rfl,rfl,by simp,0,rfl⟩
  case round =>
   obtain⟨j,hj,T,rfl,N,nd,rfl⟩:=hrel;have HK:=QA T;have L:=QA N;clear T N;have ad:(0:Int)≤(j:Int):=Int.natCast_nonneg _;by_cases hjn:j<E.length
   ·have O:(j:Int)<(E.length:Int):=by omega
    have Z:(j:Int)<(D.length:Int):=by have:=o.out;omega
    obtain⟨x,R⟩:∃x,E[j]?=some x:=⟨_,ZG hjn⟩
    obtain⟨y,S⟩:∃y,D[j]?=some y:=⟨_,ZG (by have:=o.out;omega)⟩
    obtain⟨V,B,I,rfl,al,c1⟩:=HA.out.at R;obtain⟨W,K,C,rfl,ae,c2⟩:=HB.out.at S;have U:=QA R;have Y:=QA S;have M:=QA V;have H:=QA W;clear R S V W;go_wp2_with fail;refine AK (λw'=>w'.rangeAt B (I+j*34) (AU x)∧w'.rangeAt K (C+j*34) (AU y)) 9 (by kernel_rfl) ?_;have A:(w.drewN nd).drew.rangeAt B (I+j*34) (AU x)∧(w.drewN nd).drew.rangeAt K (C+j*34) (AU y):=⟨(World.rangeAt_drew _ _ _ _).2 c1,(World.rangeAt_drew _ _ _ _).2 c2⟩
    change Ab _ _ _ _ _ _ _ _ _ (w.drewN nd).drew;refine TK (i:=0) (v:=.slice (some ⟨B,I,none⟩) E.length ac) rfl (Or.inl ⟨by rfl,λw hSw=>by go_simp⟩) A ?_;simp only[Act.put,QD,QK,QI,QJ,QC,QH,QG];refine TK (i:=1) (v:=.int .i64 (j:Nat)) rfl (Or.inl ⟨by rfl,λw hSw=>by go_simp⟩) A ?_;simp only[Act.put,QD,QK,QI,QJ,QC,QH,QG];refine TK (i:=2) (v:=.pointer (some ⟨B,I+j*34,none⟩)) rfl (Or.inl ⟨by rfl,λw hSw=>by go_simp⟩) A ?_;simp only[Act.put,QD,QK,QI,QJ,QC,QH,QG];refine TK (i:=3) (v:=.agg (AU x).toArray) rfl (D3 rfl _ rfl B (I+j*34) rfl x M.out.key (λw hSw=>hSw.1)) A ?_;simp only[Act.put,QD,QK,QI,QJ,QC,QH,QG];refine TK (i:=4) (v:=.slice (some ⟨K,C,none⟩) D.length bc) rfl (Or.inl ⟨by rfl,λw hSw=>by go_simp⟩) A ?_;simp only[Act.put,QD,QK,QI,QJ,QC,QH,QG];refine TK (i:=5) (v:=.int .i64 (j:Nat)) rfl (Or.inl ⟨by rfl,λw hSw=>by go_simp⟩) A ?_;simp only[Act.put,QD,QK,QI,QJ,QC,QH,QG];refine TK (i:=6) (v:=.pointer (some ⟨K,C+j*34,none⟩)) rfl (Or.inl ⟨by rfl,λw hSw=>by go_simp⟩) A ?_;simp only[Act.put,QD,QK,QI,QJ,QC,QH,QG];refine TK (i:=7) (v:=.agg (AU y).toArray) rfl (D3 rfl _ rfl K (C+j*34) rfl y H.out.key (λw hSw=>hSw.2)) A ?_;simp only[Act.put,QD,QK,QI,QJ,QC,QH,QG];have aj:=JO .neq;have ab:=Km x y M.out H.out;refine TK (i:=8) (v:=.bool (!decide (x=y))) rfl (Or.inl ⟨by rfl,λw hSw=>by go_simp⟩) A ?_;simp only[Act.put,QD,QK,QI,QJ,QC,QH,QG];refine AL (by kernel_rfl) ?_ _;by_cases hxy:x=y
    ·have Q:(!decide (x=y))=false:=by rw[decide_eq_true hxy];rfl
     rw[Q];go_wp2_with fail;go_roundg (E.length-(j+1))
     case measure=>rw[HK.out];omega
     case rel=>exact⟨j+1,by omega,rfl,by simp,by rw[List.take_add_one,List.take_add_one,L.out,U.out,Y.out,hxy],nd+1,by first|rfl|(simp[World.drewN,World.drew];omega)⟩
    ·have Q:(!decide (x=y))=true:=by rw[decide_eq_false hxy];rfl
     have J:Hid (decide (E=D)=false):=QA (decide_eq_false (λe=>hxy (by have:=U.out;rw[e,Y.out]at this;exact (Option.some.inj this).symm)));rw[Q];go_wp2_with fail;go_ret;exact⟨by rw[J.out];rfl,Below.drew (Below.drewN (Below.refl _ _) _)⟩
   ·have O:(E.length:Int)≤(j:Int):=by omega
    have J:Hid (decide (E=D)=true):=by
     have X:=L.out;rw[List.take_of_length_le (by omega),List.take_of_length_le (by have:=o.out;omega)]at X;exact QA (decide_eq_true X)
    go_wp2_with fail;go_ret;exact⟨by rw[J.out];rfl,Below.drewN (Below.refl _ _) _⟩
 ·have ht:((E.length:Int) != (D.length:Int))=true:=by rw[bne_iff_ne];omega
  have P:(E.length != D.length)=true:=by rw[bne_iff_ne];exact hlen
  have J:Hid (decide (E=D)=false):=QA (decide_eq_false (λe=>hlen (by rw[e])));clear hlen;go_wp2_with fail;go_ret;exact⟨by rw[J.out];rfl,Below.refl _ _⟩
def Jq (l:Sto.ME) (w:World) (e:Ending) (w':World):Prop :=
 ∃b,e=.returned (.bool b)∧(b=true→l.length≤70∧∀p∈l,p.1.2.2.length≤9000)∧Below w.heap.size w w'
theorem Ig (v:Value) (l:Sto.ME) (w:World) (F:Nat→Prop) (h:BQ w F v l) (hl:l.length≤9223372036854775807) (hb:∀p∈l,p.1.2.2.length≤9223372036854775807) :
  Calls Tryz.prog 9 #[.agg #[.int .i64 0,.int .i64 0,v,.slice none 0 0]] w (Jq l w):=by
 obtain⟨va,vc,rfl⟩:=h.form;have C:Below w.heap.size w (w.alloc (.cells #[.int .i64 0,.int .i64 0,.slice va l.length vc,.slice none 0 0] 27)):=(Below.refl _ _).alloc (QM _) _;have H:=QA (h.mv (MV.below C));have D:=QA C;have aa:=QA hb;clear h C hb;go_enter Tryz.func9,Tryz.ntmps9;by_cases h70:70<l.length
 ·have P:(70:Int)<(l.length:Int):=by omega
  go_wp2_with fail;go_ret;exact⟨false,rfl,λe=>(by cases e),D.out⟩
 ·have P:(l.length:Int)≤70:=by omega
  go_wp2_with fail;obtain⟨W,Q⟩:∃x,w.alloc (.cells #[.int .i64 0,.int .i64 0,.slice va l.length vc,.slice none 0 0] 27)=x:=⟨_,rfl⟩
  rw[Q]at D H ⊢;clear Q
  go_loopg [3,19] l.length (λk s3 s19 wr=>∃j n:Nat,j≤l.length∧k=l.length-j∧s19=.int .i64 (j:Nat)∧s3=.int .i64 (n:Nat)∧n≤9000∧(∀p∈l.take j,p.1.2.2.length≤9000)∧Below W.heap.size W wr)
  case atStart=>exact⟨0,0,Nat.zero_le _,rfl,rfl,rfl,Nat.zero_le _,λp E=>(by simp at E),Below.refl _ _⟩
  case round =>
   obtain⟨j,n,hj,hk,rfl,rfl,hn,J,hB⟩:=hrel;have HK:=QA hk;have V:=QA hB;have K:=QA J;clear hk hB J;have af:(0:Int)≤(j:Int):=Int.natCast_nonneg _;by_cases hjn:j<l.length
   ·have S:(j:Int)<(l.length:Int):=by omega
    obtain⟨⟨o,pv⟩,E⟩:∃p,l[j]?=some p:=⟨_,ZG hjn⟩
    obtain⟨B,T,g,R,rfl,hg,L⟩:=(H.out.mv (MV.below V.out)).at E;have G:=T.1;have Y:Hid (l.take (j+1)=l.take j++[(o,pv)]):=QA (by rw[List.take_add_one,E];rfl);have Z:=aa.out _ (QZ E);obtain⟨M,N,O,ag⟩:=G.form;simp only at O B G L Z;subst O;have C:=Aj.new wr o (.slice M o.2.2.length N);have aj:=C.cell (Ao B _);have U:=QA G;have A:=QA B;clear C G B E T;have I:Hid (Below W.heap.size W (wr.alloc (.cells (AG o (.slice M o.2.2.length N)).toArray 43))):=QA (V.out.alloc V.out.size _);by_cases hbig:9000-(n:Int)<(o.2.2.length:Int)
    ·go_wp2_with (first|(guard_target=wpList _ _ _ ({ dst:=_,op:=.load 43 _,type:=_,pos:=_,after:=_,guard:=none }::_) _ _;refine AO rfl _ rfl g (R+j*34) o (.slice M o.2.2.length N) A.out rfl L ?_)|(guard_target=wpList _ _ _ ({ dst:=_,op:=.store 43 _ _,type:=_,pos:=_,after:=_,guard:=none }::_) _ _;refine AV rfl _ _ rfl _ rfl o (.slice M o.2.2.length N) A.out U.out.one rfl rfl ?_)|fail);refine bodyPost_ret (v:=.bool false) (by simp[results,Tryz.results9,go_sem]) rfl ?_;exact⟨false,rfl,λe=>(by cases e),D.out.trans (I.out.mono D.out.size)⟩
    ·have X:(o.2.2.length:Int)≤9000-(n:Int):=by omega
     go_wp2_with (first|(guard_target=wpList _ _ _ ({ dst:=_,op:=.load 43 _,type:=_,pos:=_,after:=_,guard:=none }::_) _ _;refine AO rfl _ rfl g (R+j*34) o (.slice M o.2.2.length N) A.out rfl L ?_)|(guard_target=wpList _ _ _ ({ dst:=_,op:=.store 43 _ _,type:=_,pos:=_,after:=_,guard:=none }::_) _ _;refine AV rfl _ _ rfl _ rfl o (.slice M o.2.2.length N) A.out U.out.one rfl rfl ?_)|fail);go_roundg (l.length-(j+1))
     case measure=>rw[HK.out];omega
     case rel=>exact⟨j+1,n+o.2.2.length,by omega,rfl,by simp,by simp,by omega,(by
      rw[Y.out];intro p E;rcases ZI.1 E with E|E
      ·exact K.out p E
      ·rw[QB.1 E];show o.2.2.length≤9000;omega),I.out⟩
   ·have S:(l.length:Int)≤(j:Int):=by omega
    have HT:Hid (l.take j=l):=QA (List.take_of_length_le (by omega));go_wp2_with fail;refine bodyPost_ret (v:=.bool true) (by simp[results,Tryz.results9,go_sem]) rfl ?_;exact⟨true,rfl,λ_=>⟨by omega,by have:=K.out;rwa [HT.out]at this⟩,D.out.trans (V.out.mono D.out.size)⟩
end Go.Proofs.YtjldahcckmmenaaGreatDoor
