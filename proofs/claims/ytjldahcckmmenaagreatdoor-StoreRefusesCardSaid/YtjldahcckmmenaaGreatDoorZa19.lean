/-
  The store in a law: what a batch finds room for; keys in boxes; awake of rubriclaw06, walked. StoreFull, plain: batches of one change each, till no more find room.
-/
import Derived.Test.YtjldahcckmmenaaGreatDoorZa18
import Derived.Test.YtjldahcckmmenaaGreatDoorZa15
import Derived.Laws.StructEq
open Array renaming getInternal_eq_getElem → QD
open Go.Lib renaming hid → QA
open List renaming mem_singleton → QB, setIfInBounds_toArray → QC, set_cons_succ → QG, set_cons_zero → QH, getElem_cons_zero → QI, getElem_cons_succ → QJ, getElem_toArray → QK
open Nat renaming le_refl → QM, le_trans → QQ
namespace Go.Proofs.YtjldahcckmmenaaGreatDoor
set_option maxRecDepth 100000
set_option maxHeartbeats 4000000
set_option linter.unusedSimpArgs false
set_option linter.unusedVariables false
open Go Go.RowKit
open Go.Maps Go.WideMaps
namespace Sto
theorem Can.of {f:Fs.St} {k:Nat} {ver:Int} {S:List Seg} {ops:List Op} (hD:Disk f k ver S 12297) (ho:GoodB ops) (h1:S.length≤31) (h2:(((S.length+3)*12297+800:Nat):Int)≤f.room) (h3:k≤100000):Can f k S 12297 ops:=by
 have C:=ho.mass_le;have D:=(IH hD.x.ne ops).2;have A:((put S ops).length+1)*12297≤(S.length+2)*12297:=Nat.mul_le_mul_right _ (by omega);refine Can.mk (by omega) (λs hs=>?_) (Nat.le_of_ble_eq_true rfl) (λ_=>h2) (Int.le_trans (Int.ofNat_le.2 ?_) h2) h3
 case refine_2 =>
  refine QQ (Nat.add_le_add A (Nat.add_le_add_right C 9)) ?_;rw[Nat.add_mul,Nat.add_mul,Nat.add_assoc,Nat.add_assoc];exact Nat.add_le_add_left (Nat.le_of_ble_eq_true rfl) _
 obtain⟨E,a,B,rfl⟩:=snoc_of hD.x.ne;have o:=hD.x.len.2;rw[put_snoc]at hs;split at hs
 ·rcases List.mem_append.1 hs with hs|hs
  ·exact o s hs
  ·rw[QB.1 hs];show (fileOf [ops]).length≤_;rw[ho.one];omega
 ·rcases List.mem_append.1 hs with hs|hs
  ·exact o s (List.mem_append_left _ hs)
  ·rw[QB.1 hs];show (fileOf (B++[ops])).length≤_;rw[A1,List.length_append,ho.blen];omega
theorem Can.one {f:Fs.St} {k:Nat} {bs:List (List Op)} {ops:List Op} {a:Int} (ho:GoodB ops) (h1:(fileOf bs).length+(mass ops+9)≤800) (h2:(3000:Int)≤f.room) (h3:k≤100000):Can f k [(a,bs)] 800 ops:=by
 have e:put [(a,bs)] ops=[(a,bs++[ops])]:=by
  have:=put_snoc [] a bs ops;rw[if_neg (by omega)]at this;exact this
 refine⟨by rw[e];show 1≤32;omega,λs hs=>?_,by omega,λh=>?_,?_,h3⟩
 ·rw[e]at hs;rw[QB.1 hs];show (fileOf (bs++[ops])).length≤_;rw[A1,List.length_append,ho.blen];omega
 ·rw[e]at h;exact absurd h (by simp)
 ·rw[e];show (((1+1)*800+(mass ops+9):Nat):Int)≤_;omega
end Sto
theorem Da (base B r mb:Nat) (f:Fs.St) (V:FsV) (own:Nat→Tag) (ver:Int) (sv:Value) (S:List Sto.Seg) (M k:Nat) (l:Sto.ME) (v:Value) (ops:Sto.ME) (w:World)
  (h:Ae base B f V own w) (hE:A0 base w) (hbase:base≤w.heap.size) (hrb:base≤r) (hA:As w own B r ⟨ver,Sto.ids S,Sto.ents S,false⟩ mb sv l) (hD:Sto.Disk f k ver S M)
  (ho:Au w (SF r own) v ops) (hol:ops.length≤1000000000) (hbl:∀p∈ops,p.1.2.2.length≤1000000000) (hk:∀p∈ops,p.1.1.length=32) (hC:Sto.Goes S (Sto.opsOf ops)→Sto.Can f k S M (Sto.opsOf ops)) :
  Calls Tryz.prog 13 #[.pointer (some ⟨r,0,none⟩),v] w λe w'=>e=.returned (.int .i64 (Sto.wcode S (Sto.opsOf ops)))∧Es base B r f own (Sto.wrote S (Sto.opsOf ops)) M k w w':=by
 obtain⟨A,a,o,rfl⟩:=Sto.snoc_of hD.x.ne;exact Hr base B r mb f V own ver sv A a o M k l v ops w h hE hbase hrb hA hD ho hol hbl hk hC
theorem Below.setCells {B b:Nat} {a:World} (hb:B≤b):∀(vs:List Value) (o:Nat) (w:World),Below B a w→Below B a (w.setCells b o vs)
 | [],_,_,h=>h
 | _::r,o,_,h=>Below.setCells hb r (o+1) _ (h.setCell (p:=⟨b,o,none⟩) hb _)
theorem Gy (w:World) (c:Array Value) (hc:c.size=32):(w.alloc (.cells c 40)).there w.heap.size 0 32:=λj hj=>by
 have o:=AJ w (.cells c 40);rw[Nat.zero_add];exact⟨by rw[AA o j _ (Array.getElem?_eq_getElem (by omega))];rfl,AE o j⟩
theorem Ct {ops:Array Oper} {rest:List Oper} {op:Oper} {a:Act} {w:World} {Q:Exit→Act→World→Prop} (hg:op.guard=none) (x y:Operand) (ho:op.op=.store 40 x y) (b:Nat) (k:List UInt8) (hk:k.length=32)
  (hx:a.eval x=.pointer (some ⟨b,0,none⟩)) (hy:a.eval y=Ac k) (ht:w.there b 0 32) (h:wpList Tryz.prog ops Q rest (a.put op.dst undef) (w.setCells b 0 (AG k))):wpList Tryz.prog ops Q (op::rest) a w :=
 wpList_store_mid hg _ x y ho b 0 (AG k).toArray hx hy (by rw[List.size_toArray,AU,hk];exact ht) (by rw[List.size_toArray,AU,hk];kernel_rfl) (all_oneCell_toArray (DI k)) h
theorem Kb (w:World) (c d:Array Value) (hc:c.size=32) (hd:d.size=32) (k m:List UInt8) (hk:k.length=32) (hm:m.length=32) :
  Below w.heap.size w ((((w.alloc (.cells c 40)).alloc (.cells d 40)).setCells w.heap.size 0 (AG k)).setCells (w.heap.size+1) 0 (AG m)) ∧
   ((((w.alloc (.cells c 40)).alloc (.cells d 40)).setCells w.heap.size 0 (AG k)).setCells (w.heap.size+1) 0 (AG m)).rangeAt w.heap.size 0 (AG k) ∧
   ((((w.alloc (.cells c 40)).alloc (.cells d 40)).setCells w.heap.size 0 (AG k)).setCells (w.heap.size+1) 0 (AG m)).rangeAt (w.heap.size+1) 0 (AG m) ∧
   ((w.alloc (.cells c 40)).alloc (.cells d 40)).there w.heap.size 0 32∧(((w.alloc (.cells c 40)).alloc (.cells d 40)).setCells w.heap.size 0 (AG k)).there (w.heap.size+1) 0 32:=by
 have A:((w.alloc (.cells c 40)).alloc (.cells d 40)).there w.heap.size 0 32:=World.there_alloc (Gy w c hc) _;have B:((w.alloc (.cells c 40)).alloc (.cells d 40)).there (w.heap.size+1) 0 32:=by
  have:=Gy (w.alloc (.cells c 40)) d hd
  rwa [show (w.alloc (.cells c 40)).heap.size=w.heap.size+1 by simp]at this
 have o:=World.there_setCells B w.heap.size 0 (AG k);have C:(AG k).length=32:=by rw[AU,hk]
 have D:(AG m).length=32:=by rw[AU,hm]
 refine⟨Below.setCells (by omega) _ _ _ (Below.setCells (QM _) _ _ _ (((Below.refl _ w).alloc (QM _) _).alloc (by simp) _)),?_,?_,A,o⟩
 ·exact World.rangeAt_setCells_apart (World.rangeAt_setCells_same _ _ _ _ (by rw[C];exact A)) _ _ _ (.inl (by omega))
 ·exact World.rangeAt_setCells_same _ _ _ _ (by rw[D];exact o)
theorem Bs (b:Nat):∀(vs:List Value) (o:Nat) (w:World),(w.setCells b o vs).heap.size=w.heap.size
 | [],_,_=>rfl
 | v::r,o,w=>by
  rw[World.setCells,Bs b r];simp[World.setCell]
theorem J1 (w:World) (c d:Array Value) (hc:c.size=32) (hd:d.size=32) (k m:List UInt8) (hk:k.length=32) (hm:m.length=32):∃w2:World,Below w.heap.size w w2∧w2.heap.size=w.heap.size+2∧w2.rangeAt w.heap.size 0 (AG k)∧w2.rangeAt (w.heap.size+1) 0 (AG m) ∧
   ((w.alloc (.cells c 40)).alloc (.cells d 40)).there w.heap.size 0 32∧(((w.alloc (.cells c 40)).alloc (.cells d 40)).setCells w.heap.size 0 (AG k)).there (w.heap.size+1) 0 32 ∧
   (((w.alloc (.cells c 40)).alloc (.cells d 40)).setCells w.heap.size 0 (AG k)).setCells (w.heap.size+1) 0 (AG m)=w2:=by
 obtain⟨B,A,o,D,C⟩:=Kb w c d hc hd k m hk hm;exact⟨_,B,by rw[Bs,Bs];simp,A,o,D,C,rfl⟩
theorem EJ {k:List UInt8} (hk:k.length=32):(Ac k).formed Tryz.prog 40=true:=by simp[Ac,Value.formed,Tryz.underlying40,Et,AG,hk]
theorem CK:∀{a b:List UInt8},(a.map λc=>Lit.int .u8 (c.toNat:Int))=(b.map λc=>Lit.int .u8 (c.toNat:Int))→a=b
 | [],[],_=>rfl
 | [],_::_,h=>by simp at h
 | _::_,[],h=>by simp at h
 | x::a,y::b,h=>by
  simp only[List.map_cons,List.cons.injEq,Lit.int.injEq,true_and]at h;rw[CK h.2,UInt8.toNat_inj.1 (Int.ofNat_inj.1 h.1)]
theorem Gg (a b:List UInt8) (ha:a.length=32) (hb:b.length=32) (w:World):(Op.equalIn 10000 40 (Ac a) (Ac b)).run Tryz.prog w=.ok (decide (a=b)) w:=by
 obtain⟨r,A,o⟩:=run_equalIn_deep (P:=Tryz.prog) 9998 2 40 (by kernel_rfl) w 2 2 (Ac a) (Ac b) _ _ (EJ ha) (EJ hb) (by show Tryz.prog.keyLits 2 _ (AG a).toArray.toList=_;rw[List.toList_toArray];exact Cb 0 a ha) (by show Tryz.prog.keyLits 2 _ (AG b).toArray.toList=_;rw[List.toList_toArray];exact Cb 0 b hb);refine Eq.trans (b:=.ok r w) A ?_
 congr 1
 rw[Bool.eq_iff_iff,o,decide_eq_true_iff];exact⟨CK,λe=>by rw[e]⟩
theorem Ke (a b:List UInt8) (ha:a.length=32) (hb:b.length=32) (w:World):(binOp .eql 40 (Ac a) (Ac b)).run Tryz.prog w=.ok (.bool (decide (a=b))) w:=by
 show (binOp .eql 40 (.agg _) (.agg _)).run Tryz.prog w=_;rw[run_eql_struct,show (Op.equalIn 10000 40 (.agg (AG a).toArray) (.agg (AG b).toArray)).run Tryz.prog w=_ from Gg a b ha hb w];rfl
theorem I7 (op:BinOp) (x y:Operand) (a b:List UInt8) (w:World):(eqGuard op 40 x y (Ac a) (Ac b)).run Tryz.prog w=.ok () w:=by
 have h:Tryz.prog.eqGuardType Tryz.prog.depth 40=false:=by kernel_rfl
 unfold eqGuard;cases op<;>simp[Ac,h]
theorem II {w:World} {base g n c:Nat} {ks:List K32} (h:DW w base (.slice (some ⟨g,0,none⟩) n c) ks) {i:Nat} {k:K32} (hi:ks[i]?=some k):w.rangeAt g (i*32) (AG k.1):=λj u hj=>by
 have o:j<32:=by
  have:=(List.getElem?_eq_some_iff.1 hj).1
  rwa [AU,k.2]at this
 have A:(Aj ks)[i*32+j]?=some u:=by
  rw[D4,show (i*32+j) / 32=i by omega,show (i*32+j) % 32=j by omega,hi];exact hj
 have:=World.ownsRow.cells h (g:=g) rfl _ _ A;rw[addr_add]at this;exact this
theorem KI {x:List UInt8}:∀{ks:List K32},ks.map (·.1)=[x]→∃k:K32,ks=[k]∧k.1=x
 | [],h=>by simp at h
 | [k],h=>⟨k,rfl,by simpa using h⟩
 | _::_::_,h=>by simp at h
def aw1:List Sto.Op:=[(AL 1,1,[120]),(AL 2,1,[121])]
def aw2:List Sto.Op:=[(AL 1,0,[])]
theorem CB:Sto.GoodB aw1:=⟨by kernel_rfl,by decide,by intro o ho;simp[aw1]at ho;rcases ho with rfl|rfl<;>rfl⟩
theorem C8:Sto.GoodB aw2:=⟨by kernel_rfl,by decide,by intro o ho;simp[aw2]at ho;rcases ho with rfl;rfl⟩
theorem JW:Sto.live (Sto.chgs (Sto.ents [(1,[])]) aw1)=90:=by kernel_rfl
theorem Jm:Sto.live (Sto.chgs (Sto.ents [(1,[aw1])]) aw2)=45:=by kernel_rfl
theorem Ks:Sto.ents [(1,[aw1,aw2])]=[(AL 2,1,[121])]:=by kernel_rfl
theorem Gp:Sto.Goes [(1,[])] aw1:=⟨CB.chk,by rw[JW];decide,CB.some'⟩
theorem GV:Sto.Goes [(1,[aw1])] aw2:=⟨C8.chk,by rw[Jm];decide,C8.some'⟩
theorem Kx:Sto.wrote [(1,[])] aw1=[(1,[aw1])]:=by
 unfold Sto.wrote;rw[if_pos Gp];exact (Sto.put_snoc [] 1 [] aw1).trans (if_neg (by decide))
theorem KV:Sto.wrote [(1,[aw1])] aw2=[(1,[aw1,aw2])]:=by
 unfold Sto.wrote;rw[if_pos GV];refine (Sto.put_snoc [] 1 [aw1] aw2).trans (if_neg ?_);rw[CB.one]
 decide
theorem Gr:Sto.mass aw1=72:=by kernel_rfl
theorem KC:Sto.mass aw2=35:=by kernel_rfl
theorem Fe (w:World) (c:UInt8) (fz:Nat×Nat):Aa (w.alloc (.cells #[.int .u8 (c.toNat:Int)] 5 fz)) (.slice (some ⟨w.heap.size,0,none⟩) 1 1) [c] :=
 Bu [c] 1 (QM _) (by simp) λi x hi=>by
  rw[Nat.zero_add,cell_of_row _ _ _ _ _ _ (AJ w _)]
  match i,hi with
  | 0,hi=>simp at hi;subst hi;rfl
  | i+1,hi=>simp at hi
theorem BB.nil (w:World) (F:Nat→Prop):BB w F (.slice none 0 0) []:=⟨⟨none,0,rfl,QM _,λ_=>rfl,λi x hi=>by simp at hi⟩,λp n c e _=>by simp at e⟩
theorem Bz (base:Nat) (w:World) (hE:Cq base w) (hbase:base≤w.heap.size):Calls Tryz.prog 8 #[] w λe w'=>e=.returned (.bool true)∧Below w.heap.size w w':=by
 have HE:=QA hE;clear hE;go_enter Tryz.func8,Tryz.ntmps8;go_wp2_with fail;refine (Cz base 5000 w HE.out.sg hbase (by decide) (by decide)).mono ?_;rintro e w1 ⟨r,V1,own1,sv1,mb1,rfl,hr1,hf1,hb1,hA1⟩;obtain⟨d1,d2,d3,d4,d5,d6⟩:=Sto.Disk.begin (r:=5000) (by decide) (by decide);obtain⟨f1,hf⟩:∃f,(Mf.save (Sg.create (Fs.new 5000) 1).1 1 [1]).1=f:=⟨_,rfl⟩
 rw[hf]at hf1 d5 d6;have aW:=QA hf1;have N:=QA hb1;have aL:=QA hA1;have bg:=QA d6;have aP:=QA d5;clear d1 d2 d3 d4 d5 d6 hf1 hb1 hA1 hf;obtain⟨B,ag,aY,aG,az,aB,aD,aF⟩:=J1 w1 #[.int .u8 0,.int .u8 0,.int .u8 0,.int .u8 0,.int .u8 0,.int .u8 0,.int .u8 0,.int .u8 0,.int .u8 0,.int .u8 0,.int .u8 0,.int .u8 0,.int .u8 0,.int .u8 0,.int .u8 0,.int .u8 0,.int .u8 0,.int .u8 0,.int .u8 0,.int .u8 0,.int .u8 0,.int .u8 0,.int .u8 0,.int .u8 0,.int .u8 0,.int .u8 0,.int .u8 0,.int .u8 0,.int .u8 0,.int .u8 0,.int .u8 0,.int .u8 0] #[.int .u8 0,.int .u8 0,.int .u8 0,.int .u8 0,.int .u8 0,.int .u8 0,.int .u8 0,.int .u8 0,.int .u8 0,.int .u8 0,.int .u8 0,.int .u8 0,.int .u8 0,.int .u8 0,.int .u8 0,.int .u8 0,.int .u8 0,.int .u8 0,.int .u8 0,.int .u8 0,.int .u8 0,.int .u8 0,.int .u8 0,.int .u8 0,.int .u8 0,.int .u8 0,.int .u8 0,.int .u8 0,.int .u8 0,.int .u8 0,.int .u8 0,.int .u8 0] rfl rfl (AL 1) (AL 2) rfl rfl;have ba:=QA aF;have bo:=QA aB;have bc:=QA aD;have be:=QA ag;have J:=QA aY;have aH:=QA aG;have aq:=QA az;clear aF aB aD ag aY aG az;have bE:Hid (B.heap.size=w1.heap.size+2):=J;have I:Hid (∀b,w1.heap.size≤b→SF r own1 b):=QA λb hb=>⟨aW.out.fresh b hb,by have:=AD aL.out.root;omega⟩
 have bC:∀(x:UInt8),Below B.heap.size B (B.alloc (.cells #[.int .u8 (x.toNat:Int)] 5)):=λx=>(Below.refl _ _).alloc (QM _) _
 have br:=Joins.run_convert_bytes_const_at (P:=Tryz.prog) B 41 5 #[.int .u8 120] 1 1 B.heap.size rfl Tryz.underlying41 Tryz.underlying5;have bv:=Joins.run_convert_bytes_const_at (P:=Tryz.prog) (B.alloc (.cells #[.int .u8 120] 5 (1,2))) 41 5 #[.int .u8 121] 1 1 (B.heap.size+1) (by simp) Tryz.underlying41 Tryz.underlying5;have bi:Hid ((B.alloc (.cells #[.int .u8 120] 5 (1,2))).rangeAt (w1.heap.size+1) 0 (AG (AL 2))):=QA (World.rangeAt_alloc aq.out _);go_wp2_with (first|(guard_target=wpList _ _ _ ({ dst:=_,op:=.build 40 #[(0,.const (.int .u8 1))],type:=_,pos:=_,after:=_,guard:=_ }::_) _ _;refine A4 rfl _ rfl 1 rfl ?_)|(guard_target=wpList _ _ _ ({ dst:=_,op:=.build 40 #[(0,.const (.int .u8 2))],type:=_,pos:=_,after:=_,guard:=_ }::_) _ _;refine A4 rfl _ rfl 2 rfl ?_)|(guard_target=wpList _ _ _ ({ dst:=_,op:=.store 40 (.tmp 3) _,type:=_,pos:=_,after:=_,guard:=none }::_) _ _;refine Ct rfl _ _ rfl (w1.heap.size) (AL 1) rfl rfl rfl bo.out ?_)|((guard_target=wpList _ _ _ ({ dst:=_,op:=.store 40 (.tmp 4) _,type:=_,pos:=_,after:=_,guard:=none }::_) _ _;refine Ct rfl _ _ rfl (w1.heap.size+1) (AL 2) rfl rfl rfl bc.out ?_);rw[ba.out])|(guard_target=wpList _ _ _ ({ dst:=_,op:=.load 40 (.tmp 3),type:=_,pos:=_,after:=_,guard:=_ }::_) _ _;refine CL rfl _ rfl w1.heap.size 0 (AL 1) rfl rfl aH.out ?_)|(guard_target=wpList _ _ _ ({ dst:=_,op:=.load 40 (.tmp 4),type:=_,pos:=_,after:=_,guard:=_ }::_) _ _;refine CL rfl _ rfl (w1.heap.size+1) 0 (AL 2) rfl rfl bi.out ?_)|(guard_target=wpList _ _ _ ({ dst:=_,op:=.build 43 #[(0,.tmp 21),(1,_),(2,_)],type:=_,pos:=_,after:=_,guard:=_ }::_) _ _;refine B5 rfl _ _ _ rfl (AL 1) rfl _ [120] _ rfl rfl rfl rfl ?_)|(guard_target=wpList _ _ _ ({ dst:=_,op:=.build 43 #[(0,.tmp 25),(1,_),(2,_)],type:=_,pos:=_,after:=_,guard:=_ }::_) _ _;refine B5 rfl _ _ _ rfl (AL 2) rfl _ [121] _ rfl rfl rfl rfl ?_)|(guard_target=wpList _ _ _ ({ dst:=_,op:=.buildSlice 22 2 _,type:=_,pos:=_,after:=_,guard:=_ }::_) _ _;refine B0 rfl _ _ rfl [((AL 1,1,[120]),.slice (some ⟨B.heap.size,0,none⟩) 1 1),((AL 2,1,[121]),.slice (some ⟨B.heap.size+1,0,none⟩) 1 1)] (by simp[DK]) rfl (by decide) (by decide) rfl ?_)|fail);obtain⟨U,L⟩:∃q,(B.alloc (.cells #[.int .u8 120] 5 (1,2))).alloc (.cells #[.int .u8 121] 5 (1,2))=q:=⟨_,rfl⟩
 have af:Below B.heap.size B U:=by rw[← L];exact ((Below.refl _ _).alloc (QM _) _).alloc (by simp) _
 have aK:U.heap.size=B.heap.size+1+1:=by rw[← L];simp
 have ax:Aa U (.slice (some ⟨B.heap.size,0,none⟩) 1 1) [120]:=by rw[← L];exact (Fe B 120 (1,2)).below ((Below.refl _ _).alloc (QM _) _)
 have au:Aa U (.slice (some ⟨B.heap.size+1,0,none⟩) 1 1) [121]:=by
  rw[← L];have:=Fe (B.alloc (.cells #[.int .u8 120] 5 (1,2))) 121 (1,2)
  rwa [show (B.alloc (.cells #[.int .u8 120] 5 (1,2))).heap.size=B.heap.size+1 by simp]at this
 rw[L,← aK];obtain⟨T,C⟩:∃l:Sto.ME,[((AL 1,(1:Int),[(120:UInt8)]),Value.slice (some ⟨B.heap.size,0,none⟩) 1 1),((AL 2,1,[121]),.slice (some ⟨B.heap.size+1,0,none⟩) 1 1)]=l:=⟨_,rfl⟩
 have V:Sto.opsOf T=aw1:=by rw[← C];rfl
 have ad:∀p∈T,p.1.1.length=32:=by rw[← C];intro p hp;simp at hp;rcases hp with rfl|rfl<;>rfl
 have aR:∀p∈T,p.1.2.2.length≤1000000000:=by rw[← C];intro p hp;simp at hp;rcases hp with rfl|rfl<;>simp
 have aZ:∀p∈T,BB U (SF r own1) p.2 p.1.2.2:=by
  have hz:=J.out;rw[← C];intro p hp;simp at hp;rcases hp with rfl|rfl
  ·exact⟨ax,λq n c e _=>I.out _ (by simp at e;rw[← e.1];show _≤B.heap.size;omega)⟩
  ·exact⟨au,λq n c e _=>I.out _ (by simp at e;rw[← e.1];show _≤B.heap.size+1;omega)⟩
 have aT:T.length=2:=by rw[← C];rfl
 rw[C];have hO:=Au.lit (w:=U) (F:=SF r own1) T ad aZ (I.out _ (by have:=J.out;omega));rw[aT]at hO;have ar:Below w1.heap.size w1 (U.alloc (.cells (AP T).toArray 43)):=be.out.trans ((af.mono (by have:=J.out;omega)).alloc (by have:=J.out;omega) _);have K:=QA ar;have M:Hid (Below B.heap.size B (U.alloc (.cells (AP T).toArray 43))):=QA (af.alloc (by omega) _);have av:=QA hO;have am:=QA V;clear af aK ax au aZ C L hO ar V;obtain⟨wb,ap⟩:∃q,U.alloc (.cells (AP T).toArray 43)=q:=⟨_,rfl⟩
 rw[ap]at K M av ⊢;clear ap;refine (Da w.heap.size (w.heap.size+2) r mb1 f1 V1 own1 1 sv1 [(1,[])] 800 15 [] _ T wb (aW.out.kept (AC K.out)) ((HE.out.sg.below ((N.out.trans (K.out.mono N.out.size)).mono hbase)).mono hbase) (QQ N.out.size K.out.size) hr1 (aL.out.below K.out) bg.out av.out (by omega) aR ad
  (λ_=>by rw[am.out];exact Sto.Can.one CB (by rw[Gr];decide) (by rw[aP.out];decide) (by decide))).mono ?_
 rw[am.out,Kx,show Sto.wcode [(1,[])] aw1=0 from Sto.wcode_ok CB.chk Gp.2.1];rintro e w3 ⟨rfl,f3,V3,own3,ver3,mb3,sv3,l3,hf3,hs3,hb3,hA3,hD3,hrm3⟩;have a4:=QA hf3;have bb:=QA hA3;have bd:=QA hD3;have a0:Hid (f3.room=5000):=QA (hrm3.trans aP.out);have D:Hid (Below w.heap.size w w3):=QA ((N.out.trans (K.out.mono N.out.size)).trans hb3);have ao:Hid (∀b,w3.heap.size≤b→SF r own3 b):=QA λb hb=>⟨hf3.fresh b hb,by have:=AD hA3.root;omega⟩
 have bj:SFr r own1 own3 wb w3:=hs3;have Q:Hid (∀b k,w1.heap.size≤b→b<w1.heap.size+2→B.rangeAt b 0 (AG k)→w3.rangeAt b 0 (AG k)∧SF r own3 b∧b<w3.heap.size):=QA λb k hb ag hk=>by
  have hz:=J.out;have bL:=M.out.size;have h1:=I.out b hb;exact⟨AY hk ((hs3.block b (by omega) h1.1 h1.2).trans (M.out.block b (by omega))),⟨(hs3.tags b (by omega)).trans h1.1,h1.2⟩,by have:=hs3.size;omega⟩
 have ay:=QA (Q.out w1.heap.size _ (QM _) (by omega) aH.out);have aE:=QA (Q.out (w1.heap.size+1) _ (by omega) (by omega) aq.out);clear hf3 hs3 hb3 hA3 hD3 hrm3 aR ad aT Q bj;go_wp2_with (first|(guard_target=wpList _ _ _ ({ dst:=_,op:=.load 40 (.tmp 3),type:=_,pos:=_,after:=_,guard:=_ }::_) _ _;refine CL rfl _ rfl w1.heap.size 0 (AL 1) rfl rfl ay.out.1 ?_)|(guard_target=wpList _ _ _ ({ dst:=_,op:=.build 43 #[(0,_)],type:=_,pos:=_,after:=_,guard:=_ }::_) _ _;refine CN rfl _ rfl (AL 1) rfl rfl ?_)|(guard_target=wpList _ _ _ ({ dst:=_,op:=.buildSlice 22 1 _,type:=_,pos:=_,after:=_,guard:=_ }::_) _ _;refine B0 rfl _ _ rfl [((AL 1,0,[]),.slice none 0 0)] (by simp[DK]) rfl (by decide) (by decide) rfl ?_)|fail);have hO:=Au.lit (w:=w3) (F:=SF r own3) [((AL 1,0,[]),.slice none 0 0)] (by intro p hp;simp at hp;rw[hp];rfl) (by intro p hp;simp at hp;rw[hp];exact BB.nil _ _) (ao.out _ (QM _));have aQ:Below w3.heap.size w3 (w3.alloc (.cells (AP [((AL 1,0,[]),.slice none 0 0)]).toArray 43)):=(Below.refl _ _).alloc (QM _) _;have aI:=QA hO;have G:=QA aQ;clear hO aQ;obtain⟨wc,aC⟩:∃q,w3.alloc (.cells (AP [((AL 1,0,[]),.slice none 0 0)]).toArray 43)=q:=⟨_,rfl⟩
 rw[aC]at G aI ⊢;clear aC;refine (Da w.heap.size (w.heap.size+2) r mb3 f3 V3 own3 ver3 sv3 [(1,[aw1])] 800 29 l3 _ [((AL 1,0,[]),.slice none 0 0)] wc (a4.out.kept (AC G.out)) ((HE.out.sg.below ((D.out.trans (G.out.mono D.out.size)).mono hbase)).mono hbase) (QQ D.out.size G.out.size) hr1 (bb.out.below G.out) bd.out aI.out (by simp) (by intro p hp;simp at hp;rw[hp];simp) (by intro p hp;simp at hp;rw[hp];rfl)
  (λ_=>Sto.Can.one C8 (by show (Sto.fileOf [aw1]).length+(Sto.mass aw2+9)≤800;rw[CB.one,Gr,KC];decide) (by rw[a0.out];decide) (by decide))).mono ?_
 rw[show Sto.opsOf [((AL 1,(0:Int),([]:List UInt8)),Value.slice none 0 0)]=aw2 from rfl,KV,show Sto.wcode [(1,[aw1])] aw2=0 from Sto.wcode_ok C8.chk GV.2.1];rintro e w4 ⟨rfl,f4,V4,own4,ver4,mb4,sv4,l4,hf4,hs4,hb4,hA4,hD4,hrm4⟩;have bm:=QA hf4;have aJ:=QA hD4;have O:Hid (Below w.heap.size w w4):=QA ((D.out.trans (G.out.mono D.out.size)).trans hb4);have aA:Hid (w4.rangeAt (w1.heap.size+1) 0 (AG (AL 2))∧own4 (w1.heap.size+1)=.other∧w1.heap.size+1<w4.heap.size):=by
  obtain⟨k1,k2,k3⟩:=aE.out;have bx:=G.out.size;exact QA ⟨AY k1 ((hs4.block _ (by omega) k2.1 k2.2).trans (G.out.block _ k3)),(hs4.tags _ (by omega)).trans k2.1,by have:=hs4.size;omega⟩
 clear hf4 hs4 hb4 hA4 hD4 hrm4;go_wp2_with fail;refine (FI w.heap.size (w.heap.size+2) f4 V4 own4 43 ver4 [(1,[aw1,aw2])] 800 w4 bm.out ((HE.out.below (O.out.mono hbase)).mono hbase) O.out.size aJ.out.x (by decide)).mono ?_;rw[aJ.out.clean];rintro e w5 ⟨r5,V5,own5,sv5,mb5,l5,rfl,hr5,hf5,hs5,hb5,hA5⟩;have aN:A9 w5 (SF r5 own5) mb5 l5:=⟨hA5.ents.map,hA5.ents.key,hA5.ents.val⟩
 have ah:l5.map (·.1)=[(AL 2,1,[121])]:=hA5.is.trans Ks;have a1:=QA aN;have ae:=QA ah;have H:=QA hA5.root;have bs:=QA hA5.srt;have ab:Hid (Below w.heap.size w w5):=QA (O.out.trans hb5);have R:Hid (w5.rangeAt (w1.heap.size+1) 0 (AG (AL 2))∧w1.heap.size+1<w5.heap.size):=by
  obtain⟨k1,k2,k3⟩:=aA.out;exact QA ⟨AY k1 (hs5.block _ k3 k2 (by omega)),by have:=hs5.size;omega⟩
 have bu:l5.length=1:=by have:=congrArg List.length ah;rwa [List.length_map]at this
 clear aN ah hf5 hs5 hb5 hA5;have y0:=rc0 H.out;have y1:=rc1 H.out;have y2:=rc2 H.out;have y3:=rc3 H.out;have y4:=rc4 H.out;go_wp2_with fail;refine (Fc mb5 l5 w5 _ a1.out (by rw[ae.out];exact List.pairwise_singleton _ _) (by omega)).mono ?_;rintro e w6 ⟨kv,ks,rfl,hok,hks,hb6⟩;have Y:ks.map (·.1)=[AL 2]:=by
  rw[hks,show (λp:Sto.Op×Value=>p.1.1)=(λo:Sto.Op=>o.1)∘(λp:Sto.Op×Value=>p.1) from rfl,← List.map_map,ae.out];rfl
 obtain⟨kk,a8,Z⟩:=KI Y;subst a8;obtain⟨S,kc,bl⟩:=Bp hok (by simp);subst bl;have aU:w6.rangeAt S 0 (AG (AL 2)):=by
  have:=II hok (i:=0) rfl
  rwa [Z]at this
 have bn:=QA aU;have a7:Hid (S<w6.heap.size):=QA (hok.lt S rfl).2;have aO:Hid (w5.heap.size≤w6.heap.size):=QA hb6.size;have aa:Hid (Below w.heap.size w w6):=QA (ab.out.trans (hb6.mono ab.out.size));have ac:Hid (w6.heap[r5]?=some (.cells (AF ver4 sv5 mb5 (w.heap.size+2) false) 51 (0,0))):=QA ((hb6.block _ (AD H.out)).trans H.out);have a5:=QA (a1.out.below hb6);have X:Hid (w6.rangeAt (w1.heap.size+1) 0 (AG (AL 2))):=QA (AY R.out.1 (hb6.block _ R.out.2));clear aU hok hks Y Z hb6 y0 y1 y2 y3 y4;go_wp2_with fail;refine AK (λw'=>w'.heap[r5]?=some (.cells (AF ver4 sv5 mb5 (w.heap.size+2) false) 51 (0,0))∧w'.rangeAt (w1.heap.size+1) 0 (AG (AL 2))) 13 (by kernel_rfl) ?_;have A:w6.drew.heap[r5]?=some (.cells (AF ver4 sv5 mb5 (w.heap.size+2) false) 51 (0,0))∧w6.drew.rangeAt (w1.heap.size+1) 0 (AG (AL 2)):=⟨ac.out,(World.rangeAt_drew _ _ _ _).2 X.out⟩
 change Ad _ _ _ _ _ _ _ _ _ w6.drew;refine TK (i:=0) (v:=.pointer (some ⟨r5,0,none⟩)) rfl (Or.inl ⟨by rfl,λw hSw=>by go_simp⟩) A ?_;simp only[Act.put,QD,QK,QI,QJ,QC,QH,QG];refine TK (i:=1) (v:=.pointer (some ⟨r5,0,none⟩)) rfl (Or.inl ⟨by rfl,λw hSw=>by go_simp⟩) A ?_;simp only[Act.put,QD,QK,QI,QJ,QC,QH,QG];refine TK (i:=2) (v:=.pointer (some ⟨r5,2,none⟩)) rfl (Or.inl ⟨by rfl,λw hSw=>by go_simp⟩) A ?_;simp only[Act.put,QD,QK,QI,QJ,QC,QH,QG];refine TK (i:=3) (v:=.map (some mb5)) rfl (Or.inl ⟨by rfl,λw hSw=>by have bk:=rc2 hSw.1;go_simp⟩) A ?_;simp only[Act.put,QD,QK,QI,QJ,QC,QH,QG];refine TK (i:=4) (v:=Ac (AL 2)) rfl (BC rfl _ rfl (w1.heap.size+1) 0 rfl (AL 2) rfl (λw hSw=>hSw.2)) A ?_;simp only[Act.put,QD,QK,QI,QJ,QC,QH,QG];refine TO (i:=5) ?_;refine AB (by decide) (λK5 HK5=>?_);simp only[List.drop_succ_cons,List.drop_zero,List.take_succ_cons,List.take_zero];go_wp2_with fail;have an:Sto.getE (l5.map (·.1)) (AL 2)=(1,[121],true):=by rw[ae.out];kernel_rfl
 have aM:=QA an;clear an;refine (GU mb5 l5 (AL 2) w6.drew _ (a5.out.below (Below.drew (Below.refl _ _))) rfl (by rw[aM.out];decide)).mono ?_;rw[aM.out];rintro e w7 ⟨gv,rfl,hgv,hb7⟩;obtain⟨ga,gn,gc,aS,bG⟩:=Ag.form3 hgv;subst aS;have a6:=QA hgv;have E:Below w6.heap.size w6 w7:=(Below.drew (Below.refl _ w6)).trans hb7;have aX:Hid (Below w.heap.size w w7):=QA (aa.out.trans (E.mono aa.out.size));have aV:Hid (w7.rangeAt S 0 (AG (AL 2))):=QA (AY bn.out (E.block _ a7.out));have W:Hid (w7.rangeAt (w1.heap.size+1) 0 (AG (AL 2))):=QA (AY X.out (E.block _ (by have:=R.out.2;have:=aO.out;omega)));have A:=(⟨(E.block _ (AD ac.out)).trans ac.out,W.out⟩:w7.heap[r5]?=some (.cells (AF ver4 sv5 mb5 (w.heap.size+2) false) 51 (0,0))∧w7.rangeAt (w1.heap.size+1) 0 (AG (AL 2)))
 clear hgv hb7 E;go_wp2;refine HK5.out _ _ ⟨λ_=>A,?_⟩;clear HK5;refine TK (i:=6) (v:=.tuple #[.int .i64 1,.slice ga gn gc,.bool true]) rfl (Or.inl ⟨by rfl,λw hSw=>by go_simp⟩) A ?_;simp only[Act.put,QD,QK,QI,QJ,QC,QH,QG];refine TK (i:=7) (v:=.int .i64 1) rfl (Or.inl ⟨by rfl,λw hSw=>by go_simp⟩) A ?_;simp only[Act.put,QD,QK,QI,QJ,QC,QH,QG];refine TK (i:=8) (v:=.slice ga gn gc) rfl (Or.inl ⟨by rfl,λw hSw=>by go_simp⟩) A ?_;simp only[Act.put,QD,QK,QI,QJ,QC,QH,QG];refine TK (i:=9) (v:=.bool true) rfl (Or.inl ⟨by rfl,λw hSw=>by go_simp⟩) A ?_;simp only[Act.put,QD,QK,QI,QJ,QC,QH,QG];refine TK (i:=10) (v:=.int .i64 1) rfl (Or.inl ⟨by rfl,λw hSw=>by go_simp⟩) A ?_;simp only[Act.put,QD,QK,QI,QJ,QC,QH,QG];refine TK (i:=11) (v:=.slice ga gn gc) rfl (Or.inl ⟨by rfl,λw hSw=>by go_simp⟩) A ?_;simp only[Act.put,QD,QK,QI,QJ,QC,QH,QG];refine TK (i:=12) (v:=.bool true) rfl (Or.inl ⟨by rfl,λw hSw=>by go_simp⟩) A ?_;simp only[Act.put,QD,QK,QI,QJ,QC,QH,QG];refine AN (by kernel_rfl) ?_ _;go_wp2_with fail;refine AK (λw'=>w'.rangeAt S 0 (AG (AL 2))∧w'.rangeAt (w1.heap.size+1) 0 (AG (AL 2))∧Aa w' (.slice ga gn gc) [121]) 19 (by kernel_rfl) ?_;have A:w7.drew.rangeAt S 0 (AG (AL 2))∧w7.drew.rangeAt (w1.heap.size+1) 0 (AG (AL 2))∧Aa w7.drew (.slice ga gn gc) [121]:=⟨(World.rangeAt_drew _ _ _ _).2 aV.out,(World.rangeAt_drew _ _ _ _).2 W.out,a6.out.byts.below (Below.drew (Below.refl _ _))⟩
 change Ad _ _ _ _ _ _ _ _ _ w7.drew;have bI:∀w',(binOp .eql 40 (Ac (AL 2)) (Ac (AL 2))).run Tryz.prog w'=.ok (.bool true) w':=λw'=>by rw[Ke _ _ rfl rfl,decide_eq_true rfl]
 refine TK (i:=0) (v:=.slice (some ⟨S,0,none⟩) 1 kc) rfl (Or.inl ⟨by rfl,λw hSw=>by go_simp⟩) A ?_;simp only[Act.put,QD,QK,QI,QJ,QC,QH,QG];refine TK (i:=1) (v:=.int .i64 1) rfl (Or.inl ⟨by rfl,λw hSw=>by go_simp⟩) A ?_;simp only[Act.put,QD,QK,QI,QJ,QC,QH,QG];refine TK (i:=2) (v:=.bool true) rfl (Or.inl ⟨by rfl,λw hSw=>by go_simp⟩) A ?_;simp only[Act.put,QD,QK,QI,QJ,QC,QH,QG];refine TK (i:=3) (v:=.bool true) rfl (Or.inl ⟨by rfl,λw hSw=>by go_simp⟩) A ?_;simp only[Act.put,QD,QK,QI,QJ,QC,QH,QG];refine TK (i:=4) (v:=.slice (some ⟨S,0,none⟩) 1 kc) rfl (Or.inl ⟨by rfl,λw hSw=>by go_simp⟩) A ?_;simp only[Act.put,QD,QK,QI,QJ,QC,QH,QG];refine TK (i:=5) (v:=.pointer (some ⟨S,0,none⟩)) rfl (Or.inl ⟨by rfl,λw hSw=>by go_simp⟩) A ?_;simp only[Act.put,QD,QK,QI,QJ,QC,QH,QG];refine TK (i:=6) (v:=Ac (AL 2)) rfl (BC rfl _ rfl S 0 rfl (AL 2) rfl (λw hSw=>hSw.1)) A ?_;simp only[Act.put,QD,QK,QI,QJ,QC,QH,QG];refine TK (i:=7) (v:=Ac (AL 2)) rfl (BC rfl _ rfl (w1.heap.size+1) 0 rfl (AL 2) rfl (λw hSw=>hSw.2.1)) A ?_;simp only[Act.put,QD,QK,QI,QJ,QC,QH,QG];have bN:=I7 .eql;refine TK (i:=8) (v:=.bool true) rfl (Or.inl ⟨by rfl,λw hSw=>by go_simp⟩) A ?_;simp only[Act.put,QD,QK,QI,QJ,QC,QH,QG];refine TK (i:=9) (v:=.bool true) rfl (Or.inl ⟨by rfl,λw hSw=>by go_simp⟩) A ?_;simp only[Act.put,QD,QK,QI,QJ,QC,QH,QG];refine TK (i:=10) (v:=.bool true) rfl (Or.inl ⟨by rfl,λw hSw=>by go_simp⟩) A ?_;simp only[Act.put,QD,QK,QI,QJ,QC,QH,QG];refine TK (i:=11) (v:=.bool true) rfl (Or.inl ⟨by rfl,λw hSw=>by go_simp⟩) A ?_;simp only[Act.put,QD,QK,QI,QJ,QC,QH,QG];refine TK (i:=12) (v:=.bool true) rfl (Or.inl ⟨by rfl,λw hSw=>by go_simp⟩) A ?_;simp only[Act.put,QD,QK,QI,QJ,QC,QH,QG];refine TK (i:=13) (v:=.bool true) rfl (Or.inl ⟨by rfl,λw hSw=>by go_simp⟩) A ?_;simp only[Act.put,QD,QK,QI,QJ,QC,QH,QG];refine TK (i:=14) (v:=.slice ga gn gc) rfl (Or.inl ⟨by rfl,λw hSw=>by go_simp⟩) A ?_;simp only[Act.put,QD,QK,QI,QJ,QC,QH,QG];refine TK (i:=15) (v:=.string ⟨#[121]⟩) rfl (Or.inl ⟨by rfl,λw hSw=>by have bk:=(Fh hSw.2.2);go_simp⟩) A ?_;simp only[Act.put,QD,QK,QI,QJ,QC,QH,QG];refine TK (i:=16) (v:=.bool true) rfl (Or.inl ⟨by rfl,λw hSw=>by go_simp⟩) A ?_;simp only[Act.put,QD,QK,QI,QJ,QC,QH,QG];refine TK (i:=17) (v:=.bool true) rfl (Or.inl ⟨by rfl,λw hSw=>by go_simp⟩) A ?_;simp only[Act.put,QD,QK,QI,QJ,QC,QH,QG];refine TK (i:=18) (v:=.bool true) rfl (Or.inl ⟨by rfl,λw hSw=>by go_simp⟩) A ?_;simp only[Act.put,QD,QK,QI,QJ,QC,QH,QG];refine AN (by kernel_rfl) ?_ _;go_wp2_with fail;refine bodyPost_ret (v:=.bool true) (by simp[results,Tryz.results8,go_sem]) rfl ?_;exact⟨rfl,Below.drew aX.out⟩
namespace Sto
def fop (sz i:Nat):Op:=(AL (UInt8.ofNat i),1,List.replicate sz 0)
def fents (sz n:Nat):Ents:=(List.range n).map (fop sz)
theorem KS {a b:Nat} (h:a<b) (hb:b<256):AL (UInt8.ofNat a)<AL (UInt8.ofNat b):=by
 unfold AL;refine List.Lex.rel ?_;rw[UInt8.lt_iff_toNat_lt,UInt8.toNat_ofNat_of_lt' (by show a<256;omega),UInt8.toNat_ofNat_of_lt' (by show b<256;omega)];exact h
theorem KM {o:Op} (h1:o.2.1=1∨o.2.1=2) (h2:o.2.2.length≤8000):chk [o]=0:=by
 unfold chk;have A:mass [o]=35+o.2.2.length:=by simp[mass]
 rw[if_neg (by simp),if_neg,if_neg (by rw[A];omega)];simp only[List.any_cons,List.any_nil,Bool.or_false,badK];rcases h1 with h|h<;>simp[h]
theorem good_one {o:Op} (h1:o.2.1=1∨o.2.1=2) (h2:o.2.2.length≤8000) (hk:o.1.length=32):GoodB [o]:=⟨KM h1 h2,by simp,by intro x hx;simp at hx;rw[hx];exact hk⟩
theorem mass_one (o:Op):mass [o]=35+o.2.2.length:=by simp[mass]
theorem live_app (a b:Ents):live (a++b)=live a+live b:=by simp[live]
theorem fents_live (sz n:Nat):live (fents sz n)=n*(44+sz):=by
 induction n with
 | zero=>simp[live,fents]
 | succ n ih =>
  unfold fents at ih ⊢;rw[List.range_succ,List.map_append,live_app,ih,Nat.succ_mul];simp[live,fop]
theorem GO {E:Ents} {o:Op} (h:∀e∈E,e.1<o.1) (h1:o.2.1≠0):chgs E [o]=E++[o]:=by
 show chg E o=_;unfold chg;rw[if_neg h1,Jl (λy hy e=>by have:=h y hy;rw[e]at this;exact List.lt_irrefl _ this),G4 h]
theorem HQ {sz n b:Nat} (hn:n≤b) (hb:b<256):∀e∈fents sz n,e.1<AL (UInt8.ofNat b):=λe he=>by
 obtain⟨i,o,rfl⟩:=List.mem_map.1 he;exact KS (by have:=List.mem_range.1 o;omega) hb
theorem fents_step {sz n:Nat} (hn:n<256):chgs (fents sz n) [fop sz n]=fents sz (n+1):=by
 rw[GO (o:=fop sz n) (HQ (QM _) hn) (by show (1:Int)≠0;decide)];unfold fents;rw[List.range_succ,List.map_append];rfl
theorem fents_new {sz n b:Nat} (hn:n≤b) (hb:b<256) (m:Nat) (kd:Int) (hk:kd≠0):chgs (fents sz n) [(AL (UInt8.ofNat b),kd,List.replicate m 0)]=fents sz n++[(AL (UInt8.ofNat b),kd,List.replicate m 0)] :=
 GO (HQ hn hb) hk
def fullOps (sz:Nat):List Op:=[(AL 0,0,[]),(AL 201,0,[]),(AL 202,2,List.replicate sz 0)]
theorem full_last {sz n:Nat} (h0:0<n) (hn:n≤100) (E:Ents) (hE:E=fents sz n∨∃m,E=fents sz n++[(AL 201,1,List.replicate m 0)]):live (chgs E (fullOps sz))≤n*(44+sz):=by
 have G:chgs E (fullOps sz)=chg (chg (chg E (AL 0,0,[])) (AL 201,0,[])) (AL 202,2,List.replicate sz 0):=rfl;have D:∀X:Ents,chg X (AL 0,0,[])=A5 X (AL 0):=λX=>rfl
 have C:∀X:Ents,chg X (AL 201,0,[])=A5 X (AL 201):=λX=>rfl
 have o:=Dv (A5 (A5 E (AL 0)) (AL 201)) (AL 202,2,List.replicate sz 0);rw[G,D,C];simp only[List.length_replicate]at o;obtain⟨m,rfl⟩:∃m,n=m+1:=⟨n-1,by omega⟩
 have F:live (A5 (fents sz (m+1)) (AL 0))+(44+sz)≤live (fents sz (m+1)):=by
  have A:fents sz (m+1)=fop sz 0::(List.range m).map (λi=>fop sz (i+1)):=by
   unfold fents;rw[List.range_succ_eq_map,List.map_cons,List.map_map];rfl
  have H:A5 (fents sz (m+1)) (AL 0)=A5 ((List.range m).map (λi=>fop sz (i+1))) (AL 0):=by
   rw[A];show List.filter _ (_::_)=_;rw[List.filter_cons,if_neg (by simp[fop])];rfl
  rw[H,A];have:=Cf (AL 0) ((List.range m).map (λi=>fop sz (i+1)));have I:live (fop sz 0::(List.range m).map (λi=>fop sz (i+1)))=(44+sz)+live ((List.range m).map (λi=>fop sz (i+1))):=by simp[live,fop]
  omega
 rw[fents_live]at F;rcases hE with rfl|⟨q,rfl⟩
 ·have:=Cf (AL 201) (A5 (fents sz (m+1)) (AL 0));omega
 ·have B:A5 (A5 (fents sz (m+1)++[(AL 201,1,List.replicate q 0)]) (AL 0)) (AL 201)=A5 (A5 (fents sz (m+1)) (AL 0)) (AL 201):=by
   unfold A5;rw[List.filter_append,List.filter_append];have:List.filter (λe:Op=>!(e.1==AL 201)) (List.filter (λe:Op=>!(e.1==AL 0)) [(AL 201,(1:Int),List.replicate q (0:UInt8))])=[]:=by
    rw[List.filter_filter,List.filter_cons,if_neg (by simp)];rfl
   rw[this,List.append_nil]
  rw[B]at o ⊢;have:=Cf (AL 201) (A5 (fents sz (m+1)) (AL 0));omega
theorem full_good {sz:Nat} (h:sz≤6000):GoodB (fullOps sz):=by
 have A:mass (fullOps sz)=105+sz:=by simp[mass,fullOps];omega
 refine⟨?_,by show 0<3;decide,by intro o ho;simp[fullOps]at ho;rcases ho with rfl|rfl|rfl<;>rfl⟩;unfold chk;rw[if_neg (by simp[fullOps]),if_neg,if_neg (by rw[A];omega)];simp[fullOps,badK]
structure Fl (f:Fs.St) (k:Nat) (ver:Int) (S:List Seg) (m:Nat):Prop where
 disk:Disk f k ver S 12297
 tight:D6 S
 bytes:bytesOf S≤m
 room:f.room=1048576
theorem Fl.len {f:Fs.St} {k:Nat} {ver:Int} {S:List Seg} {m:Nat} (h:Fl f k ver S m) (hm:m≤90000):S.length≤22:=by
 have:=h.tight.bound;have:=h.bytes;omega
theorem Fl.can {f:Fs.St} {k:Nat} {ver:Int} {S:List Seg} {m:Nat} (h:Fl f k ver S m) (hm:m≤90000) (hk:k≤100000) {ops:List Op} (ho:GoodB ops):Can f k S 12297 ops:=by
 have A:=h.len hm;refine Can.of h.disk ho (by omega) ?_ hk;rw[h.room];have o:(S.length+3)*12297≤25*12297:=Nat.mul_le_mul_right _ (by omega);exact Int.ofNat_le.2 (QQ (Nat.add_le_add_right o 800) (Nat.le_of_ble_eq_true rfl))
theorem Fl.next {f f':Fs.St} {k k':Nat} {ver ver':Int} {S:List Seg} {m:Nat} (h:Fl f k ver S m) {ops:List Op} (ho:GoodB ops) (hd:Disk f' k' ver' (put S ops) 12297) (hr:f'.room=f.room):Fl f' k' ver' (put S ops) (m+(mass ops+9)) :=
 ⟨hd,h.tight.put h.disk.x.ne ops,by rw[GQ h.disk.x.ne ho];have:=h.bytes;omega,hr.trans h.room⟩
theorem Fl.same {f f':Fs.St} {k k':Nat} {ver ver':Int} {S:List Seg} {m:Nat} (h:Fl f k ver S m) (hd:Disk f' k' ver' S 12297) (hr:f'.room=f.room):Fl f' k' ver' S m :=
 ⟨hd,h.tight,h.bytes,hr.trans h.room⟩
end Sto
end Go.Proofs.YtjldahcckmmenaaGreatDoor
