/-
  StoreFull, walked. A law's store, in calm weather: what stands between its calls.
-/
import Derived.Test.YtjldahcckmmenaaGreatDoorZa19
import Derived.Laws.OwnMore
import Derived.Test.YtjldahcckmmenaaGreatDoorZa20
import Derived.Test.YtjldahcckmmenaaGreatDoorZa14
open Go.Lib renaming hid → QA
open Nat renaming le_refl → QM, le_trans → QQ
namespace Go.Proofs.YtjldahcckmmenaaGreatDoor
set_option maxRecDepth 100000
set_option maxHeartbeats 4000000
set_option linter.unusedSimpArgs false
set_option linter.unusedVariables false
open Go Go.RowKit
open Go.Maps Go.WideMaps
theorem C5 {ops:Array Oper} {rest:List Oper} {op:Oper} {a:Act} {w:World} {Q:Exit→Act→World→Prop} (hg:op.guard=none) (x y:Operand) (t u:TypeId) (ho:op.op=.binOp .mul t x y u) (m n p:Int)
  (hx:a.eval x=.int .i64 m) (hy:a.eval y=.int .i64 n) (hw:IntKind.i64.wrap (m*n)=p) (h:wpList Tryz.prog ops Q rest (a.put op.dst (.int .i64 p)) w):wpList Tryz.prog ops Q (op::rest) a w :=
 wpList_plain hg λ_ hK=>by
  unfold Oper.wp execOp;simp[ho,hx,hy,eqGuard,binOp,Op.intArith,hw];exact hK _ _ h
structure Fst (base r:Nat) (w0 x:World) (f:Fs.St) (V:FsV) (own:Nat→Tag) (k:Nat) (ver:Int) (sv:Value) (mb:Nat) (l:Sto.ME) (S:List Sto.Seg) (m:Nat):Prop where
 fs:Ae base (base+2) f V own x
 at_:As x own (base+2) r ⟨ver,Sto.ids S,Sto.ents S,false⟩ mb sv l
 fl:Sto.Fl f k ver S m
 bel:Below base w0 x
 le:base≤x.heap.size
theorem Fst.below {base r:Nat} {w0 x y:World} {f:Fs.St} {V:FsV} {own:Nat→Tag} {k:Nat} {ver:Int} {sv:Value} {mb:Nat} {l:Sto.ME} {S:List Sto.Seg} {m:Nat} (h:Fst base r w0 x f V own k ver sv mb l S m) (hb:Below x.heap.size x y):Fst base r w0 y f V own k ver sv mb l S m :=
 ⟨h.fs.kept (AC hb),h.at_.below hb,h.fl,h.bel.trans (hb.mono h.le),QQ h.le hb.size⟩
theorem BP {base r:Nat} {w0 x:World} {f:Fs.St} {V:FsV} {own:Nat→Tag} {k:Nat} {ver:Int} {sv:Value} {mb:Nat} {l:Sto.ME} {S:List Sto.Seg} {m:Nat} (h:Fst base r w0 x f V own k ver sv mb l S m) (hr:base≤r) (hE:A0 base w0) (v:Value) (ops:Sto.ME)
  (ho:Au x (SF r own) v ops) (hol:ops.length≤1000000000) (hbl:∀p∈ops,p.1.2.2.length≤1000000000) (hk:∀p∈ops,p.1.1.length=32) (hG:Sto.GoodB (Sto.opsOf ops)) (hm:m≤90000) (hkk:k≤100000) :
  Calls Tryz.prog 13 #[.pointer (some ⟨r,0,none⟩),v] x λe w'=>e=.returned (.int .i64 (Sto.wcode S (Sto.opsOf ops))) ∧
   ∃f' V' own' ver' mb' sv' l',Fst base r w0 w' f' V' own' (k+14) ver' sv' mb' l' (Sto.wrote S (Sto.opsOf ops)) (if Sto.Goes S (Sto.opsOf ops) then m+(Sto.mass (Sto.opsOf ops)+9) else m):=by
 refine (Da base (base+2) r mb f V own ver sv S 12297 k l v ops x h.fs (hE.below h.bel) h.le hr h.at_ h.fl.disk ho hol hbl hk (λ_=>h.fl.can hm hkk hG)).mono ?_;rintro e w' ⟨rfl,f',V',own',ver',mb',sv',l',k1,k2,k3,k4,k5,k6⟩;refine⟨rfl,f',V',own',ver',mb',sv',l',k1,k4,?_,h.bel.trans k3,QQ h.le k3.size⟩;unfold Sto.wrote at k5 ⊢;split
 ·rename_i hg;rw[if_pos hg]at k5;exact h.fl.next hG k5 k6
 ·rename_i hg;rw[if_neg hg]at k5;exact h.fl.same k5 k6
theorem Fst.live {base r:Nat} {w0 x:World} {f:Fs.St} {V:FsV} {own:Nat→Tag} {k:Nat} {ver:Int} {sv:Value} {mb:Nat} {l:Sto.ME} {S:List Sto.Seg} {m:Nat} (h:Fst base r w0 x f V own k ver sv mb l S m) :
  Calls Tryz.prog 17 #[.map (some mb)] x λe w'=>e=.returned (.int .i64 (Sto.live (Sto.ents S):Nat))∧Below x.heap.size x w':=by
 have o:l.map (·.1)=Sto.ents S:=h.at_.is;have C:Sto.Srt (Sto.ents S):=h.at_.srt;have D:=Sto.DiskX.live h.fl.disk.x;have A:(l.map λp=>p.1.1).Nodup:=by
  have B:((Sto.ents S).map (·.1)).Nodup:=by
   rw[List.Nodup,List.pairwise_map];exact List.Pairwise.imp (R:=λa b:Sto.Op=>a.1<b.1) (λ{a b} h e=>by rw[e]at h;exact List.lt_irrefl _ h) C
  rw[← o,List.map_map]at B;exact B
 have:=Co mb l x (SF r own) ⟨h.at_.ents.map,h.at_.ents.key,h.at_.ents.val⟩ A (by rw[o];omega)
 rwa [o]at this
theorem Hq (m:Nat):madeCells #[.int .u8 0] m=(AM (List.replicate m 0)).toArray:=by
 apply Array.ext_getElem?;intro i;unfold madeCells AM;simp;by_cases h:i<m<;>simp[h,Nat.mod_one]
theorem Do (w:World) (m:Nat) (hm:m≤1000000):(Instr.makeSlice 41 (.int .i64 (m:Int)) (.int .i64 (m:Int))).run Tryz.prog w=.ok (.slice (some ⟨w.heap.size,0,none⟩) m m) (w.alloc (.cells (AM (List.replicate m 0)).toArray 5)):=by
 obtain⟨D,C,B,o,A⟩:=info_parts Ej;have:=run_makeSlice (P:=Tryz.prog) (w:=w) 41 5 D _ Tryz.underlying41 C B .i64 .i64 (m:Int) (m:Int) (by omega) (Int.le_refl _) (by rw[o];omega) (by rw[A];omega) (by omega);rw[this,o];simp only[Int.toNat_natCast,Nat.mul_one];rw[show (Value.int IntKind.u8 0).cells=#[.int .u8 0] from rfl,Hq]
theorem Fg (w:World) (l:List UInt8):Aa (w.alloc (.cells (AM l).toArray 5)) (.slice (some ⟨w.heap.size,0,none⟩) l.length l.length) l :=
 Bu l l.length (QM _) (by simp) λi x hi=>by
  rw[Nat.zero_add,cell_of_row _ _ _ _ _ _ (AJ w _)];simp[AM,hi]
theorem EN {w:World} {F:Nat→Prop} (c:UInt8) (kd:Int) (m:Nat) (hF:∀b,w.heap.size≤b→F b) :
  Au ((w.alloc (.cells (AM (List.replicate m 0)).toArray 5)).alloc (.cells (AP [((AL c,kd,List.replicate m 0),.slice (some ⟨w.heap.size,0,none⟩) m m)]).toArray 43)) F (.slice (some ⟨w.heap.size+1,0,none⟩) 1 1) [((AL c,kd,List.replicate m 0),.slice (some ⟨w.heap.size,0,none⟩) m m)]:=by
 have:=Au.lit (w:=w.alloc (.cells (AM (List.replicate m 0)).toArray 5)) (F:=F) [((AL c,kd,List.replicate m 0),.slice (some ⟨w.heap.size,0,none⟩) m m)] (by intro p hp;simp at hp;rw[hp];rfl) (by
  intro p hp;simp at hp;rw[hp];have h:=Fg w (List.replicate m 0);rw[List.length_replicate]at h;exact⟨h,λq n cc e _=>hF _ (by simp at e;rw[← e.1];exact QM _)⟩) (hF _ (by simp))
 rwa [show (w.alloc (.cells (AM (List.replicate m 0)).toArray 5)).heap.size=w.heap.size+1 by simp]at this
def Ap (sz g:Nat):Sto.ME:=[((AL 0,0,[]),.slice none 0 0),((AL 201,0,[]),.slice none 0 0),((AL 202,2,List.replicate sz 0),.slice (some ⟨g,0,none⟩) sz sz)]
theorem Cy (sz g:Nat):Sto.opsOf (Ap sz g)=Sto.fullOps sz:=rfl
theorem EO {w:World} {F:Nat→Prop} (m:Nat) (hF:∀b,w.heap.size≤b→F b) :
  Au ((w.alloc (.cells (AM (List.replicate m 0)).toArray 5)).alloc (.cells (AP (Ap m w.heap.size)).toArray 43)) F (.slice (some ⟨w.heap.size+1,0,none⟩) 3 3) (Ap m w.heap.size):=by
 have:=Au.lit (w:=w.alloc (.cells (AM (List.replicate m 0)).toArray 5)) (F:=F) (Ap m w.heap.size) (by intro p hp;simp[Ap]at hp;rcases hp with rfl|rfl|rfl<;>rfl) (by
  intro p hp;simp[Ap]at hp;rcases hp with rfl|rfl|rfl
  ·exact BB.nil _ _
  ·exact BB.nil _ _
  ·have h:=Fg w (List.replicate m 0);rw[List.length_replicate]at h;exact⟨h,λq n cc e _=>hF _ (by simp at e;rw[← e.1];exact QM _)⟩) (hF _ (by simp))
 rwa [show (w.alloc (.cells (AM (List.replicate m 0)).toArray 5)).heap.size=w.heap.size+1 by simp]at this
theorem Ja (extra:Int):∃ex:Nat,wrap64 ((IntKind.u64.wrap extra).tmod 3)=(ex:Int)∧ex≤2:=by
 have o:0≤IntKind.u64.wrap extra:=by rw[IntKind.wrap_u64];omega
 rw[Int.tmod_eq_emod_of_nonneg o]
 generalize IntKind.u64.wrap extra=x at o ⊢
 refine⟨(x % 3).toNat,?_,by omega⟩;unfold wrap64;omega
theorem KZ (size:Int):∃sz:Nat,wrap64 (wrap64 ((IntKind.u64.wrap size).tmod 5000)+1000)=(sz:Int)∧1000≤sz∧sz≤5999:=by
 have o:0≤IntKind.u64.wrap size:=by rw[IntKind.wrap_u64];omega
 rw[Int.tmod_eq_emod_of_nonneg o]
 generalize IntKind.u64.wrap size=x at o ⊢
 refine⟨(x % 5000+1000).toNat,?_,by omega,by omega⟩;unfold wrap64;omega
theorem FA (base:Nat) (size extra:Int) (w:World) (hE:Cq base w) (hbase:base≤w.heap.size):Calls Tryz.prog 4 #[.int .i64 size,.int .i64 extra] w λe w'=>e=.returned (.bool true)∧Below w.heap.size w w':=by
 have HE:=QA hE;clear hE;go_enter Tryz.func4,Tryz.ntmps4;go_wp2_with fail;refine (Bz base w HE.out hbase).mono ?_;rintro e w1 ⟨rfl,hb1⟩;have J:=QA hb1;have aG:=QA (HE.out.below (hb1.mono hbase));clear hb1;go_wp2_with fail;refine (Cz base 1048576 w1 aG.out.sg (QQ hbase J.out.size) (by decide) (by decide)).mono ?_;rintro e w2 ⟨r,V2,own2,sv2,mb2,rfl,hr2,hf2,hb2,hA2⟩;obtain⟨d1,d2,d3,d4,d5,d6⟩:=Sto.Disk.begin (r:=1048576) (by decide) (by decide);obtain⟨f2,hf⟩:∃f,(Mf.save (Sg.create (Fs.new 1048576) 1).1 1 [1]).1=f:=⟨_,rfl⟩
 rw[hf]at hf2 d5 d6;have aB:=QA hf2;have ai:=QA hb2;have am:=QA hA2;have ah:Hid (Sto.Fl f2 15 1 [(1,[])] 0):=QA ⟨d6.mono (QM _) (by omega),λs hs=>(by cases hs),QM _,d5⟩;clear d1 d2 d3 d4 d5 d6 hf2 hb2 hA2 hf;have aM:Hid (Fst w1.heap.size r w1 w2 f2 V2 own2 15 1 sv2 mb2 [] [(1,[])] 0):=QA ⟨aB.out,am.out,ah.out,ai.out,ai.out.size⟩;have Z:Hid (A0 w1.heap.size w1):=QA (aG.out.sg.mono (QQ hbase J.out.size));obtain⟨sz,aH,bh,bo⟩:=KZ size;have aY:=QA aH;clear aH aB am ah ai;go_wp2_with fail;rw[aY.out]
 go_loopg [7] 60 (λdn s7 wr=>∃(n:Nat) (f:Fs.St) (V:FsV) (af:Nat→Tag) (k:Nat) (ver:Int) (sv:Value) (mb:Nat) (l:Sto.ME) (S:List Sto.Seg),s7=.int .i64 (n:Nat)∧n*(44+sz)≤50000∧n+dn=60∧k=15+14*n∧Sto.ents S=Sto.fents sz n∧Fst w1.heap.size r w1 wr f V af k ver sv mb l S (n*(44+sz)))
 case atStart=>exact⟨0,f2,V2,own2,15,1,sv2,mb2,[],[(1,[])],rfl,by omega,rfl,rfl,rfl,by rw[Nat.zero_mul];exact aM.out⟩
 case round =>
  obtain⟨n,f,V,af,k,ver,sv,mb,l,S,rfl,aI,au,ao,aE,ay⟩:=hrel;have aF:=QA au;have Q:=QA ao;have R:=QA aE;have HX:=QA ay;have O:=QA aI;have a1:n≤48:=by
   have:=Nat.mul_le_mul_left n (show 1044≤44+sz by omega);omega
  have ba:(0:Int)≤(n:Int):=Int.natCast_nonneg _;have a3:(n:Int)≤48:=by omega
  have ax:(n+1)*(44+sz)=n*(44+sz)+(44+sz):=Nat.succ_mul _ _;obtain⟨P,hP⟩:∃P,(n+1)*(44+sz)=P:=⟨_,rfl⟩
  have av:((n:Int)+1)*(44+(sz:Int))=(P:Int):=by rw[← hP];push_cast;rfl
  have bb:(P:Int)≤60000:=by omega
  have bi:(0:Int)≤(P:Int):=Int.natCast_nonneg _;have bk:wrap64 ((n:Int)+1)=(n:Int)+1:=by unfold wrap64;omega
  have bc:wrap64 (44+(sz:Int))=44+(sz:Int):=by unfold wrap64;omega
  have ar:Hid (IntKind.i64.wrap (((n:Int)+1)*(44+(sz:Int)))=(P:Int)):=QA (by rw[av,IntKind.wrap_i64];omega);clear av;clear au ao aE ay aI;have HP:=QA hP;have aA:=QA ax;clear hP ax;by_cases hgo:P≤50000
  ·have aq:(P:Int)≤50000:=by omega
   have aP:=λ(w:World)=>Do w sz (by omega)
   have aL:Hid ((n:Int)=((UInt8.ofNat n).toNat:Int)):=QA (by rw[UInt8.toNat_ofNat_of_lt' (by show n<256;omega)]);go_wp2_with (first|(guard_target=wpList _ _ _ ({ dst:=some 27,op:=_,type:=_,pos:=_,after:=_,guard:=none }::_) _ _;refine C5 rfl _ _ _ _ rfl _ _ _ rfl rfl ar.out ?_)|(guard_target=wpList _ _ _ ({ dst:=_,op:=.build 40 #[(0,.tmp 33)],type:=_,pos:=_,after:=_,guard:=_ }::_) _ _;refine A4 rfl _ rfl (UInt8.ofNat n) (congrArg (Value.int .u8) aL.out) ?_)|(guard_target=wpList _ _ _ ({ dst:=_,op:=.build 43 #[(0,.tmp 34),(1,_),(2,_)],type:=_,pos:=_,after:=_,guard:=_ }::_) _ _;refine B5 rfl _ _ _ rfl (AL (UInt8.ofNat n)) rfl _ (List.replicate sz 0) _ rfl rfl rfl rfl ?_)|(guard_target=wpList _ _ _ ({ dst:=_,op:=.buildSlice 22 1 _,type:=_,pos:=_,after:=_,guard:=_ }::_) _ _;refine B0 rfl _ _ rfl [((AL (UInt8.ofNat n),1,List.replicate sz 0),.slice (some ⟨wr.heap.size,0,none⟩) sz sz)] (by simp[DK]) rfl (by decide) (by decide) rfl ?_)|fail);have D:Below wr.heap.size wr ((wr.alloc (.cells (AM (List.replicate sz 0)).toArray 5)).alloc (.cells (AP [((AL (UInt8.ofNat n),1,List.replicate sz 0),.slice (some ⟨wr.heap.size,0,none⟩) sz sz)]).toArray 43)):=((Below.refl _ _).alloc (QM _) _).alloc (by simp) _;have B:=EN (w:=wr) (F:=SF r af) (UInt8.ofNat n) 1 sz (λb hb=>⟨HX.out.fs.fresh b hb,by have:=AD HX.out.at_.root;omega⟩);have o:Sto.GoodB (Sto.opsOf [((AL (UInt8.ofNat n),(1:Int),List.replicate sz (0:UInt8)),Value.slice (some ⟨wr.heap.size,0,none⟩) sz sz)]):=Sto.good_one (.inl rfl) (by simp;omega) rfl;have C:=BP (HX.out.below D) hr2 Z.out _ _ B (by simp) (by intro p hp;simp at hp;rw[hp];simp;omega) (by intro p hp;simp at hp;rw[hp];rfl) o (by have:=O.out;omega) (by have:=Q.out;omega);have M:Sto.chgs (Sto.ents S) [Sto.fop sz n]=Sto.fents sz (n+1):=by rw[R.out];exact Sto.fents_step (by omega)
   have A:Sto.live (Sto.chgs (Sto.ents S) [Sto.fop sz n])≤50000:=by rw[M,Sto.fents_live,HP.out];exact hgo
   have H:Sto.chk [Sto.fop sz n]=0:=o.chk;have T:Sto.Goes S [Sto.fop sz n]:=⟨H,A,by show 0<1;omega⟩
   have E:Sto.wcode S [Sto.fop sz n]=0:=Sto.wcode_ok H A;have ap:Sto.mass [Sto.fop sz n]=35+sz:=by rw[Sto.mass_one];simp[Sto.fop]
   have az:Sto.wrote S [Sto.fop sz n]=Sto.put S [Sto.fop sz n]:=if_pos T;have aw:=HX.out.fl.disk.x.ne;have aD:Hid (Sto.ents (Sto.put S [Sto.fop sz n])=Sto.fents sz (n+1)):=QA (by rw[Sto.ents_put aw,M]);refine C.mono ?_;rw[show Sto.opsOf [((AL (UInt8.ofNat n),(1:Int),List.replicate sz (0:UInt8)),Value.slice (some ⟨wr.heap.size,0,none⟩) sz sz)]=[Sto.fop sz n] from rfl,E,az,if_pos T,ap];rintro e w9 ⟨rfl,f9,V9,own9,ver9,mb9,sv9,l9,hst9⟩;have aR:=QA hst9;clear hst9 D B o C M A H T E ap az aw;go_wp2_with fail;go_roundg (59-n)
   case measure=>have:=aF.out;omega
   case rel=>exact⟨n+1,f9,V9,own9,k+14,ver9,sv9,mb9,l9,_,by simp,by rw[HP.out];exact hgo,by have:=aF.out;omega,by have:=Q.out;omega,aD.out,by
    have h1:=aR.out
    rwa [show n*(44+sz)+(35+sz+9)=(n+1)*(44+sz) by rw[aA.out];omega]at h1⟩
  ·have aq:(50000:Int)<(P:Int):=by omega
   have y0:=rc0 HX.out.at_.root;have y1:=rc1 HX.out.at_.root;have y2:=rc2 HX.out.at_.root;have y3:=rc3 HX.out.at_.root;have y4:=rc4 HX.out.at_.root;go_wp2_with (first|(guard_target=wpList _ _ _ ({ dst:=some 27,op:=_,type:=_,pos:=_,after:=_,guard:=none }::_) _ _;refine C5 rfl _ _ _ _ rfl _ _ _ rfl rfl ar.out ?_)|fail);refine HX.out.live.mono ?_;rintro e w3 ⟨rfl,hb3⟩;rw[R.out,Sto.fents_live];obtain⟨L,hL⟩:∃L,n*(44+sz)=L:=⟨_,rfl⟩
   have ae:=QA (HX.out.below hb3);rw[hL]at ae ⊢;have an:P=L+(44+sz):=by rw[← HP.out,aA.out,hL]
   have aT:Hid (IntKind.i64.wrap ((n:Int)*(44+(sz:Int)))=(L:Int)):=QA (by
    have h1:((n:Int)*(44+(sz:Int)))=(L:Int):=by rw[← hL];push_cast;rfl
    have h2:L≤50000:=by rw[← hL];exact O.out
    rw[h1,IntKind.wrap_i64];omega)
   have aa:=QA an;have I:=QA hL;have aP:=λ(w:World)=>Do w sz (by omega)
   clear an hL hb3 y0 y1 y2 y3 y4;go_wp2_with (first|(guard_target=wpList _ _ _ ({ dst:=some 49,op:=_,type:=_,pos:=_,after:=_,guard:=none }::_) _ _;refine C5 rfl _ _ _ _ rfl _ _ _ rfl rfl aT.out ?_)|(guard_target=wpList _ _ _ ({ dst:=_,op:=.build 40 _,type:=_,pos:=_,after:=_,guard:=_ }::_) _ _;refine A4 rfl _ rfl 200 rfl ?_)|(guard_target=wpList _ _ _ ({ dst:=_,op:=.build 43 #[(0,.tmp 53),(1,_),(2,_)],type:=_,pos:=_,after:=_,guard:=_ }::_) _ _;refine B5 rfl _ _ _ rfl (AL 200) rfl _ (List.replicate sz 0) _ rfl rfl rfl rfl ?_)|(guard_target=wpList _ _ _ ({ dst:=_,op:=.buildSlice 22 1 _,type:=_,pos:=_,after:=_,guard:=_ }::_) _ _;refine B0 rfl _ _ rfl [((AL 200,1,List.replicate sz 0),.slice (some ⟨w3.heap.size,0,none⟩) sz sz)] (by simp[DK]) rfl (by decide) (by decide) rfl ?_)|fail);have D:Below w3.heap.size w3 ((w3.alloc (.cells (AM (List.replicate sz 0)).toArray 5)).alloc (.cells (AP [((AL 200,1,List.replicate sz 0),.slice (some ⟨w3.heap.size,0,none⟩) sz sz)]).toArray 43)):=((Below.refl _ _).alloc (QM _) _).alloc (by simp) _;have B:=EN (w:=w3) (F:=SF r af) 200 1 sz (λb hb=>⟨ae.out.fs.fresh b hb,by have:=AD ae.out.at_.root;omega⟩);have o:Sto.GoodB (Sto.opsOf [((AL 200,(1:Int),List.replicate sz (0:UInt8)),Value.slice (some ⟨w3.heap.size,0,none⟩) sz sz)]):=Sto.good_one (.inl rfl) (by simp;omega) rfl;have C:=BP (ae.out.below D) hr2 Z.out _ _ B (by simp) (by intro p hp;simp at hp;rw[hp];simp;omega) (by intro p hp;simp at hp;rw[hp];rfl) o (by have:=O.out;have:=I.out;omega) (by have:=Q.out;omega);have A:Sto.live (Sto.chgs (Sto.ents S) [(AL 200,1,List.replicate sz 0)])=P:=by
    rw[R.out,show (AL 200:List UInt8)=AL (UInt8.ofNat 200) from rfl,Sto.fents_new (by omega) (by omega) sz 1 (by decide),Sto.live_app,Sto.fents_live,I.out,aa.out];simp[Sto.live]
   have H:Sto.chk [((AL 200:List UInt8),(1:Int),List.replicate sz (0:UInt8))]=0:=o.chk;have U:¬Sto.Goes S [(AL 200,1,List.replicate sz 0)]:=λhg=>by have:=hg.2.1;rw[A]at this;omega
   have E:Sto.wcode S [(AL 200,1,List.replicate sz 0)]=8:=by unfold Sto.wcode;rw[if_neg (by rw[H];simp),if_pos (by rw[A];omega)]
   refine C.mono ?_;rw[show Sto.opsOf [((AL 200,(1:Int),List.replicate sz (0:UInt8)),Value.slice (some ⟨w3.heap.size,0,none⟩) sz sz)]=[(AL 200,1,List.replicate sz 0)] from rfl,E,show Sto.wrote S [(AL 200,1,List.replicate sz 0)]=S from if_neg U,if_neg U];rintro e w4 ⟨rfl,f4,V4,own4,ver4,mb4,sv4,l4,hst4⟩;have X:=QA hst4;clear hst4 D B o C A H U E;have y0:=rc0 X.out.at_.root;have y1:=rc1 X.out.at_.root;have y2:=rc2 X.out.at_.root;have y3:=rc3 X.out.at_.root;have y4:=rc4 X.out.at_.root;go_wp2_with fail;refine X.out.live.mono ?_;rintro e w5 ⟨rfl,hb5⟩;rw[R.out,Sto.fents_live,I.out];have W:=QA (X.out.below hb5);clear hb5 y0 y1 y2 y3 y4;have bj:(0:Int)≤(L:Int):=Int.natCast_nonneg _;have bl:(L:Int)≤50000:=by have:=O.out;have:=I.out;omega
   by_cases hlf:L+44≤50000
   ·have aC:(L:Int)≤49956:=by omega
    obtain⟨ex,bn,a8⟩:=Ja extra;obtain⟨m,hm⟩:∃m:Nat,50000-L-44+ex=m:=⟨_,rfl⟩
    have bg:50000-(L:Int)-44+(ex:Int)=(m:Int):=by omega
    have ag:=λ(w:World)=>Do w m (by omega)
    have HM:=QA hm;clear hm;go_wp2_with (first|(guard_target=wpList _ _ _ ({ dst:=some 75,op:=_,type:=_,pos:=_,after:=_,guard:=_ }::_) _ _;refine A4 rfl _ rfl 201 rfl ?_)|(guard_target=wpList _ _ _ ({ dst:=_,op:=.build 43 #[(0,.tmp 75),(1,_),(2,_)],type:=_,pos:=_,after:=_,guard:=_ }::_) _ _;refine B5 rfl _ _ _ rfl (AL 201) rfl _ (List.replicate m 0) _ rfl rfl rfl rfl ?_)|(guard_target=wpList _ _ _ ({ dst:=some 81,op:=_,type:=_,pos:=_,after:=_,guard:=_ }::_) _ _;refine B0 rfl _ _ rfl [((AL 201,1,List.replicate m 0),.slice (some ⟨w5.heap.size,0,none⟩) m m)] (by intro p hp;simp at hp;rw[hp];rfl) rfl (by decide) (by decide) rfl ?_)|fail);have D:Below w5.heap.size w5 ((w5.alloc (.cells (AM (List.replicate m 0)).toArray 5)).alloc (.cells (AP [((AL 201,1,List.replicate m 0),.slice (some ⟨w5.heap.size,0,none⟩) m m)]).toArray 43)):=((Below.refl _ _).alloc (QM _) _).alloc (by simp) _;have B:=EN (w:=w5) (F:=SF r own4) 201 1 m (λb hb=>⟨W.out.fs.fresh b hb,by have:=AD W.out.at_.root;omega⟩);have bd:m≤7000:=by have:=HM.out;have:=aa.out;omega
    have o:Sto.GoodB (Sto.opsOf [((AL 201,(1:Int),List.replicate m (0:UInt8)),Value.slice (some ⟨w5.heap.size,0,none⟩) m m)]):=Sto.good_one (.inl rfl) (by simp;omega) rfl;have C:=BP (W.out.below D) hr2 Z.out _ _ B (by simp) (by intro p hp;simp at hp;rw[hp];simp;omega) (by intro p hp;simp at hp;rw[hp];rfl) o (by omega) (by have:=Q.out;omega);have M:Sto.chgs (Sto.ents S) [(AL 201,1,List.replicate m 0)]=Sto.fents sz n++[(AL 201,1,List.replicate m 0)]:=by
     rw[R.out,show (AL 201:List UInt8)=AL (UInt8.ofNat 201) from rfl,Sto.fents_new (by omega) (by omega) m 1 (by decide)]
    have A:Sto.live (Sto.chgs (Sto.ents S) [(AL 201,1,List.replicate m 0)])=50000+ex:=by
     rw[M,Sto.live_app,Sto.fents_live,I.out];have h1:=HM.out;have h2:Sto.live [((AL 201:List UInt8),(1:Int),List.replicate m (0:UInt8))]=44+m:=by simp[Sto.live]
     omega
    have H:Sto.chk [((AL 201:List UInt8),(1:Int),List.replicate m (0:UInt8))]=0:=o.chk;refine C.mono ?_;rw[show Sto.opsOf [((AL 201,(1:Int),List.replicate m (0:UInt8)),Value.slice (some ⟨w5.heap.size,0,none⟩) m m)]=[(AL 201,1,List.replicate m 0)] from rfl];by_cases he:ex=0
    ·have T:Sto.Goes S [(AL 201,1,List.replicate m 0)]:=⟨H,by rw[A];omega,by show 0<1;omega⟩
     have al:Hid (Sto.ents (Sto.put S [(AL 201,1,List.replicate m 0)])=Sto.fents sz n++[(AL 201,1,List.replicate m 0)]):=QA (by rw[Sto.ents_put W.out.fl.disk.x.ne,M]);rw[Sto.wcode_ok H (by rw[A];omega),show Sto.wrote S [(AL 201,1,List.replicate m 0)]=Sto.put S [(AL 201,1,List.replicate m 0)] from if_pos T,if_pos T,Sto.mass_one];rintro e w6 ⟨rfl,f6,V6,own6,ver6,mb6,sv6,l6,hst6⟩;have Y:=QA hst6;have aX:(ex:Int)=0:=by omega
     have ad:Hid (L+(35+(List.replicate m (0:UInt8)).length+9)≤90000):=QA (by rw[List.length_replicate];omega);clear hst6 D B o C M A H T ag;go_wp2_with (first|(guard_target=wpList _ _ _ ({ dst:=some 97,op:=_,type:=_,pos:=_,after:=_,guard:=_ }::_) _ _;refine A4 rfl _ rfl 0 rfl ?_)|(guard_target=wpList _ _ _ ({ dst:=some 99,op:=_,type:=_,pos:=_,after:=_,guard:=_ }::_) _ _;refine A4 rfl _ rfl 201 rfl ?_)|(guard_target=wpList _ _ _ ({ dst:=some 101,op:=_,type:=_,pos:=_,after:=_,guard:=_ }::_) _ _;refine A4 rfl _ rfl 202 rfl ?_)|(guard_target=wpList _ _ _ ({ dst:=_,op:=.build 43 #[(0,.tmp 97)],type:=_,pos:=_,after:=_,guard:=_ }::_) _ _;refine CN rfl _ rfl (AL 0) rfl rfl ?_)|(guard_target=wpList _ _ _ ({ dst:=_,op:=.build 43 #[(0,.tmp 99)],type:=_,pos:=_,after:=_,guard:=_ }::_) _ _;refine CN rfl _ rfl (AL 201) rfl rfl ?_)|(guard_target=wpList _ _ _ ({ dst:=_,op:=.build 43 #[(0,.tmp 101),(1,_),(2,_)],type:=_,pos:=_,after:=_,guard:=_ }::_) _ _;refine B5 rfl _ _ _ rfl (AL 202) rfl _ (List.replicate sz 0) _ rfl rfl rfl rfl ?_)|(guard_target=wpList _ _ _ ({ dst:=some 105,op:=_,type:=_,pos:=_,after:=_,guard:=_ }::_) _ _;refine B0 rfl _ _ rfl (Ap sz (w6).heap.size) (by intro p hp;simp[Ap]at hp;rcases hp with rfl|rfl|rfl<;>rfl) rfl (by decide) (by decide) rfl ?_)|fail);have K:0<n:=by
      rcases Nat.eq_zero_or_pos n with h|h
      ·have h1:=I.out;have h2:=aa.out;rw[h,Nat.zero_mul]at h1;omega
      ·exact h
     have D:Below (w6).heap.size w6 (((w6).alloc (.cells (AM (List.replicate sz 0)).toArray 5)).alloc (.cells (AP (Ap sz (w6).heap.size)).toArray 43)):=((Below.refl _ _).alloc (QM _) _).alloc (by simp) _;have B:=EO (w:=w6) (F:=SF r _) sz (λb hb=>⟨(Y).out.fs.fresh b hb,by have:=AD (Y).out.at_.root;omega⟩);have o:=Sto.full_good (sz:=sz) (by omega);have C:=BP ((Y).out.below D) hr2 Z.out _ _ B (by simp[Ap]) (by intro p hp;simp[Ap]at hp;rcases hp with rfl|rfl|rfl<;>simp;omega) (by intro p hp;simp[Ap]at hp;rcases hp with rfl|rfl|rfl<;>rfl) o (by first|exact ad.out|omega) (by have:=Q.out;omega);have A:=Sto.full_last (sz:=sz) K (by omega) _ (.inr ⟨m,al.out⟩);have G:=QQ A (show n*(44+sz)≤50000 from O.out);have E:=Sto.wcode_ok o.chk G;refine C.mono ?_;rw[Cy,E];rintro e w8 ⟨rfl,f8,V8,own8,ver8,mb8,sv8,l8,hst8⟩;have N:=QA hst8;clear hst8 D B o C A G E K;go_wp2_with fail;refine (Bn w8 r _ mb8 ver8 sv8 false N.out.at_.root).mono ?_;rintro e w9 ⟨rfl,rfl⟩;go_wp2_with fail;refine bodyPost_ret (v:=.bool true) (by simp[results,Tryz.results4,go_sem]) rfl ?_;exact⟨rfl,J.out.trans (N.out.bel.mono J.out.size)⟩
    ·have U:¬Sto.Goes S [(AL 201,1,List.replicate m 0)]:=λhg=>by have:=hg.2.1;rw[A]at this;omega
     have E:Sto.wcode S [(AL 201,1,List.replicate m 0)]=8:=by unfold Sto.wcode;rw[if_neg (by rw[H];simp),if_pos (by rw[A];omega)]
     rw[E,show Sto.wrote S [(AL 201,1,List.replicate m 0)]=S from if_neg U,if_neg U];rintro e w6 ⟨rfl,f6,V6,own6,ver6,mb6,sv6,l6,hst6⟩;have Y:=QA hst6;have aX:((ex:Int)==0)=false:=by rw[beq_eq_false_iff_ne];omega
     have ad:Hid (L≤90000):=QA (by omega);clear hst6 D B o C M A H U E ag;go_wp2_with (first|(guard_target=wpList _ _ _ ({ dst:=some 97,op:=_,type:=_,pos:=_,after:=_,guard:=_ }::_) _ _;refine A4 rfl _ rfl 0 rfl ?_)|(guard_target=wpList _ _ _ ({ dst:=some 99,op:=_,type:=_,pos:=_,after:=_,guard:=_ }::_) _ _;refine A4 rfl _ rfl 201 rfl ?_)|(guard_target=wpList _ _ _ ({ dst:=some 101,op:=_,type:=_,pos:=_,after:=_,guard:=_ }::_) _ _;refine A4 rfl _ rfl 202 rfl ?_)|(guard_target=wpList _ _ _ ({ dst:=_,op:=.build 43 #[(0,.tmp 97)],type:=_,pos:=_,after:=_,guard:=_ }::_) _ _;refine CN rfl _ rfl (AL 0) rfl rfl ?_)|(guard_target=wpList _ _ _ ({ dst:=_,op:=.build 43 #[(0,.tmp 99)],type:=_,pos:=_,after:=_,guard:=_ }::_) _ _;refine CN rfl _ rfl (AL 201) rfl rfl ?_)|(guard_target=wpList _ _ _ ({ dst:=_,op:=.build 43 #[(0,.tmp 101),(1,_),(2,_)],type:=_,pos:=_,after:=_,guard:=_ }::_) _ _;refine B5 rfl _ _ _ rfl (AL 202) rfl _ (List.replicate sz 0) _ rfl rfl rfl rfl ?_)|(guard_target=wpList _ _ _ ({ dst:=some 105,op:=_,type:=_,pos:=_,after:=_,guard:=_ }::_) _ _;refine B0 rfl _ _ rfl (Ap sz (w6).heap.size) (by intro p hp;simp[Ap]at hp;rcases hp with rfl|rfl|rfl<;>rfl) rfl (by decide) (by decide) rfl ?_)|fail);have K:0<n:=by
      rcases Nat.eq_zero_or_pos n with h|h
      ·have h1:=I.out;have h2:=aa.out;rw[h,Nat.zero_mul]at h1;omega
      ·exact h
     have D:Below (w6).heap.size w6 (((w6).alloc (.cells (AM (List.replicate sz 0)).toArray 5)).alloc (.cells (AP (Ap sz (w6).heap.size)).toArray 43)):=((Below.refl _ _).alloc (QM _) _).alloc (by simp) _;have B:=EO (w:=w6) (F:=SF r _) sz (λb hb=>⟨(Y).out.fs.fresh b hb,by have:=AD (Y).out.at_.root;omega⟩);have o:=Sto.full_good (sz:=sz) (by omega);have C:=BP ((Y).out.below D) hr2 Z.out _ _ B (by simp[Ap]) (by intro p hp;simp[Ap]at hp;rcases hp with rfl|rfl|rfl<;>simp;omega) (by intro p hp;simp[Ap]at hp;rcases hp with rfl|rfl|rfl<;>rfl) o (by first|exact ad.out|omega) (by have:=Q.out;omega);have A:=Sto.full_last (sz:=sz) K (by omega) _ (.inl R.out);have G:=QQ A (show n*(44+sz)≤50000 from O.out);have E:=Sto.wcode_ok o.chk G;refine C.mono ?_;rw[Cy,E];rintro e w8 ⟨rfl,f8,V8,own8,ver8,mb8,sv8,l8,hst8⟩;have N:=QA hst8;clear hst8 D B o C A G E K;go_wp2_with fail;refine (Bn w8 r _ mb8 ver8 sv8 false N.out.at_.root).mono ?_;rintro e w9 ⟨rfl,rfl⟩;go_wp2_with fail;refine bodyPost_ret (v:=.bool true) (by simp[results,Tryz.results4,go_sem]) rfl ?_;exact⟨rfl,J.out.trans (N.out.bel.mono J.out.size)⟩
   ·have aC:(49956:Int)<(L:Int):=by omega
    go_wp2_with (first|(guard_target=wpList _ _ _ ({ dst:=some 97,op:=_,type:=_,pos:=_,after:=_,guard:=_ }::_) _ _;refine A4 rfl _ rfl 0 rfl ?_)|(guard_target=wpList _ _ _ ({ dst:=some 99,op:=_,type:=_,pos:=_,after:=_,guard:=_ }::_) _ _;refine A4 rfl _ rfl 201 rfl ?_)|(guard_target=wpList _ _ _ ({ dst:=some 101,op:=_,type:=_,pos:=_,after:=_,guard:=_ }::_) _ _;refine A4 rfl _ rfl 202 rfl ?_)|(guard_target=wpList _ _ _ ({ dst:=_,op:=.build 43 #[(0,.tmp 97)],type:=_,pos:=_,after:=_,guard:=_ }::_) _ _;refine CN rfl _ rfl (AL 0) rfl rfl ?_)|(guard_target=wpList _ _ _ ({ dst:=_,op:=.build 43 #[(0,.tmp 99)],type:=_,pos:=_,after:=_,guard:=_ }::_) _ _;refine CN rfl _ rfl (AL 201) rfl rfl ?_)|(guard_target=wpList _ _ _ ({ dst:=_,op:=.build 43 #[(0,.tmp 101),(1,_),(2,_)],type:=_,pos:=_,after:=_,guard:=_ }::_) _ _;refine B5 rfl _ _ _ rfl (AL 202) rfl _ (List.replicate sz 0) _ rfl rfl rfl rfl ?_)|(guard_target=wpList _ _ _ ({ dst:=some 105,op:=_,type:=_,pos:=_,after:=_,guard:=_ }::_) _ _;refine B0 rfl _ _ rfl (Ap sz (w5).heap.size) (by intro p hp;simp[Ap]at hp;rcases hp with rfl|rfl|rfl<;>rfl) rfl (by decide) (by decide) rfl ?_)|fail);have K:0<n:=by
     rcases Nat.eq_zero_or_pos n with h|h
     ·have h1:=I.out;have h2:=aa.out;rw[h,Nat.zero_mul]at h1;omega
     ·exact h
    have D:Below (w5).heap.size w5 (((w5).alloc (.cells (AM (List.replicate sz 0)).toArray 5)).alloc (.cells (AP (Ap sz (w5).heap.size)).toArray 43)):=((Below.refl _ _).alloc (QM _) _).alloc (by simp) _;have B:=EO (w:=w5) (F:=SF r _) sz (λb hb=>⟨(W).out.fs.fresh b hb,by have:=AD (W).out.at_.root;omega⟩);have o:=Sto.full_good (sz:=sz) (by omega);have C:=BP ((W).out.below D) hr2 Z.out _ _ B (by simp[Ap]) (by intro p hp;simp[Ap]at hp;rcases hp with rfl|rfl|rfl<;>simp;omega) (by intro p hp;simp[Ap]at hp;rcases hp with rfl|rfl|rfl<;>rfl) o (by first|exact ad.out|omega) (by have:=Q.out;omega);have A:=Sto.full_last (sz:=sz) K (by omega) _ (.inl R.out);have G:=QQ A (show n*(44+sz)≤50000 from O.out);have E:=Sto.wcode_ok o.chk G;refine C.mono ?_;rw[Cy,E];rintro e w8 ⟨rfl,f8,V8,own8,ver8,mb8,sv8,l8,hst8⟩;have N:=QA hst8;clear hst8 D B o C A G E K;go_wp2_with fail;refine (Bn w8 r _ mb8 ver8 sv8 false N.out.at_.root).mono ?_;rintro e w9 ⟨rfl,rfl⟩;go_wp2_with fail;refine bodyPost_ret (v:=.bool true) (by simp[results,Tryz.results4,go_sem]) rfl ?_;exact⟨rfl,J.out.trans (N.out.bel.mono J.out.size)⟩
open Go.Maps Go.WideMaps
namespace Sto
theorem GT:∀(ops:List Op) {E:Ents} {e:Op},e∈chgs E ops→e∈E∨e∈ops
 | [],E,e,h=>.inl h
 | o::r,E,e,h=>by
  have A:e∈chgs (chg E o) r:=h;rcases GT r A with h2|h2
  ·unfold chg at h2;split at h2
   ·exact .inl (GG.1 h2).1
   ·rcases F1.1 h2 with rfl|h2
    ·exact .inr List.mem_cons_self
    ·exact .inl (GG.1 h2).1
  ·exact .inr (List.mem_cons_of_mem _ h2)
theorem Kv {ops:List Op} (h:chk ops=0) {o:Op} (ho:o∈ops):0≤o.2.1∧o.2.1≤9∧o.2.2.length≤8192:=by
 obtain⟨B,D⟩:=chk_len h;have C:35+o.2.2.length≤mass ops:=by
  unfold mass;exact le_sum (List.mem_map.2 ⟨o,ho,rfl⟩)
 unfold chk at h;split at h
 ·cases h
 split at h
 ·cases h
 rename_i hb;have A:badK o=false:=by
  cases h2:badK o
  ·rfl
  ·exact absurd (List.any_eq_true.2 ⟨o,ho,h2⟩) hb
 unfold badK at A;simp only[Bool.or_eq_false_iff,decide_eq_false_iff_not]at A;omega
theorem DiskX.entOk {f:Fs.St} {k:Nat} {ver:Int} {S:List Seg} {M:Nat} (h:DiskX f k ver S M) {e:Op} (he:e∈ents S):e.1.length=32∧(0≤e.2.1∧e.2.1≤9)∧e.2.2.length≤8192:=by
 rcases GT _ he with h1|h1
 ·cases h1
 ·obtain⟨b,B,o⟩:=List.mem_flatten.1 h1;have A:=h.bat b B;obtain⟨C,E,D⟩:=Kv A.chk o;exact⟨A.key e o,⟨C,E⟩,D⟩
theorem wrote_len {S:List Seg} (h:S≠[]) (ops:List Op):(wrote S ops).length≤S.length+1:=by
 unfold wrote;split
 ·exact (IH h ops).2
 ·omega
theorem ER {S:List Seg} (h:S≠[]) (ops:List Op):ents (wrote S ops)=if Goes S ops then chgs (ents S) ops else ents S:=by
 unfold wrote;split
 ·exact ents_put h ops
 ·rfl
end Sto
theorem C0 {f:Fs.St} {k:Nat} {ver:Int} {S:List Sto.Seg} {M:Nat} (h:Sto.DiskX f k ver S M):LN (Sto.ents S):=by
 have C:=h.live;have B:=Sto.live_len (Sto.ents S);refine⟨by omega,λo ho=>?_⟩;obtain⟨A,E,D⟩:=h.entOk ho;exact⟨A,by omega,by omega⟩
structure Fsn (base r:Nat) (x:World) (f:Fs.St) (V:FsV) (own:Nat→Tag) (ver:Int) (sv:Value) (mb:Nat) (l:Sto.ME) (S:List Sto.Seg) (R:Int) (n:Nat):Prop where
 fs:Ae base (base+2) f V own x
 at_:As x own (base+2) r ⟨ver,Sto.ids S,Sto.ents S,false⟩ mb sv l
 disk:Sto.Disk f (15+14*n) ver S 12297
 room:f.room=R
 len:S.length≤n+1
 le:base≤x.heap.size
section
variable {base r : Nat} {x : World} {f : Fs.St} {V : FsV} {own : Nat → Tag} {ver : Int} {sv : Value} {mb : Nat} {l : Sto.ME} {S : List Sto.Seg} {R : Int} {n : Nat}
theorem Fsn.below {y:World} (h:Fsn base r x f V own ver sv mb l S R n) (hb:Below x.heap.size x y):Fsn base r y f V own ver sv mb l S R n :=
 ⟨h.fs.kept (AC hb),h.at_.below hb,h.disk,h.room,h.len,QQ h.le hb.size⟩
theorem Fsn.more {m:Nat} (h:Fsn base r x f V own ver sv mb l S R n) (hm:n≤m):Fsn base r x f V own ver sv mb l S R m :=
 ⟨h.fs,h.at_,h.disk.mono (by omega) (QM _),h.room,by have:=h.len;omega,h.le⟩
theorem Fsn.low {m:Nat} (h:Fsn base r x f V own ver sv mb l S R n) (hr:base≤r) (hm:m≤base):∀b,b<m→SF r own b:=λb hb=>⟨h.fs.old b (by omega),by omega⟩
theorem Fsn.fresh (h:Fsn base r x f V own ver sv mb l S R n):∀b,x.heap.size≤b→SF r own b:=λb hb=>⟨h.fs.fresh b hb,by have:=AD h.at_.root;omega⟩
theorem Fsn.entsM (h:Fsn base r x f V own ver sv mb l S R n):A9 x (SF r own) mb l:=⟨h.at_.ents.map,h.at_.ents.key,h.at_.ents.val⟩
theorem Fsn.efit (h:Fsn base r x f V own ver sv mb l S R n):LN (l.map (·.1)):=by rw[h.at_.is];exact C0 h.disk.x
theorem Fsn.srt (h:Fsn base r x f V own ver sv mb l S R n):Sto.Srt (l.map (·.1)):=by rw[h.at_.is];exact h.at_.srt
theorem Fsn.entries (h:Fsn base r x f V own ver sv mb l S R n):Calls Tryz.prog 16 #[.pointer (some ⟨r,0,none⟩)] x λe w'=>∃v,e=.returned v∧B7 w' x.heap.size v (Sto.ents S)∧Below x.heap.size x w':=by
 have:=Fx r (base+2) mb ver sv false l x (SF r own) h.at_.root h.entsM h.srt h.efit
 rwa [h.at_.is]at this
theorem Fsn.live (h:Fsn base r x f V own ver sv mb l S R n):Calls Tryz.prog 17 #[.map (some mb)] x λe w'=>e=.returned (.int .i64 (Sto.live (Sto.ents S):Nat))∧Below x.heap.size x w':=by
 have o:l.map (·.1)=Sto.ents S:=h.at_.is;have C:Sto.Srt (Sto.ents S):=h.at_.srt;have D:=Sto.DiskX.live h.disk.x;have A:(l.map λp=>p.1.1).Nodup:=by
  have B:((Sto.ents S).map (·.1)).Nodup:=by
   rw[List.Nodup,List.pairwise_map];exact List.Pairwise.imp (R:=λa b:Sto.Op=>a.1<b.1) (λ{a b} h e=>by rw[e]at h;exact List.lt_irrefl _ h) C
  rw[← o,List.map_map]at B;exact B
 have:=Co mb l x (SF r own) h.entsM A (by rw[o];omega)
 rwa [o]at this
theorem room_le {s m:Nat} {R:Int} (h:s≤m) (hR:(((m+3)*12297+800:Nat):Int)≤R):(((s+3)*12297+800:Nat):Int)≤R :=
 Int.le_trans (Int.ofNat_le.2 (Nat.add_le_add_right (Nat.mul_le_mul_right 12297 (by omega)) 800)) hR
def Ll (base r:Nat) (x:World) (S:List Sto.Seg) (R:Int) (n:Nat) (own:Nat→Tag) (e:Ending) (w':World):Prop :=
 ∃f' V' own' ver' mb' sv' l',Fsn base r w' f' V' own' ver' sv' mb' l' S R n∧SFr r own own' x w'∧Below base x w'
theorem Fsn.write (h:Fsn base r x f V own ver sv mb l S R n) (hr:base≤r) (hE:A0 base x) (v:Value) (ops:Sto.ME) {F:Nat→Prop} (ho:Au x F v ops) (hF:∀b,b<x.heap.size→F b→SF r own b)
  (hol:ops.length≤1000000000) (hbl:∀p∈ops,p.1.2.2.length≤1000000000) (hn:n≤1000) (h31:S.length≤31) (hR:(((S.length+3)*12297+800:Nat):Int)≤R) :
  Calls Tryz.prog 13 #[.pointer (some ⟨r,0,none⟩),v] x λe w'=>e=.returned (.int .i64 (Sto.wcode S (Sto.opsOf ops)))∧Ll base r x (Sto.wrote S (Sto.opsOf ops)) R (n+1) own e w':=by
 have C:∀p∈ops,p.1.1.length=32:=λp A=>by
  obtain⟨i,E⟩:=List.getElem?_of_mem A;obtain⟨a,cap,H,_,D⟩:=ho;exact (D i p E).1
 have B:=h.len;refine (Da base (base+2) r mb f V own ver sv S 12297 (15+14*n) l v ops x h.fs hE h.le hr h.at_ h.disk (ho.mv ⟨QM _,λb hb hf=>⟨hF b hb hf,rfl⟩⟩) hol hbl C (λhg=>?_)).mono ?_
 ·have G:Sto.GoodB (Sto.opsOf ops):=⟨hg.1,hg.2.2,λo ho=>by
   obtain⟨p,A,rfl⟩:=List.mem_map.1 ho;exact C p A⟩
  exact Sto.Can.of h.disk G h31 (by rw[h.room];exact hR) (by omega)
 ·rintro e w' ⟨rfl,f',V',own',ver',mb',sv',l',k1,k2,k3,k4,k5,k6⟩;refine⟨rfl,f',V',own',ver',mb',sv',l',⟨k1,k4,k5.mono (by omega) (QM _),k6.trans h.room,?_,QQ h.le k3.size⟩,k2,k3⟩;have:=Sto.wrote_len h.disk.x.ne (Sto.opsOf ops);omega
end
theorem MV.mk_low {w a b:World} {n:Nat} (h:Below n a b) (hn:w.heap.size≤n):MV (Low w) (Low w) a b:=⟨h.size,λk _ hf=>⟨hf,h.block k (Nat.lt_of_lt_of_le hf hn)⟩⟩
theorem As.past {w w':World} {own own':Nat→Tag} {B r q:Nat} {s:Sto.St} {mb:Nat} {sv:Value} {l:Sto.ME} (h:As w own B r s mb sv l) (hf:SFr q own own' w w') (hq:w.heap.size≤q):As w' own' B r s mb sv l:=by
 have o:=AD h.root;have m:MV (SF r own) (SF r own') w w':=⟨hf.size,λb hb hf2=>⟨⟨(hf.tags b hb).trans hf2.1,hf2.2⟩,hf.block b hb hf2.1 (by omega)⟩⟩
 exact⟨(hf.block r o h.mine (by omega)).trans h.root,(hf.tags r o).trans h.mine,h.segs.mv m,h.ents.mv m,h.is,h.srt⟩
def Lm (base r:Nat) (x:World) (f:Fs.St) (ver:Int) (sv:Value) (mb:Nat) (l:Sto.ME) (S:List Sto.Seg) (R:Int) (n:Nat) (own:Nat→Tag) (e:Ending) (w':World):Prop :=
 ∃q V' own' sv' mb' l',e=.returned (.tuple #[.pointer (some ⟨q,0,none⟩),.int .i64 0])∧x.heap.size≤q∧Fsn base r w' f V' own' ver sv mb l S R n∧Fsn base q w' f V' own' ver sv' mb' l' S R n∧SFr q own own' x w'∧Below base x w'
theorem Fsn.opened {base r:Nat} {x:World} {f:Fs.St} {V:FsV} {own:Nat→Tag} {ver:Int} {sv:Value} {mb:Nat} {l:Sto.ME} {S:List Sto.Seg} {R:Int} {n:Nat} (h:Fsn base r x f V own ver sv mb l S R n) (hE:Cq base x) (hn:n≤1000) :
  Calls Tryz.prog 21 #[.pointer (some ⟨base+2,0,none⟩)] x (Lm base r x f ver sv mb l S R n own):=by
 refine (FI base (base+2) f V own (15+14*n) ver S 12297 x h.fs hE h.le h.disk.x (by omega)).mono ?_;rw[h.disk.clean];rintro e w' ⟨q,V',own',sv',mb',l',rfl,h1,h2,h3,h4,h5⟩;have o:=QQ h.le h4.size;exact⟨q,V',own',sv',mb',l',rfl,h1,⟨h2,h.at_.past h3 h1,h.disk,h.room,h.len,o⟩,⟨h2,h5,h.disk,h.room,h.len,o⟩,h3,h4⟩
def Li (R:Int) (w:World) (e:Ending) (w':World):Prop :=
 ∃r f V own sv mb,e=.returned (.tuple #[.pointer (some ⟨w.heap.size+2,0,none⟩),.pointer (some ⟨r,0,none⟩)])∧w.heap.size≤r∧Fsn w.heap.size r w' f V own 1 sv mb [] [(1,[])] R 0∧Below w.heap.size w w'
theorem FC (base:Nat) (R:Int) (w:World) (hE:A0 base w) (hbase:base≤w.heap.size) (h1:3200≤R) (h2:R≤1048576):Calls Tryz.prog 10 #[.int .i64 R] w (Li R w):=by
 refine (Cz base R w hE hbase h1 h2).mono ?_;rintro e w' ⟨r,V,own,sv,mb,rfl,k1,k2,k3,k4⟩;obtain⟨D,C,E,B,A,o⟩:=Sto.Disk.begin h1 h2;exact⟨r,_,V,own,sv,mb,rfl,k1,⟨k2,k4,o.mono (QM _) (by omega),A,QM _,k3.size⟩,k3⟩
end Go.Proofs.YtjldahcckmmenaaGreatDoor
