/-
  Manifests: Decode, walked. Manifests: Load; the law's own words (ref, same); the fixed fact (awake), walked. A change in memory: 34 cells; a slice of changes; entries in memory. A store in memory: what its blocks hold, and what moves it. The store: check, walked.
-/
import Derived.Test.YtjldahcckmmenaaGreatDoorZd10
import Derived.Lib.SplitLaws
import Derived.Test.YtjldahcckmmenaaGreatDoorZd4
import Derived.Deep.MidRow
import Derived.Deep.WholeRow
import Derived.Deep.LoopGhost
open Go.Lib renaming hid → QA
open List renaming length_map → QV, mem_of_getElem? → QZ, drop_eq_getElem_cons → ZB, getElem?_eq_getElem → ZG, mem_cons → ZX
open Nat renaming le_refl → QM, le_trans → QQ, zero_le → ZS, lt_of_lt_of_le → ZT
namespace Go.Proofs.YtjldahcckmmenaaGreatDoor
set_option maxRecDepth 100000
set_option maxHeartbeats 4000000
set_option linter.unusedSimpArgs false
set_option linter.unusedVariables false
open Go Go.RowKit
open Go.Maps Go.WideMaps
structure Dm (B:Nat) (w:World):Prop where
 sg:Aq B w
 ml:∃m,w.cell? ⟨0,0,none⟩=some (.int .i64 m)
 low:0<B
theorem Dm.below {B:Nat} {w w':World} (h:Dm B w) (hb:Below B w w'):Dm B w':=by
 obtain⟨m,o⟩:=h.ml;exact⟨h.sg.below hb,⟨m,by rw[hb.cell h.low];exact o⟩,h.low⟩
theorem Dm.mono {B B':Nat} {w:World} (h:Dm B w) (hb:B≤B'):Dm B' w:=⟨h.sg.mono hb,h.ml,ZT h.low hb⟩
theorem D5 (a b:Value) (l m:List UInt8) (w:World) (ha:AZ w a l) (hb:AZ w b m) (hl:l.length≤1000000000) (hm:m.length≤1000000000) :
  Calls Tryz.prog 104 #[a,b] w λe w'=>e=.returned (.bool (l==m))∧w'=w:=by
 obtain⟨B,E,rfl,_⟩:=ha.form;obtain⟨A,D,rfl,_⟩:=hb.form;have o:=Cl ha;have C:=Cl hb;go_enter Tryz.func104,Tryz.ntmps104;go_wp2_with fail;go_ret;exact⟨rfl,rfl⟩
def Jl (b:List UInt8) (w:World) (e:Ending) (w':World):Prop :=
 Below w.heap.size w w'∧((∃v l sv,Mf.read b=some (v,l)∧e=.returned (.tuple #[.agg #[.int .i64 v,sv],.int .i64 0])∧Am w' w.heap.size sv l) ∨
  (Mf.read b=none∧e=.returned (.tuple #[.agg #[.int .i64 0,.slice none 0 0],.int .i64 2])))
theorem IZ {L:List (List UInt8)} {j:Nat} {x:List UInt8} (h:L[j]?=some x):Mf.nums (L.drop j)=match Lib.atoiAll x with|.ok n=>(Mf.nums (L.drop (j+1))).map (n::·)|_=>none:=by
 obtain⟨o,A⟩:=List.getElem?_eq_some_iff.1 h;rw[ZB o,A,Mf.nums];cases Lib.atoiAll x<;>rfl
theorem But.grown2 {X:Nat→Prop} {a w w':World} {r:Option Nat} (h:But X a w) (hg:w.grownBy w' r) (hr:∀k,r=some k→X k∨a.heap.size≤k):But X a w' :=
 ⟨hg.os.trans h.os,hg.tape.trans h.tape,hg.output.trans h.output,QQ h.size hg.size,λk hk hx=>by
  rw[hg.block k (ZT hk h.size) (λe=>by rcases hr k e.symm with h1|h1;exact hx h1;omega)];exact h.block k hk hx⟩
theorem EW:∀(k:Nat) (l:List UInt8),k=l.count 10→(Lib.splitK [10] 0 k l).length=k+1
 | 0,l,_=>rfl
 | k+1,l,h=>by
  obtain⟨x,r,o,e⟩:∃x r,(10:UInt8) ∉ x∧l=x++10::r:=by
   have A:(10:UInt8)∈l:=List.count_pos_iff.1 (by omega);clear h
   induction l with
   | nil=>cases A
   | cons c l ih =>
    by_cases hc:c=10
    ·exact⟨[],l,by simp,by rw[hc];rfl⟩
    ·obtain⟨x,r,B,D⟩:=ih (by rcases ZX.1 A with h|h;exact absurd h.symm hc;exact h);exact⟨c::x,r,by simp[B];exact λh=>hc h.symm,by rw[D];rfl⟩
  subst e;rw[Lib.splitK,Mf.index_line x r o,if_neg (by simp),List.length_cons];have C:(x++10::r).drop (((x.length:Nat):Int).toNat+([10]:List UInt8).length)=r:=by
   rw[Int.toNat_natCast,← List.drop_drop,List.drop_left];rfl
  rw[C,EW k r (by rw[List.count_append,List.count_eq_zero_of_not_mem o,List.count_cons_self]at h;omega)]
theorem Dl:∀(k:Nat) (l x:List UInt8),x∈Lib.splitK [10] 0 k l→x.length≤l.length
 | 0,l,x,h=>by
  rw[Lib.splitK]at h;simp at h;rw[h];exact QM _
 | k+1,l,x,h=>by
  rw[Lib.splitK]at h;split at h
  ·simp at h;rw[h];exact QM _
  ·rcases ZX.1 h with h|h
   ·rw[h];simp;omega
   ·have:=Dl k _ x h;simp at this;omega
theorem Bl {Q:Ending→World→Prop} {a:Act} {W:World} (g:Nat) (ver c:Int) (sv:Value) (h2:a.tmps[2]?=some (.pointer (some ⟨g,0,none⟩))) (h3:a.tmps[3]?=some (.int .i64 c)) (hd:a.defers=[])
  (hW:W.heap[g]?=some (.cells #[.int .i64 ver,sv] 47 (0,0))) (hQ:Q (.returned (.tuple #[.agg #[.int .i64 ver,sv],.int .i64 c])) W):bodyPost Tryz.prog Tryz.f71 Q .ret a W:=by
 have A:W.cell? ⟨g,0,none⟩=some (.int .i64 ver):=AA hW 0 _ rfl;have o:W.cell? ⟨g,1,none⟩=some sv:=AA hW 1 _ rfl;exact bodyPost_ret (v:=.tuple #[.agg #[.int .i64 ver,sv],.int .i64 c]) (by simp[results,Tryz.results71,go_sem,h2,h3,A,o]) hd hQ
theorem Am.mono2 {w:World} {base base':Nat} {v:Value} {l:List Int} (h:Am w base v l) (hb:base'≤base):Am w base' v l:=by
 refine⟨h.1,?_⟩;rcases h.2 with h2|⟨g,cap,cur,hv,hg,hc⟩
 ·exact .inl h2
 ·exact .inr ⟨g,cap,cur,hv,QQ hb hg,hc⟩
theorem GV (v:Value) (b:List UInt8) (w:World) (B:Nat) (hE:Dm B w) (hBw:B≤w.heap.size) (hV:AZ w v b) (hl:b.length≤1000000000) :
  Calls Tryz.prog 71 #[v] w (Jl b w):=by
 obtain⟨va,vc,rfl,_⟩:=hV.form;have aN:Below w.heap.size w (w.alloc (.cells #[.int .i64 0,.slice none 0 0] 47)):=(Below.refl _ _).alloc (QM _) _;have aT:=AK w (.cells #[.int .i64 0,.slice none 0 0] 47);have HV:=QA hV;have HE:=QA hE;have av:=QA aN;have aQ:=QA aT;clear hV hE aN aT;go_enter Tryz.func71,Tryz.ntmps71;go_wp2_with fail;refine (EX _ b _ (HV.out.below av.out) hl).mono ?_;rintro e w1 ⟨hb1,hres⟩;have M:=QA (av.out.trans (hb1.mono av.out.size));have az:w1.heap[w.heap.size]?=some (.cells #[.int .i64 0,.slice none 0 0] 47 (0,0)):=by rw[hb1.block _ (AC aQ.out)];exact aQ.out
 have H:=QA az;have aw:w.heap.size<w1.heap.size:=AC az;clear hb1 az;rcases hres with⟨h0,pv,rfl,ho⟩|⟨h0,rfl⟩
 ·obtain⟨pa,pn,pc,bs,bN⟩:=Ag.form3 ho;subst bs;have HO:=QA ho;have p0:w1.frozen? ⟨w.heap.size,0,none⟩=false:=AE H.out 0;have p1:w1.frozen? ⟨w.heap.size,1,none⟩=false:=AE H.out 1;have q0:w1.cell? ⟨w.heap.size,0,none⟩=some (.int .i64 0):=AA H.out 0 _ rfl;have q1:w1.cell? ⟨w.heap.size,1,none⟩=some (.slice none 0 0):=AA H.out 1 _ rfl;have au:=M.out.alloc M.out.size (.cells #[.int .i64 (Fr.kind b),.slice pa pn pc] 112);obtain⟨K,hK⟩:∃K,K=Fr.kind b:=⟨_,rfl⟩
  rw[← hK]at au ⊢;have b2:=QA au;have HK:=QA hK;have H0:=QA h0;clear ho au hK h0;by_cases hk9:K=9
  ·subst hk9;have al:Below w1.heap.size w1 ((w1.alloc (.cells #[.int .i64 9,.slice pa pn pc] 112)).alloc (.cells #[.int .i64 0,.slice none 0 0] 47)):=((Below.refl _ _).alloc (QM _) _).alloc (by simp) _;have bk:=Cl (HO.out.byts.below al);have e1:(w1.alloc (.cells #[.int .i64 9,.slice pa pn pc] 112)).heap.size=w1.heap.size+1:=by simp
   have am:=AK (w1.alloc (.cells #[.int .i64 9,.slice pa pn pc] 112)) (.cells #[.int .i64 0,.slice none 0 0] 47);rw[e1]at am;have bz:=QA am;have aP:=QA al;have a6:(Fr.pay b).length≤1000000000:=by unfold Fr.pay;simp;omega
   have ay:=QA a6;clear am al e1 p0 p1 q0 q1 a6;go_wp2_with fail;refine (Tryz.strings_TrimSuffix ⟨(Fr.pay b).toArray⟩ ⟨#[10]⟩ _ (by have:=ay.out;show (Fr.pay b).toArray.size≤_;simp;omega)).mono ?_;rintro e w2 ⟨rfl,rfl⟩;obtain⟨T,hT⟩:∃T:ByteArray,T=⟨(Lib.trimSuffix (⟨(Fr.pay b).toArray⟩:ByteArray).data.toList (⟨#[10]⟩:ByteArray).data.toList).toArray⟩:=⟨_,rfl⟩
   rw[← hT];have HT:Hid (T.data.toList=Lib.trimSuffix (Fr.pay b) [10]):=by rw[hT];exact QA rfl
   have b8:T.size≤1000000000:=by
    rw[hT];show (Lib.trimSuffix _ _).toArray.size≤_;have:=ay.out;unfold Lib.trimSuffix;split<;>simp<;>omega
   clear hT bk;obtain⟨ml,aK⟩:=(HE.out.below (M.out.trans (aP.out.mono M.out.size) |>.mono hBw)).ml;go_wp2_with fail;refine (Tryz.strings_Split T ⟨#[10]⟩ ml _ (by omega) aK (by decide)).mono ?_;rintro e w3 ⟨rfl,hw3⟩;have e2:((w1.alloc (.cells #[.int .i64 9,.slice pa pn pc] 112)).alloc (.cells #[.int .i64 0,.slice none 0 0] 47)).heap.size=w1.heap.size+2:=by simp
   rw[e2];have aV:Hid (w3.heap.size=w1.heap.size+3):=by rw[hw3];exact QA (by simp)
   have ad:Hid (Below w1.heap.size w1 w3):=by rw[hw3];exact QA (aP.out.alloc (by simp;omega) _)
   have bB:Hid (w3.heap[w1.heap.size+1]?=some (.cells #[.int .i64 0,.slice none 0 0] 47 (0,0))):=by
    rw[hw3,Lib.alloc_old _ _ _ (by simp)];exact bz
   obtain⟨V,ao⟩:∃V,V=Lib.splitB ⟨#[10]⟩ 0 (Lib.countB T ⟨#[10]⟩) T:=⟨_,rfl⟩
   have aq:Hid (V.map (·.data.toList)=Mf.lines (Lib.trimSuffix (Fr.pay b) [10])):=by
    refine QA ?_;rw[ao,Lib.splitB_data,HT.out];unfold Mf.lines;rw[show Lib.countB T ⟨#[10]⟩=Lib.count T.data.toList [10] from rfl,HT.out,Lib.count_one]
   have a5:V.length=Lib.countB T ⟨#[10]⟩+1:=by
    have:=congrArg List.length aq.out;rw[QV]at this;rw[this];unfold Mf.lines;rw[show Lib.countB T ⟨#[10]⟩=Lib.count T.data.toList [10] from rfl,HT.out,Lib.count_one];exact EW _ _ rfl
   obtain⟨n,hn⟩:∃n,n=Lib.countB T ⟨#[10]⟩+1:=⟨_,rfl⟩
   rw[← hn]at a5 ⊢;have bf:Hid (DG w3 (.slice (some ⟨w1.heap.size+2,0,none⟩) n n) V):=by
    refine QA ⟨some ⟨w1.heap.size+2,0,none⟩,n,by rw[a5],λi s hi=>⟨w1.heap.size+2,0,rfl,by have:=aV.out;omega,?_⟩⟩;rw[hw3,← e2,Nat.zero_add];exact Ak _ _ _ i _ (by rw[← ao];simp[hi])
   have bU:n≤1000000001:=by
    rw[hn];have:=Lib.countB_mul_le ⟨#[10]⟩ (by decide) T.size T (QM _);rw[show (⟨#[10]⟩:ByteArray).size=1 from rfl]at this;omega
   have b4:1≤n:=by omega
   have bm:Hid (∀s∈V,s.size≤1000000000):=by
    refine QA λs hs=>?_
    have h1:s.data.toList∈V.map (·.data.toList):=List.mem_map.2 ⟨s,hs,rfl⟩;rw[aq.out]at h1;have:=Dl _ _ _ h1;have h2:(Lib.trimSuffix (Fr.pay b) [10]).length≤(Fr.pay b).length:=by unfold Lib.trimSuffix;split<;>simp
    have h3:=ay.out;have h4:s.size=s.data.toList.length:=by simp
    omega
   have Q:Hid (Mf.read b=(Mf.nums (V.map (·.data.toList))).bind (Mf.fit b)):=by
    unfold Mf.read;rw[if_neg (by rw[H0.out,← HK.out];simp),aq.out];exact QA rfl
   have bP:=QA (HE.out.below ((M.out.trans (ad.out.mono M.out.size)).mono hBw));have aW:Hid (w3.heap[w.heap.size]?=some (.cells #[.int .i64 0,.slice none 0 0] 47 (0,0))):=by rw[ad.out.block _ aw];exact H
   clear hw3 e2 hn ao aK;go_wp2_with fail
   go_loopg [32] n (λk s32 wr=>∃(j:Nat) (A:List Int) (sv:Value),j≤n∧k=n-j∧s32=.int .i64 (j:Nat)∧A.length=j∧wr.heap[w1.heap.size+1]?=some (.cells #[.int .i64 (A.headD 0),sv] 47 (0,0))∧Am wr w3.heap.size sv A.tail ∧
    But (λk=>k=w1.heap.size+1) w3 wr∧(Mf.nums (V.map (·.data.toList))=(Mf.nums ((V.map (·.data.toList)).drop j)).map (A++·)))
   case atStart=>exact⟨0,[],.slice none 0 0,ZS _,rfl,rfl,rfl,bB.out,World.ownsRow_nil _ _ _ _,But.refl _ _,by rw[List.drop_zero];simp⟩
   case round =>
    obtain⟨j,A,sv,hj,hk,rfl,aY,hM,a3,P,ag⟩:=hrel;have aU:=QA hk;have Z:=QA aY;have HM:=QA hM;have U:=QA a3;have ap:=QA P;have W:=QA ag;have bX:(0:Int)≤(j:Int):=Int.natCast_nonneg _;have bT:w3.heap.size≤wr.heap.size:=P.size;have bV:=aV.out;have aJ:w1.heap.size+1<wr.heap.size:=AC hM;have J:Hid (Below w.heap.size w wr):=by
     refine QA ?_;have h1:=M.out.trans (ad.out.mono M.out.size);exact⟨P.os.trans h1.os,P.tape.trans h1.tape,P.output.trans h1.output,QQ h1.size P.size,λk hk=>by
      rw[P.block k (ZT hk h1.size) (by show k≠_;omega)];exact h1.block k hk⟩
    have ah:wr.heap[w.heap.size]?=some (.cells #[.int .i64 0,.slice none 0 0] 47 (0,0)):=by rw[P.block _ (AC aW.out) (by show w.heap.size≠_;omega)];exact aW.out
    have O:=QA ah;clear hk aY hM a3 P ag ah;by_cases hjn:j<n
    ·have a2:(j:Int)<(n:Int):=by omega
     obtain⟨s,hs⟩:∃s,V[j]?=some s:=⟨_,ZG (by omega)⟩
     have b6:=bm.out s (QZ hs);have bu:wr.cell? ⟨w1.heap.size+2,j,none⟩=some (.string s):=by
      obtain⟨bb,b5,e1,e2⟩:=bf.out.at hs;simp only[Option.some.injEq,Addr.mk.injEq,and_true]at e1;obtain⟨rfl,rfl⟩:=e1;rw[Nat.zero_add]at e2;rw[World.cell?_of_block (ap.out.block _ (by show w1.heap.size+2<w3.heap.size;omega) (by show w1.heap.size+2≠w1.heap.size+1;omega))];exact e2
     have HD:=QA (IZ (L:=V.map (·.data.toList)) (j:=j) (x:=s.data.toList) (by rw[List.getElem?_map,hs];rfl));clear hs;cases hat:Lib.atoiAll s.data.toList with
     | ok v =>
      rw[hat]at HD;go_wp2_with fail;refine (Tryz.strconv_Atoi_ok s (by omega) v hat wr).mono ?_;rintro e w4 ⟨rfl,hw4⟩;have C:Below wr.heap.size wr w4:=by
       rcases hw4 with rfl|⟨t,rfl⟩
       ·exact Below.refl _ _
       ·exact Joins.below_bytesWorld wr.heap.size wr 5 t (QM _)
      have X:=QA C;have R:w4.heap[w1.heap.size+1]?=some (.cells #[.int .i64 (A.headD 0),sv] 47 (0,0)):=by rw[C.block _ aJ];exact HM.out
      have br:=C.size;have a1:Hid (Mf.nums (V.map (·.data.toList))=(Mf.nums ((V.map (·.data.toList)).drop (j+1))).map ((A++[v])++·)):=by
       rw[W.out,HD.out];show Hid (((Mf.nums _).map _).map _=_);rw[Option.map_map];refine QA (congrArg (λf=>Option.map f _) (funext λx=>?_));show A++v::x=(A++[v])++x;simp
      have Y:=QA R;clear hw4 C hat R bu;by_cases hj0':j=0
      ·subst hj0';have aa:A=[]:=List.length_eq_zero_iff.1 Z.out;subst aa;have q0:w4.cell? ⟨w1.heap.size+1,0,none⟩=some (.int .i64 0):=AA Y.out 0 _ rfl;have p0:w4.frozen? ⟨w1.heap.size+1,0,none⟩=false:=AE Y.out 0;go_wp2_with fail;go_roundg (n-(0+1))
       case measure=>rw[aU.out];omega
       case rel =>
        refine⟨1,[v],sv,by omega,rfl,by simp,rfl,heap_set Y.out _,?_,?_,a1.out⟩
        ·refine AN (U.out.keep X.out) (λg hg=>Below.heap_setCell _ _ _ _ ?_);have:=(World.ownsRow.lt U.out g hg).1;show g≠w1.heap.size+1;omega
        ·exact ((ap.out.trans (But.of_below X.out)).setCell (p:=⟨w1.heap.size+1,0,none⟩) (.inl rfl) _)
      ·obtain⟨F,G,E,ai,aH⟩:=Am.form3 U.out;subst ai;have q1:w4.cell? ⟨w1.heap.size+1,1,none⟩=some (.slice F G E):=AA Y.out 1 _ rfl;have b1:(w4.alloc (.cells #[.int .i64 v] 3)).cell? ⟨w1.heap.size+1,1,none⟩=some (.slice F G E):=by
        rw[World.cell?_of_block (Lib.alloc_old _ _ _ (show w1.heap.size+1<w4.heap.size by omega))];exact q1
       have ak:=QA (U.out.keep X.out);have bl:Hid (Am (w4.alloc (.cells #[.int .i64 v] 3)) w3.heap.size (.slice F G E) A.tail):=QA (ak.out.keep ((Below.refl _ _).alloc (QM _) _));have bw:=QA (Am.one w4 v w4.heap.size (QM _)).nums;have bS:((j:Int)==0)=false:=by rw[beq_eq_false_iff_ne];omega
       have bH:(j==0)=false:=by rw[beq_eq_false_iff_ne];exact hj0'
       have aO:A.tail.length≤1000000001:=by have:=Z.out;simp;omega
       have a9:=QA aO;have bg:∀w5,(w4.alloc (.cells #[.int .i64 v] 3)).grownBy w5 (Value.slice F G E).ownBlock→w5.heap[w1.heap.size+1]?=some (.cells #[.int .i64 (A.headD 0),.slice F G E] 47 (0,0)):=λw5 hg5=>by
        rw[hg5.block _ (by simp;omega) (λe=>by have:=(World.ownsRow.lt ak.out _ e.symm).1;omega),Lib.alloc_old _ _ _ (by omega)];exact Y.out
       clear aO;go_wp2_with (first|(at_builtin;refine AX rfl _ _ rfl w3.heap.size (.slice F G E) A.tail rfl bl.out (.slice (some ⟨w4.heap.size,0,none⟩) 1 1) [v] rfl bw.out (by simp) (by have:=a9.out;rw[List.length_singleton];omega) (by simp;omega) ?_;intro d' w5 hown hgrow hloc;clear hloc;obtain⟨dA,dN,dC,bA,bE⟩:=Am.form3 hown;subst bA;have aj:=QA (bg _ hgrow);have q5:w5.cell? ⟨w1.heap.size+1,1,none⟩=some (.slice F G E):=AA aj.out 1 _ rfl;have p5:w5.frozen? ⟨w1.heap.size+1,1,none⟩=false:=AE aj.out 1;have af:=QA hown;have bh:=QA hgrow;clear hown hgrow)|fail);go_roundg (n-(j+1))
       case measure=>rw[aU.out];omega
       case rel =>
        obtain⟨a0,r0,aa⟩:∃a0 r0,A=a0::r0:=by
         cases hacc:A with
         | nil=>have:=Z.out;rw[hacc]at this;simp at this;omega
         | cons a r=>exact⟨a,r,rfl⟩
        refine⟨j+1,A++[v],.slice dA dN dC,by omega,rfl,by simp,by rw[List.length_append,Z.out];rfl,?_,?_,?_,a1.out⟩
        ·have h5:=aj.out;rw[aa]at h5 ⊢;exact heap_set h5 _
        ·have h6:(A++[v]).tail=A.tail++[v]:=by rw[aa];rfl
         rw[h6];refine AN af.out (λg hg=>Below.heap_setCell _ _ _ _ ?_);have:=(World.ownsRow.lt af.out g hg).1;show g≠w1.heap.size+1;omega
        ·exact (((ap.out.trans (But.of_below X.out)).alloc _).grown2 bh.out (λk hk=>.inr (World.ownsRow.lt ak.out k hk).1)).setCell (p:=⟨w1.heap.size+1,1,none⟩) (.inl rfl) _
     | range =>
      rw[hat]at HD;obtain⟨tp,p,hv⟩:=(HE.out.sg.below (J.out.mono hBw)).rng;have an:Hid (Mf.read b=none):=by rw[Q.out,W.out,HD.out];exact QA rfl
      go_wp2_with fail;refine (Tryz.strconv_Atoi_range_var s (by omega) hat tp p wr hv).mono ?_;rintro e w4 ⟨N,rfl,hN,_,C⟩;clear hat hv;have o:w4.heap[w.heap.size]?=some (.cells #[.int .i64 0,.slice none 0 0] 47 (0,0)):=by rw[C.block _ (AC O.out)];exact O.out
      have I:=QA o;have p0:w4.frozen? ⟨w.heap.size,0,none⟩=false:=AE o 0;have p1:w4.frozen? ⟨w.heap.size,1,none⟩=false:=AE o 1;have z0:w4.cell? ⟨w.heap.size,0,none⟩=some (.int .i64 0):=AA o 0 _ rfl;have z1:w4.cell? ⟨w.heap.size,1,none⟩=some (.slice none 0 0):=AA o 1 _ rfl;have D:=QA (J.out.trans (C.mono J.out.size));clear o C;go_wp2_with fail;refine Bl w.heap.size 0 2 _ rfl rfl rfl (heap_set (heap_set I.out _) _) ?_;exact⟨((D.out.setCell (p:=⟨w.heap.size,0,none⟩) (QM _) _).setCell (p:=⟨w.heap.size,1,none⟩) (QM _) _),.inr ⟨an.out,rfl⟩⟩
     | _ =>
      rw[hat]at HD;obtain⟨tp,p,hv⟩:=(HE.out.sg.below (J.out.mono hBw)).syn;have an:Hid (Mf.read b=none):=by rw[Q.out,W.out,HD.out];exact QA rfl
      go_wp2_with fail;refine (Tryz.strconv_Atoi_syntax_var s (by omega) hat tp p wr hv).mono ?_;rintro e w4 ⟨N,rfl,hN,_,C⟩;clear hat hv;have o:w4.heap[w.heap.size]?=some (.cells #[.int .i64 0,.slice none 0 0] 47 (0,0)):=by rw[C.block _ (AC O.out)];exact O.out
      have I:=QA o;have p0:w4.frozen? ⟨w.heap.size,0,none⟩=false:=AE o 0;have p1:w4.frozen? ⟨w.heap.size,1,none⟩=false:=AE o 1;have z0:w4.cell? ⟨w.heap.size,0,none⟩=some (.int .i64 0):=AA o 0 _ rfl;have z1:w4.cell? ⟨w.heap.size,1,none⟩=some (.slice none 0 0):=AA o 1 _ rfl;have D:=QA (J.out.trans (C.mono J.out.size));clear o C;go_wp2_with fail;refine Bl w.heap.size 0 2 _ rfl rfl rfl (heap_set (heap_set I.out _) _) ?_;exact⟨((D.out.setCell (p:=⟨w.heap.size,0,none⟩) (QM _) _).setCell (p:=⟨w.heap.size,1,none⟩) (QM _) _),.inr ⟨an.out,rfl⟩⟩
    ·have a2:(n:Int)≤(j:Int):=by omega
     have bL:j=n:=by omega
     obtain⟨S,l0,aa⟩:∃S l0,A=S::l0:=by
      cases hacc:A with
      | nil=>have:=Z.out;rw[hacc]at this;simp at this;omega
      | cons a r=>exact⟨a,r,rfl⟩
     subst aa;have ax:Hid (Mf.read b=Mf.fit b (S::l0)):=by
      rw[Q.out,W.out,List.drop_of_length_le (by rw[QV];omega)];show Hid (((some []).map _).bind _=_);refine QA ?_;simp only[Option.map_some,Option.bind_some,List.append_nil]
     obtain⟨F,G,E,ai,aH⟩:=Am.form3 U.out;subst ai;have q0:wr.cell? ⟨w1.heap.size+1,0,none⟩=some (.int .i64 S):=AA HM.out 0 _ rfl;have q1:wr.cell? ⟨w1.heap.size+1,1,none⟩=some (.slice F G E):=AA HM.out 1 _ rfl;have bi:Hid (l0.length≤1000000000):=by have:=Z.out;simp at this;exact QA (by omega)
     go_wp2_with fail;refine (De S _ l0 wr B (HE.out.sg.below (J.out.mono hBw)) (QQ hBw J.out.size) U.out.nums bi.out).mono ?_;rintro e w4 ⟨C,hres⟩;have X:=QA C;have R:w4.heap[w1.heap.size+1]?=some (.cells #[.int .i64 S,.slice F G E] 47 (0,0)):=by rw[C.block _ aJ];exact HM.out
     have o:w4.heap[w.heap.size]?=some (.cells #[.int .i64 0,.slice none 0 0] 47 (0,0)):=by rw[C.block _ (AC O.out)];exact O.out
     have I:=QA o;have Y:=QA R;have x0:w4.cell? ⟨w1.heap.size+1,0,none⟩=some (.int .i64 S):=AA R 0 _ rfl;have x1:w4.cell? ⟨w1.heap.size+1,1,none⟩=some (.slice F G E):=AA R 1 _ rfl;have p0:w4.frozen? ⟨w.heap.size,0,none⟩=false:=AE o 0;have p1:w4.frozen? ⟨w.heap.size,1,none⟩=false:=AE o 1;have z0:w4.cell? ⟨w.heap.size,0,none⟩=some (.int .i64 0):=AA o 0 _ rfl;have z1:w4.cell? ⟨w.heap.size,1,none⟩=some (.slice none 0 0):=AA o 1 _ rfl;have D:=QA (J.out.trans (C.mono J.out.size));have br:=C.size;clear C R o q0 q1;rcases hres with⟨hg,bb,rfl,hob⟩|⟨hg,rfl⟩
     ·obtain⟨ba,bn,bc,be,bO⟩:=Ag.form3 hob;subst be;have bv:=QA hob;have bq:(Mf.enc S l0).length≤1000000000:=by have:=Mf.enc_len hg;omega
      have bp:=QA (HV.out.below D.out);have HG:=QA hg;clear hob hg;go_wp2_with fail;refine (D5 _ _ (Mf.enc S l0) b w4 bv.out.byts bp.out bq hl).mono ?_;rintro e w5 ⟨rfl,hw5⟩;subst hw5;by_cases heq:Mf.enc S l0=b
      ·have ac:Hid (Mf.read b=some (S,l0)):=by rw[ax.out,Mf.fit,if_pos ⟨HG.out,heq⟩];exact QA rfl
       have hb:(Mf.enc S l0==b)=true:=by rw[beq_iff_eq];exact heq
       rw[hb];clear heq hb;go_wp2_with fail;refine Bl w.heap.size S 0 (.slice F G E) rfl rfl rfl (heap_set (heap_set I.out _) _) ?_;refine⟨((D.out.setCell (p:=⟨w.heap.size,0,none⟩) (QM _) _).setCell (p:=⟨w.heap.size,1,none⟩) (QM _) _),.inl ⟨S,l0,_,ac.out,rfl,?_⟩⟩;have ho:=U.out.keep X.out;refine AN (ho.mono2 (by omega)) (λg hg=>?_);have:=(World.ownsRow.lt ho g hg).1;rw[Below.heap_setCell _ _ _ _ (by show g≠w.heap.size;omega),Below.heap_setCell _ _ _ _ (by show g≠w.heap.size;omega)]
      ·have ac:Hid (Mf.read b=none):=by rw[ax.out,Mf.fit,if_neg (λh=>heq h.2)];exact QA rfl
       have hb:(Mf.enc S l0==b)=false:=by rw[beq_eq_false_iff_ne];exact heq
       rw[hb];clear heq hb;go_wp2_with fail;refine Bl w.heap.size 0 2 _ rfl rfl rfl (heap_set (heap_set I.out _) _) ?_;exact⟨((D.out.setCell (p:=⟨w.heap.size,0,none⟩) (QM _) _).setCell (p:=⟨w.heap.size,1,none⟩) (QM _) _),.inr ⟨ac.out,rfl⟩⟩
     ·have ac:Hid (Mf.read b=none):=by rw[ax.out,Mf.fit,if_neg (λh=>by rw[hg]at h;cases h.1)];exact QA rfl
      clear hg;go_wp2_with fail;refine Bl w.heap.size 0 2 _ rfl rfl rfl (heap_set (heap_set I.out _) _) ?_;exact⟨((D.out.setCell (p:=⟨w.heap.size,0,none⟩) (QM _) _).setCell (p:=⟨w.heap.size,1,none⟩) (QM _) _),.inr ⟨ac.out,rfl⟩⟩
  ·have Q:Hid (Mf.read b=none):=by unfold Mf.read;rw[if_pos (.inr (by rw[← HK.out];exact hk9))];exact QA rfl
   have ht:(K != 9)=true:=by rw[bne_iff_ne];exact hk9
   clear hk9;go_wp2_with fail;refine Bl w.heap.size 0 2 _ rfl rfl rfl (by rw[Lib.alloc_old _ _ _ (by simp[World.setCell];exact aw)];exact heap_set (heap_set H.out _) _) ?_;exact⟨((M.out.setCell (p:=⟨w.heap.size,0,none⟩) (QM _) _).setCell (p:=⟨w.heap.size,1,none⟩) (QM _) _).alloc (by simp[World.setCell];omega) _,.inr ⟨Q.out,rfl⟩⟩
 ·have Q:Hid (Mf.read b=none):=by unfold Mf.read;rw[if_pos (.inl h0)];exact QA rfl
  have p0:w1.frozen? ⟨w.heap.size,0,none⟩=false:=AE H.out 0;have p1:w1.frozen? ⟨w.heap.size,1,none⟩=false:=AE H.out 1;have q0:w1.cell? ⟨w.heap.size,0,none⟩=some (.int .i64 0):=AA H.out 0 _ rfl;have q1:w1.cell? ⟨w.heap.size,1,none⟩=some (.slice none 0 0):=AA H.out 1 _ rfl;have ht:(Fr.decE b != 0)=true:=by rw[bne_iff_ne];exact h0
  go_wp2_with fail;refine Bl w.heap.size 0 2 _ rfl rfl rfl (by rw[Lib.alloc_old _ _ _ (by simp[World.setCell];exact aw)];exact heap_set (heap_set H.out _) _) ?_;exact⟨((M.out.setCell (p:=⟨w.heap.size,0,none⟩) (QM _) _).setCell (p:=⟨w.heap.size,1,none⟩) (QM _) _).alloc (by simp[World.setCell];omega) _,.inr ⟨Q.out,rfl⟩⟩
open Go.Maps Go.WideMaps
theorem DL {Q:Ending→World→Prop} {a:Act} {W:World} (g:Nat) (ver c:Int) (sv:Value) (h2:a.tmps[2]?=some (.pointer (some ⟨g,0,none⟩))) (h3:a.tmps[3]?=some (.int .i64 c)) (hd:a.defers=[])
  (hW:W.heap[g]?=some (.cells #[.int .i64 ver,sv] 47 (0,0))) (hQ:Q (.returned (.tuple #[.agg #[.int .i64 ver,sv],.int .i64 c])) W):bodyPost Tryz.prog Tryz.f45 Q .ret a W:=by
 have A:W.cell? ⟨g,0,none⟩=some (.int .i64 ver):=AA hW 0 _ rfl;have o:W.cell? ⟨g,1,none⟩=some sv:=AA hW 1 _ rfl;exact bodyPost_ret (v:=.tuple #[.agg #[.int .i64 ver,sv],.int .i64 c]) (by simp[results,Tryz.results45,go_sem,h2,h3,A,o]) hd hQ
def I2 (st:Fs.St) (w:World) (e:Ending) (w':World):Prop :=
 Below w.heap.size w w'∧∃sv,e=.returned (.tuple #[.agg #[.int .i64 (Mf.load st).1.1,sv],.int .i64 (Mf.load st).2])∧Am w' w.heap.size sv (Mf.load st).1.2
theorem JE (base B:Nat) (st:Fs.St) (V:FsV) (own:Nat→Tag) (w:World) (h:Aa base B st V own w) (hE:Dm base w) (hbase:base≤w.heap.size) (k:Nat) (hS:Fs.Sound st k) :
  Calls Tryz.prog 45 #[.pointer (some ⟨B,0,none⟩)] w (I2 st w):=by
 have U:Below w.heap.size w (w.alloc (.cells #[.int .i64 0,.slice none 0 0] 47)):=(Below.refl _ _).alloc (QM _) _;have S:=AK w (.cells #[.int .i64 0,.slice none 0 0] 47);have H:=QA h;have HE:=QA hE;have G:=QA U;have N:=QA S;have D:=hS.full;have K:=QA D;clear h hE U S D;go_enter Tryz.func45,Tryz.ntmps45;go_wp2_with fail;refine (DI base B st V own G4 _ (H.out.kept (AB G.out)) (by decide) (λf hf=>by have:=(K.out f hf).2;omega)).mono ?_;rintro e w1 ⟨hb1,hres⟩;have C:=QA (G.out.trans (hb1.mono G.out.size));have o:w1.heap[w.heap.size]?=some (.cells #[.int .i64 0,.slice none 0 0] 47 (0,0)):=by rw[hb1.block _ (AC N.out)];exact N.out
 have M:=QA o;have T:w.heap.size<w1.heap.size:=AC o;have ab:w.heap.size+1≤w1.heap.size:=T;rw[show G4.data.toList=Mf.final from rfl]at hres;clear hb1;rcases hres with⟨h0,f,v2,hf,rfl,ho2⟩|⟨h0,rfl⟩
 ·have L:Fs.fileAt st Mf.final=f.1:=by unfold Fs.fileAt;rw[hf]
  have ac:=(K.out f (QZ hf)).2;obtain⟨da,dn,dc,Z,ae⟩:=Ag.form3 ho2;subst Z;have Y:=QA ho2;have F:Hid (Mf.load st=match Mf.read f.1 with|some m=>(m,0)|none=>((0,[]),2)):=by
   unfold Mf.load;rw[if_neg (by simp[h0]),L];exact QA rfl
  clear hf h0 ho2 L o;go_wp2_with fail;refine (GV _ f.1 w1 base (HE.out.below (C.out.mono hbase)) (QQ hbase C.out.size) Y.out.byts (by omega)).mono ?_;rintro e w2 ⟨hb2,hres⟩;have W:=QA (C.out.trans (hb2.mono C.out.size));have A:w2.heap[w.heap.size]?=some (.cells #[.int .i64 0,.slice none 0 0] 47 (0,0)):=by rw[hb2.block _ T];exact M.out
  have O:=QA A;have p0:w2.frozen? ⟨w.heap.size,0,none⟩=false:=AE A 0;have p1:w2.frozen? ⟨w.heap.size,1,none⟩=false:=AE A 1;have z0:w2.cell? ⟨w.heap.size,0,none⟩=some (.int .i64 0):=AA A 0 _ rfl;have z1:w2.cell? ⟨w.heap.size,1,none⟩=some (.slice none 0 0):=AA A 1 _ rfl;clear hb2 A;rcases hres with⟨v,l,sv,hrd,rfl,hoi⟩|⟨hrd,rfl⟩
  ·rw[hrd]at F;obtain⟨Q,R,I,X,aa⟩:=Am.form3 hoi;subst X;have J:=QA hoi;clear hoi hrd;go_wp2_with fail;refine DL w.heap.size v 0 (.slice Q R I) rfl rfl rfl (heap_set (heap_set O.out _) _) ?_;refine⟨((W.out.setCell (p:=⟨w.heap.size,0,none⟩) (QM _) _).setCell (p:=⟨w.heap.size,1,none⟩) (QM _) _),.slice Q R I,by rw[F.out],?_⟩;rw[F.out];refine AN (J.out.mono2 (by omega)) (λg hg=>?_);have:=(World.ownsRow.lt J.out g hg).1;rw[Below.heap_setCell _ _ _ _ (by show g≠w.heap.size;omega),Below.heap_setCell _ _ _ _ (by show g≠w.heap.size;omega)]
  ·rw[hrd]at F;clear hrd;go_wp2_with fail;refine DL w.heap.size 0 2 _ rfl rfl rfl (heap_set (heap_set O.out _) _) ?_;exact⟨((W.out.setCell (p:=⟨w.heap.size,0,none⟩) (QM _) _).setCell (p:=⟨w.heap.size,1,none⟩) (QM _) _),.slice none 0 0,by rw[F.out],by rw[F.out];exact World.ownsRow_nil _ _ _ _⟩
 ·have F:Hid (Mf.load st=((0,[]),Fs.openE st Mf.final)):=by unfold Mf.load;rw[if_pos h0];exact QA rfl
  have p0:w1.frozen? ⟨w.heap.size,0,none⟩=false:=AE o 0;have p1:w1.frozen? ⟨w.heap.size,1,none⟩=false:=AE o 1;have z0:w1.cell? ⟨w.heap.size,0,none⟩=some (.int .i64 0):=AA o 0 _ rfl;have z1:w1.cell? ⟨w.heap.size,1,none⟩=some (.slice none 0 0):=AA o 1 _ rfl;obtain⟨E,P⟩:∃E,E=Fs.openE st Mf.final:=⟨_,rfl⟩
  rw[← P]at h0 F ⊢;have ai:(E != 0)=true:=by rw[bne_iff_ne];exact h0
  clear o h0 P;go_wp2_with fail;refine DL w.heap.size 0 E _ rfl rfl rfl (heap_set (heap_set M.out _) _) ?_;exact⟨((C.out.setCell (p:=⟨w.heap.size,0,none⟩) (QM _) _).setCell (p:=⟨w.heap.size,1,none⟩) (QM _) _),.slice none 0 0,by rw[F.out],by rw[F.out];exact World.ownsRow_nil _ _ _ _⟩
open Go.Maps Go.WideMaps
def AG (o:Sto.Op) (v:Value):List Value:=AH o.1++[.int .i64 o.2.1,v]
theorem AP (k:List UInt8):(AH k).length=k.length:=by simp[AH]
theorem Ac {o:Sto.Op} (h:o.1.length=32) (v:Value):(AG o v).length=34:=by simp[AG,AP,h]
theorem Au {o:Sto.Op} (h:o.1.length=32) (v:Value):(AG o v)[32]?=some (.int .i64 o.2.1):=by
 unfold AG;rw[List.getElem?_append_right (by rw[AP];omega),AP,h];rfl
theorem Ae {o:Sto.Op} (h:o.1.length=32) (v:Value):(AG o v)[33]?=some v:=by
 unfold AG;rw[List.getElem?_append_right (by rw[AP];omega),AP,h];rfl
theorem Gb {o:Sto.Op} (v:Value) {j:Nat} {u:Value} (hj:(AH o.1)[j]?=some u):(AG o v)[j]?=some u:=by
 unfold AG;rw[List.getElem?_append_left (List.getElem?_eq_some_iff.1 hj).1];exact hj
theorem BQ {o:Sto.Op} {v:Value} (hv:v.oneCell'=true):∀u∈AG o v,u.oneCell'=true:=λu hu=>by
 unfold AG AH at hu;rcases List.mem_append.1 hu with h|h
 ·obtain⟨c,_,rfl⟩:=List.mem_map.1 h;rfl
 ·simp only[ZX,List.not_mem_nil,or_false]at h;rcases h with rfl|rfl
  ·rfl
  ·exact hv
def Ad (w:World) (g:Nat) (o:Sto.Op) (v:Value):Prop:=w.heap[g]?=some (.cells (AG o v).toArray 43 (0,0))
theorem Ad.cell {w:World} {g:Nat} {o:Sto.Op} {v:Value} (h:Ad w g o v) {j:Nat} {u:Value} (hj:(AG o v)[j]?=some u):w.cell? ⟨g,j,none⟩=some u:=AA h j u (by simpa using hj)
theorem Ad.key {w:World} {g:Nat} {o:Sto.Op} {v:Value} (h:Ad w g o v):w.rangeAt g 0 (AH o.1):=λj u hj=>by
 rw[Nat.zero_add];exact h.cell (Gb v hj)
theorem Ad.new (w:World) (o:Sto.Op) (v:Value):Ad (w.alloc (.cells (AG o v).toArray 43)) w.heap.size o v:=AK w _
theorem Ad.keep {w w':World} {g:Nat} {o:Sto.Op} {v:Value} (h:Ad w g o v) (hb:Below w.heap.size w w'):Ad w' g o v:=(hb.block g (AC h)).trans h
theorem Ab {ops:Array Oper} {rest:List Oper} {op:Oper} {a:Act} {w:World} {Q:Exit→Act→World→Prop} (hgd:op.guard=none) (x:Operand) (ho:op.op=.load 40 x) (g off:Nat) (k:List UInt8) (hk:k.length=32)
  (hx:a.eval x=.pointer (some ⟨g,off,none⟩)) (hW:w.rangeAt g off (AH k)) (h:wpList Tryz.prog ops Q rest (a.put op.dst (Ah k)) w):wpList Tryz.prog ops Q (op::rest) a w :=
 wpList_load_mid hgd _ x ho g off hx (AH k) _ hW Tryz.underlying40 rfl (by rw[AP,hk];kernel_rfl) h
theorem AJ {ops:Array Oper} {rest:List Oper} {op:Oper} {a:Act} {w:World} {Q:Exit→Act→World→Prop} (hgd:op.guard=none) (x:Operand) (ho:op.op=.load 43 x) (g off:Nat) (o:Sto.Op) (v:Value) (hk:o.1.length=32)
  (hx:a.eval x=.pointer (some ⟨g,off,none⟩)) (hW:w.rangeAt g off (AG o v)) (h:wpList Tryz.prog ops Q rest (a.put op.dst (.agg (AG o v).toArray)) w):wpList Tryz.prog ops Q (op::rest) a w :=
 wpList_load_mid hgd _ x ho g off hx (AG o v) _ hW Tryz.underlying43 rfl (by rw[Ac hk];kernel_rfl) h
theorem AL {ops:Array Oper} {rest:List Oper} {op:Oper} {a:Act} {w:World} {Q:Exit→Act→World→Prop} (hgd:op.guard=none) (x y:Operand) (ho:op.op=.store 43 x y) (c:Array Value) (hc:c.size=34) (o:Sto.Op) (v:Value) (hk:o.1.length=32) (hv:v.oneCell'=true)
  (hx:a.eval x=.pointer (some ⟨w.heap.size,0,none⟩)) (hy:a.eval y=.agg (AG o v).toArray) (h:wpList Tryz.prog ops Q rest (a.put op.dst undef) (w.alloc (.cells (AG o v).toArray 43))) :
  wpList Tryz.prog ops Q (op::rest) a (w.alloc (.cells c 43)) :=
 wpList_plain hgd λ_ hK=>by
  unfold Oper.wp execOp;simp only[ho,hx,hy,Instr.storeAt,Instr.sureAddr,Sem.run_bind,Sem.run_pure,Result.andThen_ok,run_storeVar_new (P:=Tryz.prog) w 43 c (AG o v).toArray (by rw[List.size_toArray,Ac hk];kernel_rfl) (by rw[hc,List.size_toArray,Ac hk]) (all_oneCell_toArray (BQ hv))];exact hK _ _ h
def LP (own:Nat→Tag) (v:Value) (l:List UInt8):Prop:=∀g o n c,v=.slice (some ⟨g,o,none⟩) n c→l≠[]→own g=.other
def D8 (w:World) (v:Value) (l:Sto.ME):Prop :=
 ∃a cap,v=.slice a l.length cap∧∀(i:Nat) p,l[i]?=some p→p.1.1.length=32∧AZ w p.2 p.1.2.2∧∃g off,a=some ⟨g,off,none⟩∧g<w.heap.size∧w.rangeAt g (off+i*34) (AG p.1 p.2)
theorem D8.form {w:World} {v:Value} {l:Sto.ME} (h:D8 w v l):∃a cap,v=.slice a l.length cap:=by
 obtain⟨a,cap,o,_⟩:=h;exact⟨a,cap,o⟩
theorem D8.at {w:World} {a:Option Addr} {n cap:Nat} {l:Sto.ME} (h:D8 w (.slice a n cap) l) {i:Nat} {p:Sto.Op×Value} (hi:l[i]?=some p) :
  p.1.1.length=32∧AZ w p.2 p.1.2.2∧∃g off,a=some ⟨g,off,none⟩∧g<w.heap.size∧w.rangeAt g (off+i*34) (AG p.1 p.2):=by
 obtain⟨C,o,A,B⟩:=h;simp only[Value.slice.injEq]at A;rw[A.1];exact B i p hi
theorem AW {w w':World} {g off:Nat} {cs:List Value} (h:w.rangeAt g off cs) (he:w'.heap[g]?=w.heap[g]?):w'.rangeAt g off cs:=λj v hj=>by
 rw[World.cell?_of_block he];exact h j v hj
theorem D8.below {w w':World} {v:Value} {l:Sto.ME} (h:D8 w v l) (hb:Below w.heap.size w w'):D8 w' v l:=by
 obtain⟨a,cap,D,G⟩:=h;refine⟨a,cap,D,λi p hi=>?_⟩;obtain⟨E,F,g,o,C,A,B⟩:=G i p hi;exact⟨E,F.below hb,g,o,C,ZT A hb.size,AW B (hb.block g A)⟩
structure LV (w:World) (own:Nat→Tag) (mb:Nat) (l:Sto.ME):Prop where
 map:w.ownsMap Tryz.prog 40 Sto.elemR mb l.length (Sto.datum l)
 mine:own mb=.other
 key:∀p∈l,p.1.1.length=32
 val:∀p∈l,AZ w p.2 p.1.2.2
 free:∀p∈l,LP own p.2 p.1.2.2
open Go.Maps Go.WideMaps
def MV (F F':Nat→Prop) (w w':World):Prop:=w.heap.size≤w'.heap.size∧∀b,b<w.heap.size→F b→F' b∧w'.heap[b]?=w.heap[b]?
theorem MV.refl (F:Nat→Prop) (w:World):MV F F w w:=⟨QM _,λ_ _ h=>⟨h,rfl⟩⟩
theorem MV.trans {F G H:Nat→Prop} {a b c:World} (h:MV F G a b) (g:MV G H b c):MV F H a c :=
 ⟨QQ h.1 g.1,λk hk hf=>by
  obtain⟨B,C⟩:=h.2 k hk hf;obtain⟨o,A⟩:=g.2 k (ZT hk h.1) B;exact⟨o,A.trans C⟩⟩
theorem MV.below {F:Nat→Prop} {w w':World} (h:Below w.heap.size w w'):MV F F w w':=⟨h.size,λb hb hf=>⟨hf,h.block b hb⟩⟩
structure SFr (r:Nat) (own own':Nat→Tag) (w w':World):Prop where
 os:w'.os=w.os
 tape:w'.tape=w.tape
 output:w'.output=w.output
 size:w.heap.size≤w'.heap.size
 tags:∀b,b<w.heap.size→own' b=own b
 block:∀b,b<w.heap.size→own b=.other→b≠r→w'.heap[b]?=w.heap[b]?
theorem SFr.refl (r:Nat) (own:Nat→Tag) (w:World):SFr r own own w w:=⟨rfl,rfl,rfl,QM _,λ_ _=>rfl,λ_ _ _ _=>rfl⟩
theorem SFr.trans {r:Nat} {o1 o2 o3:Nat→Tag} {a b c:World} (h:SFr r o1 o2 a b) (g:SFr r o2 o3 b c):SFr r o1 o3 a c :=
 ⟨g.os.trans h.os,g.tape.trans h.tape,g.output.trans h.output,QQ h.size g.size,λk hk=>(g.tags k (ZT hk h.size)).trans (h.tags k hk),
  λk hk ho hr=>(g.block k (ZT hk h.size) ((h.tags k hk).trans ho) hr).trans (h.block k hk ho hr)⟩
theorem SFr.below {r:Nat} {own:Nat→Tag} {w w':World} (h:Below w.heap.size w w'):SFr r own own w w':=by
 have o:=AB (own:=own) (T:=λ_=>False) h;exact⟨o.os,o.tape,o.output,h.size,λ_ _=>rfl,λb hb _ _=>h.block b hb⟩
theorem SFr.kept {r:Nat} {own own':Nat→Tag} {w w':World} (ho:∀b,b<w.heap.size→own' b=own b) (hk:Kept own (·≠.other) w w'):SFr r own own' w w' :=
 ⟨hk.os,hk.tape,hk.output,hk.size,ho,λb hb h1 _=>hk.block b hb (by rw[h1];simp)⟩
theorem SFr.set {r:Nat} {own:Nat→Tag} (w:World) (i:Nat) (v:Value):SFr r own own w (w.setCell ⟨r,i,none⟩ v):=by
 have o:=(Kept.refl (λ_=>Tag.root) (λ_=>True) w).setCell ⟨r,i,none⟩ trivial v;exact⟨o.os,o.tape,o.output,o.size,λ_ _=>rfl,λb hb _ hne=>Below.heap_setCell _ _ _ b hne⟩
def SF (r:Nat) (own:Nat→Tag):Nat→Prop:=λb=>own b=.other∧b≠r
theorem SFr.mv {r:Nat} {own own':Nat→Tag} {w w':World} (h:SFr r own own' w w'):MV (SF r own) (SF r own') w w' :=
 ⟨h.size,λb hb hf=>⟨⟨(h.tags b hb).trans hf.1,hf.2⟩,h.block b hb hf.1 hf.2⟩⟩
def Ax (w:World) (F:Nat→Prop) (v:Value) (l:List UInt8):Prop:=AZ w v l∧∀p n c,v=.slice (some p) n c→0<l.length→F p.block
theorem Ax.mv {F F':Nat→Prop} {w w':World} {v:Value} {l:List UInt8} (h:Ax w F v l) (m:MV F F' w w'):Ax w' F' v l:=by
 obtain⟨⟨a,cap,rfl,J,H,C⟩,K⟩:=h;have G:∀b o,a=some ⟨b,o,none⟩→b<w.heap.size→0<l.length→F' b∧w'.heap[b]?=w.heap[b]?:=λb o e hlt A=>m.2 b hlt (K ⟨b,o,none⟩ _ _ (by rw[e]) A)
 refine⟨⟨a,cap,rfl,J,H,λi x hi=>?_⟩,λp n c e A=>?_⟩
 ·obtain⟨b,o,e,B,I⟩:=C i x hi;have A:0<l.length:=by have:=(List.getElem?_eq_some_iff.1 hi).1;omega
  exact⟨b,o,e,ZT B m.1,by rw[World.cell?_of_block (G b o e B A).2];exact I⟩
 ·obtain⟨b,o,D,B,_⟩:=C 0 l[0] (ZG A);have E:a=some p:=by simp only[Value.slice.injEq]at e;exact e.1
  have:=(G b o D B A).1;rw[D]at E;rw[← Option.some.inj E];exact this
theorem Ax.any {w:World} {v:Value} {l:List UInt8} (h:AZ w v l):Ax w (λ_=>True) v l:=⟨h,λ_ _ _ _ _=>trivial⟩
theorem AZ.one {w:World} {v:Value} {l:List UInt8} (h:AZ w v l):v.oneCell'=true:=by
 obtain⟨a,c,rfl,_⟩:=h.form;rfl
def Al (w:World) (F:Nat→Prop) (v:Value) (l:Sto.ME):Prop :=
 ∃a cap,v=.slice a l.length cap∧l.length≤cap∧∀(i:Nat) p,l[i]?=some p→p.1.1.length=32∧Ax w F p.2 p.1.2.2∧∃g off,a=some ⟨g,off,none⟩∧g<w.heap.size∧F g∧w.rangeAt g (off+i*34) (AG p.1 p.2)
theorem Al.form {w:World} {F:Nat→Prop} {v:Value} {l:Sto.ME} (h:Al w F v l):∃a cap,v=.slice a l.length cap:=by
 obtain⟨a,cap,o,_⟩:=h;exact⟨a,cap,o⟩
theorem Al.at {w:World} {F:Nat→Prop} {a:Option Addr} {n cap:Nat} {l:Sto.ME} (h:Al w F (.slice a n cap) l) {i:Nat} {p:Sto.Op×Value} (hi:l[i]?=some p) :
  p.1.1.length=32∧Ax w F p.2 p.1.2.2∧∃g off,a=some ⟨g,off,none⟩∧g<w.heap.size∧w.rangeAt g (off+i*34) (AG p.1 p.2):=by
 obtain⟨I,o,A,_,G⟩:=h;simp only[Value.slice.injEq]at A;rw[A.1];obtain⟨D,E,g,off,C,H,_,B⟩:=G i p hi;exact⟨D,E,g,off,C,H,B⟩
theorem Al.mv {F F':Nat→Prop} {w w':World} {v:Value} {l:Sto.ME} (h:Al w F v l) (m:MV F F' w w'):Al w' F' v l:=by
 obtain⟨a,cap,D,I,H⟩:=h;refine⟨a,cap,D,I,λi p hi=>?_⟩;obtain⟨E,G,g,o,C,A,B,K⟩:=H i p hi;obtain⟨L,J⟩:=m.2 g A B;exact⟨E,G.mv m,g,o,C,ZT A m.1,L,AW K J⟩
structure Bh (w:World) (F:Nat→Prop) (mb:Nat) (l:Sto.ME):Prop where
 map:w.ownsMap Tryz.prog 40 Sto.elemR mb l.length (Sto.datum l)
 mine:F mb
 key:∀p∈l,p.1.1.length=32
 val:∀p∈l,Ax w F p.2 p.1.2.2
theorem ownsMap_at {w w':World} {b n:Nat} {D:DataW Value} {k:TypeId} {R:Value→Option (DataW Value×List MemPlace)} (h:w.ownsMap Tryz.prog k R b n D) (he:w'.heap[b]?=w.heap[b]?):w'.ownsMap Tryz.prog k R b n D:=by
 obtain⟨A,o,B,r⟩:=h;exact⟨A,o,by rw[he];exact B,r⟩
theorem Bh.mv {F F':Nat→Prop} {w w':World} {mb:Nat} {l:Sto.ME} (h:Bh w F mb l) (m:MV F F' w w'):Bh w' F' mb l:=by
 obtain⟨A,o⟩:=m.2 mb h.map.lt h.mine;exact⟨ownsMap_at h.map o,A,h.key,λp hp=>(h.val p hp).mv m⟩
def CB (w:World) (F:Nat→Prop) (v:Value) (l:List Int):Prop:=Dq w v l∧∀p n c,v=.slice (some p) n c→0<l.length→F p.block
def AF (ver:Int) (sv:Value) (mb B:Nat) (dead:Bool):Array Value:=#[.int .i64 ver,sv,.map (some mb),.pointer (some ⟨B,0,none⟩),.bool dead]
structure An (w:World) (own:Nat→Tag) (B r:Nat) (s:Sto.St) (mb:Nat) (sv:Value) (l:Sto.ME):Prop where
 root:w.heap[r]?=some (.cells (AF s.ver sv mb B s.dead) 51 (0,0))
 mine:own r=.other
 segs:CB w (SF r own) sv s.segs
 ents:Bh w (SF r own) mb l
 is:l.map (·.1)=s.E
 srt:Sto.Srt s.E
open Go.Maps Go.WideMaps
namespace Sto
theorem IX (o:Op) (r:List Op):mass (o::r)=35+o.2.2.length+mass r:=by
 unfold mass;rw[List.map_cons,List.sum_cons]
theorem D4 (a b:List Op):mass (a++b)=mass a+mass b:=by
 unfold mass;rw[List.map_append,List.sum_append]
theorem mass_take {l:List Op} {j:Nat} {o:Op} (h:l[j]?=some o):mass (l.take (j+1))=mass (l.take j)+(35+o.2.2.length):=by
 rw[List.take_add_one,h,D4];rfl
theorem mass_le (l:List Op) (j:Nat):mass (l.take j)≤mass l:=by
 have:=D4 (l.take j) (l.drop j);rw[List.take_append_drop]at this;omega
def opsOf (l:ME):List Op:=l.map (·.1)
theorem opsOf_len (l:ME):(opsOf l).length=l.length:=by unfold opsOf;rw[QV]
theorem opsOf_get {l:ME} {i:Nat} {p:Op×Value} (h:l[i]?=some p):(opsOf l)[i]?=some p.1:=by unfold opsOf;rw[List.getElem?_map,h];rfl
theorem any_drop {l:List Op} {j:Nat} {o:Op} (h:l[j]?=some o):(l.drop j).any badK=(badK o||(l.drop (j+1)).any badK):=by
 obtain⟨A,rfl⟩:=List.getElem?_eq_some_iff.1 h;rw[ZB A,List.any_cons]
end Sto
theorem Ct (v:Value) (l:Sto.ME) (w:World) (F:Nat→Prop) (h:Al w F v l) (hl:l.length≤1000000000) (hb:∀p∈l,p.1.2.2.length≤1000000000000) :
  Calls Tryz.prog 30 #[v] w λe w'=>e=.returned (.int .i64 (Sto.chk (Sto.opsOf l)))∧Below w.heap.size w w':=by
 obtain⟨va,vc,rfl⟩:=h.form;have H:=QA h;clear h;have aq:=Sto.opsOf_len l;go_enter Tryz.func30,Tryz.ntmps30;by_cases h64:64<l.length
 ·have Z:(64:Int)<(l.length:Int):=by omega
  go_wp2_with fail;go_ret;refine⟨?_,Below.refl _ _⟩;unfold Sto.chk;rw[if_pos (by omega)];rfl
 ·have Z:(l.length:Int)≤64:=by omega
  go_wp2_with fail
  go_loopg [13] l.length (λk s13 wr=>∃j:Nat,j≤l.length∧k=l.length-j∧s13=.int .i64 (j:Nat)∧Below w.heap.size w wr∧((Sto.opsOf l).drop j).any Sto.badK=(Sto.opsOf l).any Sto.badK)
  case atStart=>exact⟨0,ZS _,rfl,rfl,Below.refl _ _,rfl⟩
  case round =>
   obtain⟨j,hj,hk,rfl,hB,T⟩:=hrel;have HK:=QA hk;have HB:=QA hB;have Q:=QA T;clear hk hB T;have aA:(0:Int)≤(j:Int):=Int.natCast_nonneg _;by_cases hjn:j<l.length
   ·have ac:(j:Int)<(l.length:Int):=by omega
    obtain⟨⟨o,pv⟩,V⟩:∃p,l[j]?=some p:=⟨_,ZG hjn⟩
    obtain⟨B,O,g,L,rfl,hg,D⟩:=(H.out.mv (MV.below HB.out)).at V;have J:=O.1;have I:=QA (Sto.any_drop (Sto.opsOf_get V));obtain⟨E,G,R,al⟩:=J.form;simp only at R B J D I;subst R;have M:=Ad.new wr o (.slice E o.2.2.length G);have ay:=M.cell (Au B _);have aj:=M.cell (Ae B _);have ak:=QA M;have K:=QA J;have A:=QA B;clear M J B V O;have P:Sto.badK o=true→Sto.chk (Sto.opsOf l)=1:=λhb=>by
     unfold Sto.chk;rw[if_neg (by omega),if_pos (by rw[← Q.out,I.out,hb];rfl)]
    have ag:Sto.badK o=false→((Sto.opsOf l).drop (j+1)).any Sto.badK=(Sto.opsOf l).any Sto.badK:=λhb=>by rw[← Q.out,I.out,hb];rfl
    have N:=QA P;have W:=QA ag;clear P ag;have C:Hid (Below w.heap.size w (wr.alloc (.cells (AG o (.slice E o.2.2.length G)).toArray 43))):=QA (HB.out.alloc HB.out.size _);by_cases hk1:o.2.1<0
    ·go_wp2_with (first|(guard_target=wpList _ _ _ ({ dst:=_,op:=.load 43 _,type:=_,pos:=_,after:=_,guard:=none }::_) _ _;refine AJ rfl _ rfl g (L+j*34) o (.slice E o.2.2.length G) A.out rfl D ?_)|(guard_target=wpList _ _ _ ({ dst:=_,op:=.store 43 _ _,type:=_,pos:=_,after:=_,guard:=none }::_) _ _;refine AL rfl _ _ rfl _ rfl o (.slice E o.2.2.length G) A.out K.out.one rfl rfl ?_)|fail);refine bodyPost_ret (v:=.int .i64 1) (by simp[results,Tryz.results30,go_sem]) rfl ?_;exact⟨by rw[N.out (by unfold Sto.badK;simp[hk1])],C.out⟩
    ·have ap:0≤o.2.1:=by omega
     by_cases hk2:9<o.2.1
     ·go_wp2_with (first|(guard_target=wpList _ _ _ ({ dst:=_,op:=.load 43 _,type:=_,pos:=_,after:=_,guard:=none }::_) _ _;refine AJ rfl _ rfl g (L+j*34) o (.slice E o.2.2.length G) A.out rfl D ?_)|(guard_target=wpList _ _ _ ({ dst:=_,op:=.store 43 _ _,type:=_,pos:=_,after:=_,guard:=none }::_) _ _;refine AL rfl _ _ rfl _ rfl o (.slice E o.2.2.length G) A.out K.out.one rfl rfl ?_)|fail);refine bodyPost_ret (v:=.int .i64 1) (by simp[results,Tryz.results30,go_sem]) rfl ?_;exact⟨by rw[N.out (by unfold Sto.badK;simp[hk2])],C.out⟩
     ·have av:o.2.1≤9:=by omega
      by_cases hk3:o.2.1=0
      ·have ah:(o.2.1==0)=true:=by simpa using hk3
       by_cases hk4:0<o.2.2.length
       ·have af:(0:Int)<(o.2.2.length:Int):=by omega
        go_wp2_with (first|(guard_target=wpList _ _ _ ({ dst:=_,op:=.load 43 _,type:=_,pos:=_,after:=_,guard:=none }::_) _ _;refine AJ rfl _ rfl g (L+j*34) o (.slice E o.2.2.length G) A.out rfl D ?_)|(guard_target=wpList _ _ _ ({ dst:=_,op:=.store 43 _ _,type:=_,pos:=_,after:=_,guard:=none }::_) _ _;refine AL rfl _ _ rfl _ rfl o (.slice E o.2.2.length G) A.out K.out.one rfl rfl ?_)|fail);refine bodyPost_ret (v:=.int .i64 1) (by simp[results,Tryz.results30,go_sem]) rfl ?_;exact⟨by rw[N.out (by unfold Sto.badK;simp[hk3,hk4])],C.out⟩
       ·have af:(o.2.2.length:Int)≤0:=by omega
        go_wp2_with (first|(guard_target=wpList _ _ _ ({ dst:=_,op:=.load 43 _,type:=_,pos:=_,after:=_,guard:=none }::_) _ _;refine AJ rfl _ rfl g (L+j*34) o (.slice E o.2.2.length G) A.out rfl D ?_)|(guard_target=wpList _ _ _ ({ dst:=_,op:=.store 43 _ _,type:=_,pos:=_,after:=_,guard:=none }::_) _ _;refine AL rfl _ _ rfl _ rfl o (.slice E o.2.2.length G) A.out K.out.one rfl rfl ?_)|fail);go_roundg (l.length-(j+1))
        case measure=>rw[HK.out];omega
        case rel=>exact⟨j+1,by omega,rfl,by simp,C.out,W.out (by unfold Sto.badK;simp only[Bool.or_eq_false_iff,Bool.and_eq_false_iff,decide_eq_false_iff_not];omega)⟩
      ·have ah:(o.2.1==0)=false:=by simpa using hk3
       go_wp2_with (first|(guard_target=wpList _ _ _ ({ dst:=_,op:=.load 43 _,type:=_,pos:=_,after:=_,guard:=none }::_) _ _;refine AJ rfl _ rfl g (L+j*34) o (.slice E o.2.2.length G) A.out rfl D ?_)|(guard_target=wpList _ _ _ ({ dst:=_,op:=.store 43 _ _,type:=_,pos:=_,after:=_,guard:=none }::_) _ _;refine AL rfl _ _ rfl _ rfl o (.slice E o.2.2.length G) A.out K.out.one rfl rfl ?_)|fail);go_roundg (l.length-(j+1))
       case measure=>rw[HK.out];omega
       case rel=>exact⟨j+1,by omega,rfl,by simp,C.out,W.out (by unfold Sto.badK;simp only[Bool.or_eq_false_iff,Bool.and_eq_false_iff,decide_eq_false_iff_not];omega)⟩
   ·have ac:(l.length:Int)≤(j:Int):=by omega
    have Y:Hid ((Sto.opsOf l).any Sto.badK=false):=by
     rw[← Q.out,List.drop_eq_nil_of_le (by omega)];exact QA rfl
    go_wp2_with fail
    go_loopg [3,39] l.length (λk s3 s39 wq=>∃i:Nat,i≤l.length∧k=l.length-i∧s39=.int .i64 (i:Nat)∧s3=.int .i64 (Sto.mass ((Sto.opsOf l).take i):Nat)∧Sto.mass ((Sto.opsOf l).take i)≤8192∧Below w.heap.size w wq)
    case atStart=>exact⟨0,ZS _,rfl,rfl,rfl,ZS _,HB.out⟩
    case round =>
     obtain⟨i,hi,hk,rfl,rfl,hm,X⟩:=hrel;have an:=QA hk;have S:=QA X;clear hk X;have ax:(0:Int)≤(i:Int):=Int.natCast_nonneg _;by_cases hin:i<l.length
     ·have ab:(i:Int)<(l.length:Int):=by omega
      obtain⟨⟨o,pv⟩,V⟩:∃p,l[i]?=some p:=⟨_,ZG hin⟩
      obtain⟨B,O,g,L,rfl,hg,D⟩:=(H.out.mv (MV.below S.out)).at V;have J:=O.1;have I:=QA (Sto.mass_take (Sto.opsOf_get V));have ae:=Sto.mass_le (Sto.opsOf l) (i+1);obtain⟨E,G,R,al⟩:=J.form;simp only at R B J D I;rw[I.out]at ae;subst R;have M:=Ad.new wr o (.slice E o.2.2.length G);have aj:=M.cell (Ae B _);have ak:=QA M;have K:=QA J;have A:=QA B;clear M J B V O;obtain⟨m,U⟩:∃m,Sto.mass ((Sto.opsOf l).take i)=m:=⟨_,rfl⟩
      rw[U]at I ae hm ⊢;have az:=QA U;clear U;have C:Hid (Below w.heap.size w (wr.alloc (.cells (AG o (.slice E o.2.2.length G)).toArray 43))):=QA (S.out.alloc S.out.size _);by_cases hbig:8157-(m:Int)<(o.2.2.length:Int)
      ·go_wp2_with (first|(guard_target=wpList _ _ _ ({ dst:=_,op:=.load 43 _,type:=_,pos:=_,after:=_,guard:=none }::_) _ _;refine AJ rfl _ rfl g (L+i*34) o (.slice E o.2.2.length G) A.out rfl D ?_)|(guard_target=wpList _ _ _ ({ dst:=_,op:=.store 43 _ _,type:=_,pos:=_,after:=_,guard:=none }::_) _ _;refine AL rfl _ _ rfl _ rfl o (.slice E o.2.2.length G) A.out K.out.one rfl rfl ?_)|fail);refine bodyPost_ret (v:=.int .i64 5) (by simp[results,Tryz.results30,go_sem]) rfl ?_;refine⟨?_,C.out⟩;unfold Sto.chk;rw[if_neg (by omega),if_neg (by rw[Y.out];simp),if_pos (by omega)]
      ·have am:(o.2.2.length:Int)≤8157-(m:Int):=by omega
       go_wp2_with (first|(guard_target=wpList _ _ _ ({ dst:=_,op:=.load 43 _,type:=_,pos:=_,after:=_,guard:=none }::_) _ _;refine AJ rfl _ rfl g (L+i*34) o (.slice E o.2.2.length G) A.out rfl D ?_)|(guard_target=wpList _ _ _ ({ dst:=_,op:=.store 43 _ _,type:=_,pos:=_,after:=_,guard:=none }::_) _ _;refine AL rfl _ _ rfl _ rfl o (.slice E o.2.2.length G) A.out K.out.one rfl rfl ?_)|fail);go_roundg (l.length-(i+1))
       case measure=>rw[an.out];omega
       case rel=>exact⟨i+1,by omega,rfl,by simp,by rw[I.out];try (congr 1;try omega),by rw[I.out];omega,C.out⟩
     ·have ab:(l.length:Int)≤(i:Int):=by omega
      go_wp2_with fail;refine bodyPost_ret (v:=.int .i64 0) (by simp[results,Tryz.results30,go_sem]) rfl ?_;refine⟨?_,S.out⟩;have ad:(Sto.opsOf l).take i=Sto.opsOf l:=List.take_of_length_le (by omega);rw[ad]at hm;unfold Sto.chk;rw[if_neg (by omega),if_neg (by rw[Y.out];simp),if_neg (by omega)]
end Go.Proofs.YtjldahcckmmenaaGreatDoor
