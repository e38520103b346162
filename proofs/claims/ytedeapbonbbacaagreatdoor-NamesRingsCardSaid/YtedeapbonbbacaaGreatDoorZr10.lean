/-
  slices.Compact at problems, walked. Problems in order (coerce.Sorted), walked. DERIVED: THE SHELF's CONTRACTS AT THIS DUMP, IN PLAIN WORDS (tools/lay-plain.mjs out of 'TryzShelf.lean', which tools/lay-shelf.mjs wrote): THE SAME DECLARATIONS UNDER THE SAME NAMES: 'import', 'namespace', 'open', 'def', 'theorem' AND NOTHING ELSE: no command of the shelf's: FOR A HAND-IN. Each laying: the table of numbers ('.._ren') and one theorem, a field a fact of the dump's own or the kernel's comparison; each contract: ONE APPLICATION.
-/
import Derived.Test.YtedeapbonbbacaaGreatDoorZr9
import Derived.Shelf.Strings.Builder1
import Derived.Shelf.Strings.Builder2
import Derived.Shelf.Strings.OnBuilder
import Derived.Shelf.Strings.Trim
import Derived.Shelf.Small.Utf8
import Derived.Shelf.Small.Bits
import Derived.Shelf.Small.Strs
import Derived.Shelf.Small.Wraps
import Derived.Shelf.Strings.BuilderF
import Derived.Shelf.Strings.BuilderK
import Derived.Shelf.Strings.BuilderRune
import Derived.Shelf.Utf8.AppendRune
import Derived.Shelf.Utf8.AppendRunePlain
import Derived.Shelf.Utf8.RuneCount
import Derived.Shelf.Strings.Builder2Cap
import Derived.Shelf.Strconv.Itoa0
import Derived.Shelf.Strings.Search1
import Derived.Shelf.Strings.Search2
import Derived.Shelf.Strings.Search3
import Derived.Shelf.Strings.Count
import Derived.Shelf.LaysM
import Derived.Shelf.Strings.Shaped
import Derived.Shelf.Strings.Prefix
import Derived.Shelf.Strings.Split
import Derived.Shelf.Strings.Replace
import Derived.Shelf.Strings.SplitShaped
import Derived.Shelf.Unicode.Decode
import Derived.Shelf.Strings.Runes
import Derived.Shelf.Strings.RuneCount
import Derived.Shelf.Strings.AsciiSet
import Derived.Shelf.Strings.Explode
import Derived.Shelf.Unicode.DecodeSlow
import Derived.Shelf.Unicode.DecodeAny
import Derived.Shelf.Strings.BuilderCap
import Derived.Shelf.Slices.Turned
import Derived.Ground.SlgmProg
import Derived.Shelf.SortM.Plain
import Derived.Shelf.SortM.SortNone
import Derived.Test.YtedeapbonbbacaaGreatDoorProg
open Go.Lib renaming hid → QA
open List renaming drop_succ_cons → QE, take_succ_cons → QF, drop_zero → QL, take_zero → QN, getElem?_eq_getElem → ZH
open Nat renaming reduceAdd → QW
namespace Go.Proofs.YtedeapbonbbacaaGreatDoor
set_option maxRecDepth 100000
set_option maxHeartbeats 4000000
set_option linter.unusedSimpArgs false
set_option linter.unusedVariables false
open Go Go.RowKit
open Go.Maps Go.WideMaps
theorem Bc.cut {w:World} {g cap:Nat} {d:List Cp.Pb} (h:Bc w g cap d) (k:Nat) (hk:k≤d.length) (vs:List Value):Bc (w.setCells g (k*2) vs) g cap (d.take k):=by
 obtain⟨A,C,E,B⟩:=(h.take k hk).row;obtain⟨o,g1,g2,D,_⟩:=Bw g 42 (0,0) vs (k*2) w A C;have F:(d.take k).length=k:=by rw[List.length_take];omega
 refine⟨⟨o,g1,by rw[g2,E],?_⟩,(h.take k hk).le⟩;rw[← B];apply List.ext_getElem?;intro j;rw[List.getElem?_take,List.getElem?_take,F];split
 ·rename_i hj;have:=D j hj
  simpa using this
 ·rfl
theorem Below.setc {base:Nat} {a w:World} (h:Below base a w) (p:Addr) (hp:base≤p.block) (v:Value):Below base a (w.setCell p v) :=
 h.trans ⟨rfl,rfl,rfl,by simp[World.setCell],λj hj=>Below.heap_setCell _ _ _ _ (by omega)⟩
theorem Fg (v:Value) (l:List Cp.Pb) (w:World) (base:Nat) (ho:Ab w base v l) (hbw:base≤w.heap.size) (hl:l.length≤1000000) :
  Calls Tryz.prog 40 #[v] w λe w'=>∃v',e=.returned v'∧Ab w' base v' (Cp.comp l)∧Below base w w':=by
 by_cases h2:l.length<2
 ·have X:Cp.comp l=l:=match l,h2 with
   | [],_=>rfl
   | [_],_=>rfl
   | _::_::_,h=>absurd h (by simp)
  rw[X];obtain⟨a,n,c,rfl,HN⟩:=ho.form;have h3:(n:Int)<2:=by have:=HN.out;omega
  have HO:=QA ho;clear ho X;go_enter Tryz.func40,Tryz.ntmps40;go_wp2_with fail;go_ret;exact⟨_,rfl,HO.out,Below.refl _ _⟩
 rcases ho.2 with⟨h4,h5⟩|⟨g,cap,L,hv,hg,hb,X,W,hs,ht⟩
 ·exact absurd h5 (by omega)
 subst hv;have HR:=QA ho.row;have bf:g<w.heap.size:=block_lt hb;have aP:=X;have S:=QA hg;have HM:=QA W;have e2:decide ((l.length:Int)<2)=false:=decide_eq_false (by omega);have a5:=QA hbw;clear ho hb X hs ht L W hbw;obtain⟨o,J⟩:∃o:Nat,o=0:=⟨_,rfl⟩
 rw[← J];have B:=QA J;clear J;go_enter Tryz.func40,Tryz.ntmps40;go_wp2_with fail
 go_loopg [3] l.length (λm s3 wr=>∃k n:Nat,1≤k∧k≤l.length∧m=l.length+1-k∧s3=.int .i64 (k:Nat)∧wr=w.drewN n∧∀(i:Nat) a b,i+1<k→l[i]?=some a→l[i+1]?=some b→a≠b)
 case atStart=>exact⟨1,0,Nat.le_refl _,by omega,rfl,rfl,rfl,λi a b h=>by omega⟩
 case round =>
  obtain⟨k,n,a8,hk,W,rfl,au,O⟩:=hrel;subst au;have HK:=QA W;have HD:=QA O;clear W O;have a2:(0:Int)≤(k:Int):=Int.natCast_nonneg _;by_cases hlt:k<l.length
  ·have R:(k:Int)<(l.length:Int):=by omega
   obtain⟨q,hq⟩:∃q,k=q+1:=⟨k-1,by omega⟩
   obtain⟨x,hx⟩:∃x,l[k]?=some x:=⟨_,ZH hlt⟩
   obtain⟨y,hy⟩:∃y,l[k-1]?=some y:=⟨_,ZH (by omega)⟩
   obtain⟨c0,c1⟩:=HR.out.at hx;obtain⟨d0,d1⟩:=HR.out.at hy;obtain⟨x1,x2⟩:=x;obtain⟨y1,y2⟩:=y
   dsimp only at c0 c1 d0 d1
   have C0:∀m,(w.drewN m).cell? ⟨g,o+k*2,none⟩=some (.int .i64 x1):=λ_=>by rw[B.out,Nat.zero_add];exact c0
   have C1:∀m,(w.drewN m).cell? ⟨g,o+k*2+1,none⟩=some (.int .i64 x2):=λ_=>by rw[B.out,Nat.zero_add];exact c1
   have D0:∀m,(w.drewN m).cell? ⟨g,o+(k-1)*2,none⟩=some (.int .i64 y1):=λ_=>by rw[B.out,Nat.zero_add];exact d0
   have D1:∀m,(w.drewN m).cell? ⟨g,o+(k-1)*2+1,none⟩=some (.int .i64 y2):=λ_=>by rw[B.out,Nat.zero_add];exact d1
   have HQ:=QA hq;have HX:=QA hx;have HY:=QA hy;clear c0 c1 d0 d1 hq hx hy;by_cases he:((x1,x2):Cp.Pb)=(y1,y2)
   ·have ad:=Cp.eqb_true he;have HE:=QA he;clear he;go_wp2_with fail;refine AO [] (by kernel_rfl) (by kernel_rfl) ?_;simp only[BM,QF,QN,QE,QL,Nat.sub_zero,Nat.reduceSub,QW]
    repeat (go_big_quiet_step (fail))
    refine wpQuiet_nil ?_;rintro _ ⟨nq,rfl⟩;clear C0 C1 D0 D1;have aE:Hid (Bc (w.drewN (n+nq)) g cap l):=QA (HR.out.heap rfl);have az:Hid (Cp.CI l (k+1) k l):=by
     obtain rfl:=HQ.out;refine QA (Cp.CI.start HX.out (by rw[HE.out];exact HY.out) (λi a b hi ha hb=>HD.out i a b hi ha hb))
    go_wp2_with fail
    go_loopg [3,5] l.length (λm s3 s5 wq=>∃(C A:Nat) (d:List Cp.Pb),s3=.int .i64 (C:Nat)∧s5=.int .i64 (A:Nat)∧1≤A∧k+A≤l.length∧m=l.length+1-A∧Cp.CI l (k+A) C d∧Bc wq g cap d∧Below base w wq)
    case atStart=>exact⟨k,1,l,rfl,rfl,Nat.le_refl _,by omega,rfl,az.out,aE.out,Below.drewN (Below.refl _ _) _⟩
    case round =>
     obtain⟨C,A,d,rfl,rfl,h1,bh,Y,hI,D,hB⟩:=hrel;have aa:=QA Y;have bb:=hI.le;have af:=hI.len;have HI:=QA hI;have G:=QA D;have F:=QA af;clear Y hI af;have aX:(0:Int)≤(C:Int):=Int.natCast_nonneg _;have aM:(0:Int)≤(A:Int):=Int.natCast_nonneg _;by_cases hlt2:k+A<l.length
     ·have Q:(A:Int)<((l.length-k:Nat):Int):=by omega
      obtain⟨u,hu⟩:∃u,l[k+A]?=some u:=⟨_,ZH hlt2⟩
      obtain⟨z,hz⟩:∃z,l[k+A-1]?=some z:=⟨_,ZH (by omega)⟩
      obtain⟨t,ht⟩:∃t,d[C]?=some t:=⟨_,ZH (by rw[F.out];omega)⟩
      have ac:=(HI.out.rest (k+A) (by omega)).trans hu;have U:=(HI.out.rest (k+A-1) (by omega)).trans hz;obtain⟨a0,a1⟩:=D.at ac;obtain⟨b0,b1⟩:=D.at U;obtain⟨t0,t1⟩:=D.at ht;have f0:=D.frozen (C*2);have f1:=D.frozen (C*2+1);obtain⟨u1,u2⟩:=u;obtain⟨z1,z2⟩:=z;obtain⟨v1,v2⟩:=t
      dsimp only at a0 a1 b0 b1 t0 t1
      have A0:∀m,(wr.drewN m).cell? ⟨g,o+k*2+A*2,none⟩=some (.int .i64 u1):=λ_=>by rw[B.out,show 0+k*2+A*2=(k+A)*2 by omega];exact a0
      have A1:∀m,(wr.drewN m).cell? ⟨g,o+k*2+A*2+1,none⟩=some (.int .i64 u2):=λ_=>by rw[B.out,show 0+k*2+A*2=(k+A)*2 by omega];exact a1
      have B0:∀m,(wr.drewN m).cell? ⟨g,o+k*2+(A-1)*2,none⟩=some (.int .i64 z1):=λ_=>by rw[B.out,show 0+k*2+(A-1)*2=(k+A-1)*2 by omega];exact b0
      have B1:∀m,(wr.drewN m).cell? ⟨g,o+k*2+(A-1)*2+1,none⟩=some (.int .i64 z2):=λ_=>by rw[B.out,show 0+k*2+(A-1)*2=(k+A-1)*2 by omega];exact b1
      have T0:∀m,(wr.drewN m).cell? ⟨g,o+C*2,none⟩=some (.int .i64 v1):=λ_=>by rw[B.out,Nat.zero_add];exact t0
      have T1:∀m,(wr.drewN m).cell? ⟨g,o+C*2+1,none⟩=some (.int .i64 v2):=λ_=>by rw[B.out,Nat.zero_add];exact t1
      have F0:∀m,(wr.drewN m).frozen? ⟨g,o+C*2,none⟩=false:=λ_=>by rw[B.out,Nat.zero_add];exact f0
      have F1:∀m,(wr.drewN m).frozen? ⟨g,o+C*2+1,none⟩=false:=λ_=>by rw[B.out,Nat.zero_add];exact f1
      obtain⟨j,hj⟩:∃j,k+A=j+1:=⟨k+A-1,by omega⟩
      have HJ:=QA hj;have HU:=QA hu;have HZ:=QA hz;clear a0 a1 b0 b1 t0 t1 f0 f1 hj hu hz ac U ht D;by_cases huz:((u1,u2):Cp.Pb)=(z1,z2)
      ·have M:=Cp.eqb_true huz;have N:=QA huz;clear huz;go_wp2_with fail;refine AO [] (by kernel_rfl) (by kernel_rfl) ?_;simp only[BM,QF,QN,QE,QL,Nat.sub_zero,Nat.reduceSub,QW]
       repeat (go_big_quiet_step (fail))
       refine wpQuiet_nil ?_;rintro _ ⟨nq,rfl⟩;go_wp2_with fail;go_roundg (l.length+1-(A+1))
       case measure=>rw[aa.out];omega
       case rel =>
        refine⟨C,A+1,d,rfl,by simp,by omega,by omega,rfl,?_,G.out.heap rfl,Below.drewN hB _⟩;have E:=HI.out;have P:=HU.out;have T:=HZ.out;rw[show k+(A+1)=k+A+1 by omega];rw[HJ.out]at E P ⊢;rw[show k+A-1=j by have:=HJ.out;omega]at T;exact E.skip P (by rw[N.out];exact T)
      ·have M:=Cp.eqb_false huz;have N:=QA huz;clear huz;go_wp2_with fail;refine AO [] (by kernel_rfl) (by kernel_rfl) ?_;simp only[BM,QF,QN,QE,QL,Nat.sub_zero,Nat.reduceSub,QW]
       repeat (go_big_quiet_step (fail))
       refine wpQuiet_nil ?_;rintro _ ⟨nq,rfl⟩;go_wp2_with fail;go_roundg (l.length+1-(A+1))
       case measure=>rw[aa.out];omega
       case rel =>
        refine⟨C+1,A+1,d.set C (u1,u2),by simp,by simp,by omega,by omega,rfl,?_,?_,?_⟩
        ·have E:=HI.out;have P:=HU.out;have T:=HZ.out;rw[show k+(A+1)=k+A+1 by omega];rw[HJ.out]at E P ⊢;rw[show k+A-1=j by have:=HJ.out;omega]at T;exact E.keep P T N.out
        ·rw[B.out,Nat.zero_add];exact Bc.set (i:=C) (w:=wr.drewN _) (G.out.heap rfl) (by rw[F.out];omega) (u1,u2)
        ·exact Below.setc (Below.setc (Below.drewN hB _) _ S.out _) _ S.out _
     ·have H:k+A=l.length:=by omega
      have Q:((l.length-k:Nat):Int)≤(A:Int):=by omega
      have aG:C<l.length:=by omega
      have aT:(C:Int)≤(l.length:Int):=by omega
      have aZ:∀ty,(Builtin.clear_ #[40] ty #[.slice (some ⟨g,o+C*2,none⟩) (l.length-C) (cap-C)]).run Tryz.prog wr=.ok (.tuple #[]) (wr.setCells g (o+C*2) (List.replicate ((l.length-C)*2) (.int .i64 0))) :=
       λty=>FO wr ty g (o+C*2) _ _ (by omega) (λj hj=>by rw[B.out,Nat.zero_add];exact D.there (by omega)) (λj hj=>D.frozen _)
      have ae:=QA H;have V:=QA aG;clear D H;go_wp2_with fail;go_ret;have E:=HI.out;rw[ae.out]at E;have K:=E.kept;rw[List.take_length]at K;have Z:(Cp.comp l).length=C:=by rw[← K,List.length_take,F.out];have:=V.out;omega
      have I:=(G.out.cut C (by rw[F.out];have:=V.out;omega) (List.replicate ((l.length-C)*2) (.int .i64 0)))
      rw[K]at I;refine⟨.slice (some ⟨g,o,none⟩) C cap,rfl,?_,?_⟩
      ·rw[B.out,Nat.zero_add];have h9:=I.own S.out HM.out;rw[Z]at h9;exact h9
      ·obtain⟨L,g1,_⟩:=G.out.row;obtain⟨_,_,_,_,h9⟩:=Bw g 42 (0,0) (List.replicate ((l.length-C)*2) (.int .i64 0)) (o+C*2) wr L g1;exact hB.trans (h9 base S.out)
   ·have ad:=Cp.eqb_false he;have HE:=QA he;clear he;go_wp2_with fail;refine AO [] (by kernel_rfl) (by kernel_rfl) ?_;simp only[BM,QF,QN,QE,QL,Nat.sub_zero,Nat.reduceSub,QW]
    repeat (go_big_quiet_step (fail))
    refine wpQuiet_nil ?_;rintro _ ⟨nq,rfl⟩;go_wp2_with fail;go_roundg (l.length+1-(k+1))
    case measure=>rw[HK.out];omega
    case rel =>
     refine⟨k+1,_,by omega,by omega,rfl,by simp,rfl,λi a b hi ha hb=>?_⟩;rcases Nat.lt_or_ge (i+1) k with h3|h3
     ·exact HD.out i a b h3 ha hb
     ·obtain rfl:i=k-1:=by omega
      rw[HY.out]at ha;rw[show k-1+1=k by omega,HX.out]at hb;cases ha;cases hb;exact λe=>HE.out e.symm
  ·have R:(l.length:Int)≤(k:Int):=by omega
   have HC:Hid (Cp.comp l=l):=QA (Cp.comp_same l λi a b ha hb=>by
    have:=(List.getElem?_eq_some_iff.1 hb).1;exact HD.out i a b (by omega) ha hb)
   go_wp2_with fail;go_ret;refine⟨_,rfl,?_,Below.drewN (Below.refl _ _) _⟩;rw[HC.out,B.out];exact (HR.out.heap rfl).own S.out HM.out
open Go.Maps Go.WideMaps
def BU (w:World) (base:Nat) (v:Value) (l:List Cp.Pb):Prop :=
 (v=.slice none 0 0∧l=[])∨∃g cap c,v=.slice (some ⟨g,0,none⟩) l.length c∧base≤g∧g<w.heap.size∧Bc w g cap l
section
variable {w w' : World} {base : Nat} {v : Value} {l : List Cp.Pb}
theorem BU.form (h:BU w base v l):∃a n c,v=.slice a n c∧Hid (n=l.length):=by
 rcases h with⟨h1,h2⟩|⟨g,cap,c,h1,_⟩
 ·exact⟨none,0,0,h1,QA (by rw[h2];rfl)⟩
 ·exact⟨_,_,_,h1,QA rfl⟩
theorem DG {P:Nat→Prop} {g:Nat} (hP:P g) (hg:g<w.heap.size):∀(l:List Cp.Pb) (i:Nat),(∀(j:Nat) p,l[j]?=some p→w.cell? ⟨g,(i+j)*2,none⟩=some (.int .i64 p.1)∧w.cell? ⟨g,(i+j)*2+1,none⟩=some (.int .i64 p.2)) →
  A5 w P 2 (some ⟨g,0,none⟩) i (l.map Cp.d)
 | [],_,_=>.nil
 | p::r,i,h=>by
  have o:=h 0 p rfl;rw[Nat.add_zero]at o;have A:Reads w P (Cp.d p) [.int .i64 p.1,.int .i64 p.2]:=.obj (.cons (.int _) (.cons (.int _) .nil));refine .cons rfl hP hg rfl (λj v hv=>?_) A (DG hP hg r (i+1) λj q hq=>?_)
  ·rw[Nat.zero_add]
   match j,hv with
   | 0,hv=>simp at hv;subst hv;exact o.1
   | 1,hv=>simp at hv;subst hv;exact o.2
   | j+2,hv=>simp at hv
  ·have:=h (j+1) q hq;rw[show i+1+j=i+(j+1) by omega];exact this
theorem BU.pbs (h:BU w base v l):Pbs w (λg=>v.ownBlock=some g) v l:=by
 rcases h with⟨h1,h2⟩|⟨g,cap,c,h1,hg,hgs,hr⟩
 ·subst h1 h2;exact .seq .nil
 ·subst h1;unfold Pbs;have A:A5 w (λx=>(Value.slice (some ⟨g,0,none⟩) l.length c).ownBlock=some x) 2 (some ⟨g,0,none⟩) 0 (l.map Cp.d) :=
   DG (P:=λx=>(Value.slice (some ⟨g,0,none⟩) l.length c).ownBlock=some x) rfl hgs l 0 (λj p hp=>by rw[Nat.zero_add];exact hr.at hp)
  have o:Reads w (λx=>(Value.slice (some ⟨g,0,none⟩) l.length c).ownBlock=some x) (.seq 2 (l.map Cp.d)) [.slice (some ⟨g,0,none⟩) (l.map Cp.d).length c]:=.seq A
  rwa [List.length_map]at o
theorem BU.heap (h:BU w base v l) (hs:w.heap.size≤w'.heap.size) (he:∀g,v.ownBlock=some g→w'.heap[g]?=w.heap[g]?):BU w' base v l:=by
 rcases h with h1|⟨g,cap,c,h1,hg,hgs,hr⟩
 ·exact .inl h1
 ·exact .inr ⟨g,cap,c,h1,hg,by omega,hr.heap (he g (by rw[h1];rfl))⟩
theorem BU.lt (h:BU w base v l):∀g,v.ownBlock=some g→base≤g∧g<w.heap.size:=by
 intro g hg;rcases h with⟨h1,h2⟩|⟨g',cap,c,h1,hg',hgs,hr⟩
 ·rw[h1]at hg;cases hg
 ·rw[h1]at hg;cases hg;exact⟨hg',hgs⟩
theorem BU.keep (h:BU w base v l) (hb:Below w.heap.size w w'):BU w' base v l:=h.heap hb.size (λg hg=>hb.block g (h.lt g hg).2)
theorem BU.mono (h:BU w base v l) {b:Nat} (hb:b≤base):BU w b v l:=by
 rcases h with h1|⟨g,cap,c,h1,hg,r⟩
 ·exact .inl h1
 ·exact .inr ⟨g,cap,c,h1,Nat.le_trans hb hg,r⟩
end
theorem H5 (v:Value) (l:List Cp.Pb) (w:World) (base:Nat) (ho:Ab w base v l) :
  Calls Tryz.prog 39 #[v] w λe w'=>∃v',e=.returned v'∧BU w base v' l∧w'=w:=by
 rcases ho.2 with⟨h4,h5⟩|⟨g,cap,cur,hv,hg,hb,hc,hm,hs,ht⟩
 ·have D:l=[]:=List.eq_nil_of_length_eq_zero h5;subst h4;clear ho h5;go_enter Tryz.func39,Tryz.ntmps39;go_wp2_with fail;go_ret;exact⟨_,rfl,.inl ⟨rfl,D⟩,rfl⟩
 ·subst hv;have B:=QA ho.row;have o:=QA (block_lt hb);have C:=QA hg;clear ho hb hs ht cur hg hm;have A:(l.length:Int)≤(cap:Int):=by omega
  go_enter Tryz.func39,Tryz.ntmps39;go_wp2_with fail;go_ret;exact⟨_,rfl,.inr ⟨g,cap,l.length,rfl,C.out,o.out,B.out⟩,rfl⟩
theorem GM (v:Value) (ls:List (List Cp.Pb)) (w:World) (hV:Prp w v ls) (hl:ls.length≤1000000000) (hs:ls.flatten.length≤1000000) :
  Calls Tryz.prog 18 #[v] w λe w'=>∃v',e=.returned v'∧BU w' w.heap.size v' (Cp.sorted ls.flatten)∧Below w.heap.size w w':=by
 have G:=QA (GY v ls w hV hl hs);clear hV;go_enter Tryz.func18,Tryz.ntmps18;go_wp2_with fail;refine G.out.mono ?_;rintro e w1 ⟨v1,rfl,ho1,hb1⟩;have H:=QA (IY v1 ls.flatten w1 w.heap.size ho1 hb1.size (by omega));obtain⟨S,R,c1,E,M⟩:=Ab.form ho1;subst E;clear G ho1;go_wp2_with fail;refine H.out.mono ?_;rintro e w2 ⟨rfl,d,hdl,hdm,hds,ho2,hb2⟩;have o:=QA (hb1.trans hb2);have J:Hid (Cp.comp d=Cp.sorted ls.flatten):=QA (Cp.comp_sorted _ d hdm hds);have A:=QA (Fg _ d w2 w.heap.size ho2 o.out.size (by omega));clear H hb1 hb2 hdl hdm hds ho2;go_wp2_with fail;refine A.out.mono ?_;rintro e w3 ⟨v3,rfl,ho3,hb3⟩;have F:=QA (o.out.trans hb3);have B:=QA (H5 _ _ w3 w.heap.size ho3);obtain⟨U,N,O,D,L⟩:=Ab.form ho3;subst D;clear A ho3 hb3;go_wp2_with fail;refine B.out.mono ?_;rintro e w4 ⟨v4,rfl,hh,rfl⟩;have I:=QA hh;obtain⟨P,Q,T,C,K⟩:=BU.form hh;subst C;clear hh B;go_wp2_with fail;go_ret;refine⟨_,rfl,?_,F.out⟩;rw[← J.out];exact I.out
end Go.Proofs.YtedeapbonbbacaaGreatDoor
namespace Go.Proofs
open Go.Shelf
def Tryz.lays169_ren:Go.Shelf.Ren:=⟨fun|169=>114|n=>n,fun|70=>166|9=>9|0=>0|72=>168|37=>24|127=>186|3=>3|5=>5|n=>n,fun|n=>n⟩
theorem Tryz.lays169:Go.Proofs.Lays.n169 Tryz.prog Tryz.lays169_ren:={
 mixed:=by kernel_rfl
 f169:=Tryz.func114.trans (congrArg some (by kernel_rfl))
 t0:=Tryz.underlying0
 a0:=Tryz.isAgg0
 z0:=Tryz.sizeOf0
 v0:=Tryz.zeroValue0
 t3:=Tryz.underlying3
 a3:=Tryz.isAgg3
 z3:=Tryz.sizeOf3
 v3:=Tryz.zeroValue3
 t9:=Tryz.underlying9
 a9:=Tryz.isAgg9
 z9:=Tryz.sizeOf9
 v9:=Tryz.zeroValue9
 t37:=Tryz.underlying24
 a37:=Tryz.isAgg24
 z37:=Tryz.sizeOf24
 v37:=Tryz.zeroValue24
 t70:=Tryz.underlying166
 a70:=Tryz.isAgg166
 z70:=Tryz.sizeOf166
 v70:=Tryz.zeroValue166
 t72:=Tryz.underlying168
 a72:=Tryz.isAgg168
 z72:=Tryz.sizeOf168
 v72:=Tryz.zeroValue168
 t127:=Tryz.underlying186
 a127:=Tryz.isAgg186
 z127:=Tryz.sizeOf186
 v127:=Tryz.zeroValue186 }
theorem Tryz.Builder_Extra_169:Builder.Extra Tryz.prog Tryz.lays169_ren:={
 sizeBuilder:=by kernel_rfl
 liesBuilder:=by kernel_rfl
 t5:=Tryz.underlying5
 a5:=Tryz.isAgg5
 z5:=Tryz.sizeOf5
 v5:=Tryz.zeroValue5
 infoByte:=by kernel_rfl
 cellsByte:=by kernel_rfl
 sizeByte:=by kernel_rfl
 neB5:=by decide }
def Tryz.lays156_ren:Go.Shelf.Ren:=⟨fun|156=>129|165=>137|166=>115|169=>114|240=>130|241=>147|276=>138|277=>153|n=>n,fun|31=>51|9=>9|3=>3|4=>4|0=>0|20=>20|72=>168|76=>172|70=>166|37=>24|75=>171|127=>186|164=>197|5=>5|80=>98|n=>n,fun|n=>n⟩
theorem Tryz.lays156:Go.Proofs.Lays.n156 Tryz.prog Tryz.lays156_ren:={
 mixed:=by kernel_rfl
 f156:=Tryz.func129.trans (congrArg some (by kernel_rfl))
 f165:=Tryz.func137.trans (congrArg some (by kernel_rfl))
 f166:=Tryz.func115.trans (congrArg some (by kernel_rfl))
 f169:=Tryz.func114.trans (congrArg some (by kernel_rfl))
 f240:=Tryz.func130.trans (congrArg some (by kernel_rfl))
 f241:=Tryz.func147.trans (congrArg some (by kernel_rfl))
 f276:=Tryz.func138.trans (congrArg some (by kernel_rfl))
 f277:=Tryz.func153.trans (congrArg some (by kernel_rfl))
 t0:=Tryz.underlying0
 a0:=Tryz.isAgg0
 z0:=Tryz.sizeOf0
 v0:=Tryz.zeroValue0
 t3:=Tryz.underlying3
 a3:=Tryz.isAgg3
 z3:=Tryz.sizeOf3
 v3:=Tryz.zeroValue3
 t4:=Tryz.underlying4
 a4:=Tryz.isAgg4
 z4:=Tryz.sizeOf4
 v4:=Tryz.zeroValue4
 t9:=Tryz.underlying9
 a9:=Tryz.isAgg9
 z9:=Tryz.sizeOf9
 v9:=Tryz.zeroValue9
 t20:=Tryz.underlying20
 a20:=Tryz.isAgg20
 z20:=Tryz.sizeOf20
 v20:=Tryz.zeroValue20
 t31:=Tryz.underlying51
 a31:=Tryz.isAgg51
 z31:=Tryz.sizeOf51
 v31:=Tryz.zeroValue51
 t37:=Tryz.underlying24
 a37:=Tryz.isAgg24
 z37:=Tryz.sizeOf24
 v37:=Tryz.zeroValue24
 t70:=Tryz.underlying166
 a70:=Tryz.isAgg166
 z70:=Tryz.sizeOf166
 v70:=Tryz.zeroValue166
 t72:=Tryz.underlying168
 a72:=Tryz.isAgg168
 z72:=Tryz.sizeOf168
 v72:=Tryz.zeroValue168
 t75:=Tryz.underlying171
 a75:=Tryz.isAgg171
 z75:=Tryz.sizeOf171
 v75:=Tryz.zeroValue171
 t76:=Tryz.underlying172
 a76:=Tryz.isAgg172
 z76:=Tryz.sizeOf172
 v76:=Tryz.zeroValue172
 t127:=Tryz.underlying186
 a127:=Tryz.isAgg186
 z127:=Tryz.sizeOf186
 v127:=Tryz.zeroValue186
 t164:=Tryz.underlying197
 a164:=Tryz.isAgg197
 z164:=Tryz.sizeOf197
 v164:=Tryz.zeroValue197 }
theorem Tryz.Builder_Extra_156:Builder.Extra Tryz.prog Tryz.lays156_ren:={
 sizeBuilder:=by kernel_rfl
 liesBuilder:=by kernel_rfl
 t5:=Tryz.underlying5
 a5:=Tryz.isAgg5
 z5:=Tryz.sizeOf5
 v5:=Tryz.zeroValue5
 infoByte:=by kernel_rfl
 cellsByte:=by kernel_rfl
 sizeByte:=by kernel_rfl
 neB5:=by decide }
open Go.RowKit in
theorem Tryz.strings_Join (bk o c:Nat) (xs:List ByteArray) (sep:ByteArray) (w:World) (hcells:∀(j:Nat) x,xs[j]?=some x→w.cell? ⟨bk,o+j,none⟩=some (.string x)) (hbk:bk<w.heap.size) (hN:xs.length≤140737488355328) (hcap:xs.length≤c) (hlen:(Lib.join (xs.map (·.data.toList)) sep.data.toList).length≤140737488355328) :
  Calls Tryz.prog 129 #[.slice (some ⟨bk,o,none⟩) xs.length c,.string sep] w λe w'=>e=.returned (.string ⟨(Lib.join (xs.map (·.data.toList)) sep.data.toList).toArray⟩)∧Below w.heap.size w w':=Any.strings_Join Tryz.lays156 Tryz.Builder_Extra_156 bk o c xs sep w hcells hbk hN hcap hlen
def Tryz.lays161_ren:Go.Shelf.Ren:=⟨fun|161=>136|231=>143|227=>144|233=>145|235=>146|228=>151|197=>112|151=>152|260=>125|152=>157|137=>91|119=>159|224=>155|225=>154|217=>119|266=>132|n=>n,fun|9=>9|4=>4|3=>3|5=>5|117=>204|116=>203|0=>0|124=>207|105=>141|21=>21|119=>189|46=>23|139=>192|138=>191|n=>n,fun|3=>0|4=>1|n=>n⟩
theorem Tryz.lays161:Go.Proofs.Lays.n161 Tryz.prog Tryz.lays161_ren:={
 mixed:=by kernel_rfl
 f119:=Tryz.func159.trans (congrArg some (by kernel_rfl))
 f137:=Tryz.func91.trans (congrArg some (by kernel_rfl))
 f151:=Tryz.func152.trans (congrArg some (by kernel_rfl))
 f152:=Tryz.func157.trans (congrArg some (by kernel_rfl))
 f161:=Tryz.func136.trans (congrArg some (by kernel_rfl))
 f197:=Tryz.func112.trans (congrArg some (by kernel_rfl))
 f217:=Tryz.func119.trans (congrArg some (by kernel_rfl))
 f224:=Tryz.func155.trans (congrArg some (by kernel_rfl))
 f225:=Tryz.func154.trans (congrArg some (by kernel_rfl))
 f227:=Tryz.func144.trans (congrArg some (by kernel_rfl))
 f228:=Tryz.func151.trans (congrArg some (by kernel_rfl))
 f231:=Tryz.func143.trans (congrArg some (by kernel_rfl))
 f233:=Tryz.func145.trans (congrArg some (by kernel_rfl))
 f235:=Tryz.func146.trans (congrArg some (by kernel_rfl))
 f260:=Tryz.func125.trans (congrArg some (by kernel_rfl))
 f266:=Tryz.func132.trans (congrArg some (by kernel_rfl))
 t0:=Tryz.underlying0
 a0:=Tryz.isAgg0
 z0:=Tryz.sizeOf0
 v0:=Tryz.zeroValue0
 t3:=Tryz.underlying3
 a3:=Tryz.isAgg3
 z3:=Tryz.sizeOf3
 v3:=Tryz.zeroValue3
 t4:=Tryz.underlying4
 a4:=Tryz.isAgg4
 z4:=Tryz.sizeOf4
 v4:=Tryz.zeroValue4
 t5:=Tryz.underlying5
 a5:=Tryz.isAgg5
 z5:=Tryz.sizeOf5
 v5:=Tryz.zeroValue5
 t9:=Tryz.underlying9
 a9:=Tryz.isAgg9
 z9:=Tryz.sizeOf9
 v9:=Tryz.zeroValue9
 t21:=Tryz.underlying21
 a21:=Tryz.isAgg21
 z21:=Tryz.sizeOf21
 v21:=Tryz.zeroValue21
 t46:=Tryz.underlying23
 a46:=Tryz.isAgg23
 z46:=Tryz.sizeOf23
 v46:=Tryz.zeroValue23
 t105:=Tryz.underlying141
 a105:=Tryz.isAgg141
 z105:=Tryz.sizeOf141
 v105:=Tryz.zeroValue141
 t116:=Tryz.underlying203
 a116:=Tryz.isAgg203
 z116:=Tryz.sizeOf203
 t117:=Tryz.underlying204
 a117:=Tryz.isAgg204
 z117:=Tryz.sizeOf204
 v117:=Tryz.zeroValue204
 t119:=Tryz.underlying189
 a119:=Tryz.isAgg189
 z119:=Tryz.sizeOf189
 t124:=Tryz.underlying207
 a124:=Tryz.isAgg207
 z124:=Tryz.sizeOf207
 v124:=Tryz.zeroValue207
 t138:=Tryz.underlying191
 a138:=Tryz.isAgg191
 z138:=Tryz.sizeOf191
 v138:=Tryz.zeroValue191
 t139:=Tryz.underlying192
 a139:=Tryz.isAgg192
 z139:=Tryz.sizeOf192
 v139:=Tryz.zeroValue192
 g3:=by kernel_rfl
 g4:=by kernel_rfl }
def Tryz.lays137_ren:Go.Shelf.Ren:=⟨fun|137=>91|217=>119|266=>132|n=>n,fun|9=>9|5=>5|3=>3|n=>n,fun|n=>n⟩
theorem Tryz.lays137:Go.Proofs.Lays.n137 Tryz.prog Tryz.lays137_ren:={
 mixed:=by kernel_rfl
 f137:=Tryz.func91.trans (congrArg some (by kernel_rfl))
 f217:=Tryz.func119.trans (congrArg some (by kernel_rfl))
 f266:=Tryz.func132.trans (congrArg some (by kernel_rfl))
 t3:=Tryz.underlying3
 a3:=Tryz.isAgg3
 z3:=Tryz.sizeOf3
 v3:=Tryz.zeroValue3
 t5:=Tryz.underlying5
 a5:=Tryz.isAgg5
 z5:=Tryz.sizeOf5
 v5:=Tryz.zeroValue5
 t9:=Tryz.underlying9
 a9:=Tryz.isAgg9
 z9:=Tryz.sizeOf9
 v9:=Tryz.zeroValue9 }
open Go.RowKit in
theorem Tryz.strings_IndexByte (s:ByteArray) (c:Int) (w:World) :
  Calls Tryz.prog 91 #[.string s,.int .u8 c] w λe w'=>e=.returned (.int .i64 (Lib.indexByte s.data.toList c.toNat.toUInt8))∧w'=w:=Any.strings_IndexByte Tryz.lays137 s c w
open Go.RowKit in
theorem Tryz.Builder_String_any_k (B b:Nat) (l:List UInt8) (w:World) (h:Lib.IsBuilderF 168 5 B b (Lib.byteCells l) w) (hBw:B≤w.heap.size) :
  Calls Tryz.prog 114 #[.pointer (some ⟨b,0,none⟩)] w λe w'=>e=.returned (.string ⟨l.toArray⟩)∧(Lib.IsBuilderF 168 5 B b (Lib.byteCells l) w'∧Below B w w'∧Lib.OthersKept 5 (some b) w w'):=Any.Builder_String_any_k Tryz.lays169 Tryz.Builder_Extra_169 B b l w h hBw
def Tryz.lays242_ren:Go.Shelf.Ren:=⟨fun|242=>131|278=>139|n=>n,fun|37=>24|21=>21|51=>137|4=>4|5=>5|46=>23|n=>n,fun|n=>n⟩
theorem Tryz.lays242:Go.Proofs.Lays.n242 Tryz.prog Tryz.lays242_ren:={
 mixed:=by kernel_rfl
 f242:=Tryz.func131.trans (congrArg some (by kernel_rfl))
 f278:=Tryz.func139.trans (congrArg some (by kernel_rfl))
 t4:=Tryz.underlying4
 a4:=Tryz.isAgg4
 z4:=Tryz.sizeOf4
 v4:=Tryz.zeroValue4
 t5:=Tryz.underlying5
 a5:=Tryz.isAgg5
 z5:=Tryz.sizeOf5
 v5:=Tryz.zeroValue5
 t21:=Tryz.underlying21
 a21:=Tryz.isAgg21
 z21:=Tryz.sizeOf21
 v21:=Tryz.zeroValue21
 t37:=Tryz.underlying24
 a37:=Tryz.isAgg24
 z37:=Tryz.sizeOf24
 v37:=Tryz.zeroValue24
 t46:=Tryz.underlying23
 a46:=Tryz.isAgg23
 z46:=Tryz.sizeOf23
 v46:=Tryz.zeroValue23
 t51:=Tryz.underlying137
 a51:=Tryz.isAgg137
 z51:=Tryz.sizeOf137
 v51:=Tryz.zeroValue137 }
open Go.RowKit in
theorem Tryz.utf8_AppendRune_row (B:Nat) (v:Value) (n:Nat) (xs:List Value) (r:Int) (hr0:-2147483648≤r) (hr1:r≤2147483647) (w:World) (hown:w.ownsRowF B 5 1 v n xs) (hlen:n+4≤140737488355328) (hBw:B≤w.heap.size) :
  Calls Tryz.prog 131 #[v,.int .i32 r] w λe w'=>∃v',e=.returned v'∧w'.ownsRowF B 5 1 v' (n+(Lib.runeCells r).length) (xs++Lib.runeCells r)∧∃o,(w.alloc o).grownBy w' v.ownBlock:=Any.utf8_AppendRune_row Tryz.lays242 (by kernel_rfl) B v n xs r hr0 hr1 w hown hlen hBw
def Tryz.lays99_ren:Go.Shelf.Ren:=⟨fun|99=>81|206=>111|n=>n,fun|9=>9|4=>4|3=>3|n=>n,fun|n=>n⟩
theorem Tryz.lays99:Go.Proofs.Lays.n99 Tryz.prog Tryz.lays99_ren:={
 mixed:=by kernel_rfl
 f99:=Tryz.func81.trans (congrArg some (by kernel_rfl))
 f206:=Tryz.func111.trans (congrArg some (by kernel_rfl))
 t3:=Tryz.underlying3
 a3:=Tryz.isAgg3
 z3:=Tryz.sizeOf3
 v3:=Tryz.zeroValue3
 t4:=Tryz.underlying4
 a4:=Tryz.isAgg4
 z4:=Tryz.sizeOf4
 v4:=Tryz.zeroValue4
 t9:=Tryz.underlying9
 a9:=Tryz.isAgg9
 z9:=Tryz.sizeOf9
 v9:=Tryz.zeroValue9 }
open Go.RowKit Go.Lib in
theorem Tryz.strings_HasPrefix (s p:ByteArray) (w:World) :
  Calls Tryz.prog 81 #[.string s,.string p] w λe w'=>e=.returned (.bool (Lib.hasPrefix s.data.toList p.data.toList))∧w'=w:=Any.strings_HasPrefix Tryz.lays99 s p w
def Tryz.lays146_ren:Go.Shelf.Ren:=⟨fun|146=>126|221=>134|268=>140|138=>141|143=>142|195=>148|197=>112|218=>149|219=>150|260=>125|217=>119|225=>154|224=>155|267=>156|266=>132|314=>158|n=>n,fun|9=>9|31=>51|3=>3|4=>4|0=>0|105=>141|21=>21|5=>5|46=>23|119=>189|139=>192|138=>191|146=>212|51=>137|n=>n,fun|1=>2|3=>0|4=>1|n=>n⟩
theorem Tryz.lays146:Go.Proofs.Lays.n146 Tryz.prog Tryz.lays146_ren:={
 mixed:=by kernel_rfl
 f138:=Tryz.func141.trans (congrArg some (by kernel_rfl))
 f143:=Tryz.func142.trans (congrArg some (by kernel_rfl))
 f146:=Tryz.func126.trans (congrArg some (by kernel_rfl))
 f195:=Tryz.func148.trans (congrArg some (by kernel_rfl))
 f197:=Tryz.func112.trans (congrArg some (by kernel_rfl))
 f217:=Tryz.func119.trans (congrArg some (by kernel_rfl))
 f218:=Tryz.func149.trans (congrArg some (by kernel_rfl))
 f219:=Tryz.func150.trans (congrArg some (by kernel_rfl))
 f221:=Tryz.func134.trans (congrArg some (by kernel_rfl))
 f224:=Tryz.func155.trans (congrArg some (by kernel_rfl))
 f225:=Tryz.func154.trans (congrArg some (by kernel_rfl))
 f260:=Tryz.func125.trans (congrArg some (by kernel_rfl))
 f266:=Tryz.func132.trans (congrArg some (by kernel_rfl))
 f267:=Tryz.func156.trans (congrArg some (by kernel_rfl))
 f268:=Tryz.func140.trans (congrArg some (by kernel_rfl))
 f314:=Tryz.func158.trans (congrArg some (by kernel_rfl))
 t0:=Tryz.underlying0
 a0:=Tryz.isAgg0
 z0:=Tryz.sizeOf0
 v0:=Tryz.zeroValue0
 t3:=Tryz.underlying3
 a3:=Tryz.isAgg3
 z3:=Tryz.sizeOf3
 v3:=Tryz.zeroValue3
 t4:=Tryz.underlying4
 a4:=Tryz.isAgg4
 z4:=Tryz.sizeOf4
 v4:=Tryz.zeroValue4
 t5:=Tryz.underlying5
 a5:=Tryz.isAgg5
 z5:=Tryz.sizeOf5
 v5:=Tryz.zeroValue5
 t9:=Tryz.underlying9
 a9:=Tryz.isAgg9
 z9:=Tryz.sizeOf9
 v9:=Tryz.zeroValue9
 t21:=Tryz.underlying21
 a21:=Tryz.isAgg21
 z21:=Tryz.sizeOf21
 v21:=Tryz.zeroValue21
 t31:=Tryz.underlying51
 a31:=Tryz.isAgg51
 z31:=Tryz.sizeOf51
 v31:=Tryz.zeroValue51
 t46:=Tryz.underlying23
 a46:=Tryz.isAgg23
 z46:=Tryz.sizeOf23
 v46:=Tryz.zeroValue23
 t51:=Tryz.underlying137
 a51:=Tryz.isAgg137
 z51:=Tryz.sizeOf137
 v51:=Tryz.zeroValue137
 t105:=Tryz.underlying141
 a105:=Tryz.isAgg141
 z105:=Tryz.sizeOf141
 v105:=Tryz.zeroValue141
 t119:=Tryz.underlying189
 a119:=Tryz.isAgg189
 z119:=Tryz.sizeOf189
 t138:=Tryz.underlying191
 a138:=Tryz.isAgg191
 z138:=Tryz.sizeOf191
 v138:=Tryz.zeroValue191
 t139:=Tryz.underlying192
 a139:=Tryz.isAgg192
 z139:=Tryz.sizeOf192
 v139:=Tryz.zeroValue192
 t146:=Tryz.underlying212
 a146:=Tryz.isAgg212
 z146:=Tryz.sizeOf212
 v146:=Tryz.zeroValue212
 g1:=by kernel_rfl
 g3:=by kernel_rfl
 g4:=by kernel_rfl }
open Go.RowKit Go.Lib in
theorem Tryz.strings_Split (s sep:ByteArray) (m:Int) (w:World) (hs:s.size<4294967281) (hm:w.cell? ⟨2,0,none⟩=some (.int .i64 m)) (h1:1≤sep.size) :
  Calls Tryz.prog 126 #[.string s,.string sep] w λe w' =>
   e=.returned (.slice (some ⟨w.heap.size,0,none⟩) (Lib.countB s sep+1) (Lib.countB s sep+1))∧w'=w.alloc (.cells ((Lib.splitB sep 0 (Lib.countB s sep) s).map Value.string).toArray 9):=Any.strings_Split Tryz.lays146 (by kernel_rfl) s sep m w hs hm h1
def Tryz.lays155_ren:Go.Shelf.Ren:=⟨fun|155=>127|154=>135|138=>141|165=>137|143=>142|166=>115|197=>112|169=>114|195=>148|218=>149|240=>130|241=>147|219=>150|260=>125|276=>138|277=>153|217=>119|225=>154|224=>155|267=>156|266=>132|314=>158|n=>n,fun|9=>9|3=>3|4=>4|72=>168|0=>0|76=>172|105=>141|21=>21|5=>5|70=>166|20=>20|37=>24|75=>171|127=>186|164=>197|46=>23|119=>189|139=>192|138=>191|146=>212|51=>137|80=>98|n=>n,fun|1=>2|3=>0|4=>1|n=>n⟩
theorem Tryz.lays155:Go.Proofs.Lays.n155 Tryz.prog Tryz.lays155_ren:={
 mixed:=by kernel_rfl
 f138:=Tryz.func141.trans (congrArg some (by kernel_rfl))
 f143:=Tryz.func142.trans (congrArg some (by kernel_rfl))
 f154:=Tryz.func135.trans (congrArg some (by kernel_rfl))
 f155:=Tryz.func127.trans (congrArg some (by kernel_rfl))
 f165:=Tryz.func137.trans (congrArg some (by kernel_rfl))
 f166:=Tryz.func115.trans (congrArg some (by kernel_rfl))
 f169:=Tryz.func114.trans (congrArg some (by kernel_rfl))
 f195:=Tryz.func148.trans (congrArg some (by kernel_rfl))
 f197:=Tryz.func112.trans (congrArg some (by kernel_rfl))
 f217:=Tryz.func119.trans (congrArg some (by kernel_rfl))
 f218:=Tryz.func149.trans (congrArg some (by kernel_rfl))
 f219:=Tryz.func150.trans (congrArg some (by kernel_rfl))
 f224:=Tryz.func155.trans (congrArg some (by kernel_rfl))
 f225:=Tryz.func154.trans (congrArg some (by kernel_rfl))
 f240:=Tryz.func130.trans (congrArg some (by kernel_rfl))
 f241:=Tryz.func147.trans (congrArg some (by kernel_rfl))
 f260:=Tryz.func125.trans (congrArg some (by kernel_rfl))
 f266:=Tryz.func132.trans (congrArg some (by kernel_rfl))
 f267:=Tryz.func156.trans (congrArg some (by kernel_rfl))
 f276:=Tryz.func138.trans (congrArg some (by kernel_rfl))
 f277:=Tryz.func153.trans (congrArg some (by kernel_rfl))
 f314:=Tryz.func158.trans (congrArg some (by kernel_rfl))
 t0:=Tryz.underlying0
 a0:=Tryz.isAgg0
 z0:=Tryz.sizeOf0
 v0:=Tryz.zeroValue0
 t3:=Tryz.underlying3
 a3:=Tryz.isAgg3
 z3:=Tryz.sizeOf3
 v3:=Tryz.zeroValue3
 t4:=Tryz.underlying4
 a4:=Tryz.isAgg4
 z4:=Tryz.sizeOf4
 v4:=Tryz.zeroValue4
 t5:=Tryz.underlying5
 a5:=Tryz.isAgg5
 z5:=Tryz.sizeOf5
 v5:=Tryz.zeroValue5
 t9:=Tryz.underlying9
 a9:=Tryz.isAgg9
 z9:=Tryz.sizeOf9
 v9:=Tryz.zeroValue9
 t20:=Tryz.underlying20
 a20:=Tryz.isAgg20
 z20:=Tryz.sizeOf20
 v20:=Tryz.zeroValue20
 t21:=Tryz.underlying21
 a21:=Tryz.isAgg21
 z21:=Tryz.sizeOf21
 v21:=Tryz.zeroValue21
 t37:=Tryz.underlying24
 a37:=Tryz.isAgg24
 z37:=Tryz.sizeOf24
 v37:=Tryz.zeroValue24
 t46:=Tryz.underlying23
 a46:=Tryz.isAgg23
 z46:=Tryz.sizeOf23
 v46:=Tryz.zeroValue23
 t51:=Tryz.underlying137
 a51:=Tryz.isAgg137
 z51:=Tryz.sizeOf137
 v51:=Tryz.zeroValue137
 t70:=Tryz.underlying166
 a70:=Tryz.isAgg166
 z70:=Tryz.sizeOf166
 v70:=Tryz.zeroValue166
 t72:=Tryz.underlying168
 a72:=Tryz.isAgg168
 z72:=Tryz.sizeOf168
 v72:=Tryz.zeroValue168
 t75:=Tryz.underlying171
 a75:=Tryz.isAgg171
 z75:=Tryz.sizeOf171
 v75:=Tryz.zeroValue171
 t76:=Tryz.underlying172
 a76:=Tryz.isAgg172
 z76:=Tryz.sizeOf172
 v76:=Tryz.zeroValue172
 t105:=Tryz.underlying141
 a105:=Tryz.isAgg141
 z105:=Tryz.sizeOf141
 v105:=Tryz.zeroValue141
 t119:=Tryz.underlying189
 a119:=Tryz.isAgg189
 z119:=Tryz.sizeOf189
 t127:=Tryz.underlying186
 a127:=Tryz.isAgg186
 z127:=Tryz.sizeOf186
 v127:=Tryz.zeroValue186
 t138:=Tryz.underlying191
 a138:=Tryz.isAgg191
 z138:=Tryz.sizeOf191
 v138:=Tryz.zeroValue191
 t139:=Tryz.underlying192
 a139:=Tryz.isAgg192
 z139:=Tryz.sizeOf192
 v139:=Tryz.zeroValue192
 t146:=Tryz.underlying212
 a146:=Tryz.isAgg212
 z146:=Tryz.sizeOf212
 v146:=Tryz.zeroValue212
 t164:=Tryz.underlying197
 a164:=Tryz.isAgg197
 z164:=Tryz.sizeOf197
 v164:=Tryz.zeroValue197
 g1:=by kernel_rfl
 g3:=by kernel_rfl
 g4:=by kernel_rfl }
theorem Tryz.Builder_Extra_155:Builder.Extra Tryz.prog Tryz.lays155_ren:={
 sizeBuilder:=by kernel_rfl
 liesBuilder:=by kernel_rfl
 t5:=Tryz.underlying5
 a5:=Tryz.isAgg5
 z5:=Tryz.sizeOf5
 v5:=Tryz.zeroValue5
 infoByte:=by kernel_rfl
 cellsByte:=by kernel_rfl
 sizeByte:=by kernel_rfl
 neB5:=by decide }
open Go.RowKit Go.Lib in
theorem Tryz.strings_ReplaceAll (s old new:ByteArray) (m:Int) (w:World) (hs:s.size<4294967281) (hm:w.cell? ⟨2,0,none⟩=some (.int .i64 m)) (h1:1≤old.size) (hlen:s.size+Lib.countB s old*new.size≤140737488355328) :
  Calls Tryz.prog 127 #[.string s,.string old,.string new] w λe w' =>
   e=.returned (.string ⟨(Lib.replaceAll s.data.toList old.data.toList new.data.toList).toArray⟩)∧Below w.heap.size w w':=Any.strings_ReplaceAll Tryz.lays155 Tryz.Builder_Extra_155 s old new m w hs hm h1 hlen
def Tryz.lays197_ren:Go.Shelf.Ren:=⟨fun|197=>112|260=>125|n=>n,fun|9=>9|21=>21|3=>3|4=>4|5=>5|105=>141|119=>189|0=>0|46=>23|139=>192|138=>191|n=>n,fun|3=>0|4=>1|n=>n⟩
theorem Tryz.lays197:Go.Proofs.Lays.n197 Tryz.prog Tryz.lays197_ren:={
 mixed:=by kernel_rfl
 f197:=Tryz.func112.trans (congrArg some (by kernel_rfl))
 f260:=Tryz.func125.trans (congrArg some (by kernel_rfl))
 t0:=Tryz.underlying0
 a0:=Tryz.isAgg0
 z0:=Tryz.sizeOf0
 v0:=Tryz.zeroValue0
 t3:=Tryz.underlying3
 a3:=Tryz.isAgg3
 z3:=Tryz.sizeOf3
 v3:=Tryz.zeroValue3
 t4:=Tryz.underlying4
 a4:=Tryz.isAgg4
 z4:=Tryz.sizeOf4
 v4:=Tryz.zeroValue4
 t5:=Tryz.underlying5
 a5:=Tryz.isAgg5
 z5:=Tryz.sizeOf5
 v5:=Tryz.zeroValue5
 t9:=Tryz.underlying9
 a9:=Tryz.isAgg9
 z9:=Tryz.sizeOf9
 v9:=Tryz.zeroValue9
 t21:=Tryz.underlying21
 a21:=Tryz.isAgg21
 z21:=Tryz.sizeOf21
 v21:=Tryz.zeroValue21
 t46:=Tryz.underlying23
 a46:=Tryz.isAgg23
 z46:=Tryz.sizeOf23
 v46:=Tryz.zeroValue23
 t105:=Tryz.underlying141
 a105:=Tryz.isAgg141
 z105:=Tryz.sizeOf141
 v105:=Tryz.zeroValue141
 t119:=Tryz.underlying189
 a119:=Tryz.isAgg189
 z119:=Tryz.sizeOf189
 t138:=Tryz.underlying191
 a138:=Tryz.isAgg191
 z138:=Tryz.sizeOf191
 v138:=Tryz.zeroValue191
 t139:=Tryz.underlying192
 a139:=Tryz.isAgg192
 z139:=Tryz.sizeOf192
 v139:=Tryz.zeroValue192
 g3:=by kernel_rfl
 g4:=by kernel_rfl }
def Tryz.lays260_ren:Go.Shelf.Ren:=⟨fun|260=>125|n=>n,fun|9=>9|21=>21|3=>3|4=>4|5=>5|119=>189|0=>0|46=>23|139=>192|138=>191|n=>n,fun|3=>0|4=>1|n=>n⟩
theorem Tryz.lays260:Go.Proofs.Lays.n260 Tryz.prog Tryz.lays260_ren:={
 mixed:=by kernel_rfl
 f260:=Tryz.func125.trans (congrArg some (by kernel_rfl))
 t0:=Tryz.underlying0
 a0:=Tryz.isAgg0
 z0:=Tryz.sizeOf0
 v0:=Tryz.zeroValue0
 t3:=Tryz.underlying3
 a3:=Tryz.isAgg3
 z3:=Tryz.sizeOf3
 v3:=Tryz.zeroValue3
 t4:=Tryz.underlying4
 a4:=Tryz.isAgg4
 z4:=Tryz.sizeOf4
 v4:=Tryz.zeroValue4
 t5:=Tryz.underlying5
 a5:=Tryz.isAgg5
 z5:=Tryz.sizeOf5
 v5:=Tryz.zeroValue5
 t9:=Tryz.underlying9
 a9:=Tryz.isAgg9
 z9:=Tryz.sizeOf9
 v9:=Tryz.zeroValue9
 t21:=Tryz.underlying21
 a21:=Tryz.isAgg21
 z21:=Tryz.sizeOf21
 v21:=Tryz.zeroValue21
 t46:=Tryz.underlying23
 a46:=Tryz.isAgg23
 z46:=Tryz.sizeOf23
 v46:=Tryz.zeroValue23
 t119:=Tryz.underlying189
 a119:=Tryz.isAgg189
 z119:=Tryz.sizeOf189
 t138:=Tryz.underlying191
 a138:=Tryz.isAgg191
 z138:=Tryz.sizeOf191
 v138:=Tryz.zeroValue191
 t139:=Tryz.underlying192
 a139:=Tryz.isAgg192
 z139:=Tryz.sizeOf192
 v139:=Tryz.zeroValue192
 g3:=by kernel_rfl
 g4:=by kernel_rfl }
open Go.RowKit Go.Lib in
theorem Tryz.utf8_DecodeRuneInString (s:ByteArray) (w:World) (hT:Lib.Utf8Tabs 0 1 w) :
  Calls Tryz.prog 112 #[.string s] w λe w'=>e=.returned (.tuple #[.int .i32 (Lib.decodeGo s).1,.int .i64 (Lib.decodeGo s).2])∧Below w.heap.size w w':=Any.utf8_DecodeRuneInString Tryz.lays197 s w hT
def Tryz.lays109_ren:Go.Shelf.Ren:=⟨fun|109=>33|n=>n,fun|31=>51|9=>9|3=>3|0=>0|4=>4|n=>n,fun|n=>n⟩
theorem Tryz.lays109:Go.Proofs.Lays.n109 Tryz.prog Tryz.lays109_ren:={
 mixed:=by kernel_rfl
 f109:=Tryz.func33.trans (congrArg some (by kernel_rfl))
 t0:=Tryz.underlying0
 a0:=Tryz.isAgg0
 z0:=Tryz.sizeOf0
 v0:=Tryz.zeroValue0
 t3:=Tryz.underlying3
 a3:=Tryz.isAgg3
 z3:=Tryz.sizeOf3
 v3:=Tryz.zeroValue3
 t4:=Tryz.underlying4
 a4:=Tryz.isAgg4
 z4:=Tryz.sizeOf4
 v4:=Tryz.zeroValue4
 t9:=Tryz.underlying9
 a9:=Tryz.isAgg9
 z9:=Tryz.sizeOf9
 v9:=Tryz.zeroValue9
 t31:=Tryz.underlying51
 a31:=Tryz.isAgg51
 z31:=Tryz.sizeOf51
 v31:=Tryz.zeroValue51 }
open Go.Lib in
theorem Tryz.slices_Index_string (b off n c:Nat) (zs:List ByteArray) (x:ByteArray) (w:World) (hz:n≤zs.length) (hbig:n≤9223372036854775807) (hc:∀j,j<zs.length→w.cell? ⟨b,off+j,none⟩=some (.string (zs.getD j ByteArray.empty))) :
  Calls Tryz.prog 33 #[.slice (some ⟨b,off,none⟩) n c,.string x] w λe w'=>e=.returned (.int .i64 (Lib.idxOfS (zs.take n) x))∧w'=w:=Any.slices_Index_string Tryz.lays109 b off n c zs x w hz hbig hc
def Tryz.laysSlM6_f54_ren:Go.Shelf.Ren:=⟨fun|6=>54|8=>58|9=>70|19=>79|20=>80|21=>97|22=>98|23=>99|24=>100|25=>101|26=>102|27=>103|28=>104|29=>105|36=>120|31=>107|32=>108|37=>121|38=>122|39=>123|41=>133|n=>n,fun|27=>51|29=>9|3=>3|32=>23|26=>51|0=>0|44=>137|46=>139|4=>4|36=>130|35=>129|41=>134|5=>5|9=>9|53=>159|57=>163|63=>179|64=>180|n=>n,fun|n=>n⟩
theorem Tryz.laysSlM6_f54:Go.Proofs.SlLaysM.n6 Tryz.prog Tryz.laysSlM6_f54_ren:={
 mixed:=by kernel_rfl
 f6:=⟨Tryz.f54.name,by decide,Tryz.func54.trans (congrArg some (by kernel_rfl))⟩
 f8:=Tryz.func58.trans (congrArg some (by kernel_rfl))
 f9:=⟨Tryz.f70.name,by decide,Tryz.func70.trans (congrArg some (by kernel_rfl))⟩
 f19:=Tryz.func79.trans (congrArg some (by kernel_rfl))
 f20:=Tryz.func80.trans (congrArg some (by kernel_rfl))
 f21:=⟨Tryz.f97.name,by decide,Tryz.func97.trans (congrArg some (by kernel_rfl))⟩
 f22:=⟨Tryz.f98.name,by decide,Tryz.func98.trans (congrArg some (by kernel_rfl))⟩
 f23:=⟨Tryz.f99.name,by decide,Tryz.func99.trans (congrArg some (by kernel_rfl))⟩
 f24:=⟨Tryz.f100.name,by decide,Tryz.func100.trans (congrArg some (by kernel_rfl))⟩
 f25:=⟨Tryz.f101.name,by decide,Tryz.func101.trans (congrArg some (by kernel_rfl))⟩
 f26:=⟨Tryz.f102.name,by decide,Tryz.func102.trans (congrArg some (by kernel_rfl))⟩
 f27:=⟨Tryz.f103.name,by decide,Tryz.func103.trans (congrArg some (by kernel_rfl))⟩
 f28:=⟨Tryz.f104.name,by decide,Tryz.func104.trans (congrArg some (by kernel_rfl))⟩
 f29:=⟨Tryz.f105.name,by decide,Tryz.func105.trans (congrArg some (by kernel_rfl))⟩
 f31:=Tryz.func107.trans (congrArg some (by kernel_rfl))
 f32:=Tryz.func108.trans (congrArg some (by kernel_rfl))
 f36:=⟨Tryz.f120.name,by decide,Tryz.func120.trans (congrArg some (by kernel_rfl))⟩
 f37:=⟨Tryz.f121.name,by decide,Tryz.func121.trans (congrArg some (by kernel_rfl))⟩
 f38:=⟨Tryz.f122.name,by decide,Tryz.func122.trans (congrArg some (by kernel_rfl))⟩
 f39:=⟨Tryz.f123.name,by decide,Tryz.func123.trans (congrArg some (by kernel_rfl))⟩
 f41:=⟨Tryz.f133.name,by decide,Tryz.func133.trans (congrArg some (by kernel_rfl))⟩
 t0:=Tryz.underlying0
 a0:=Tryz.isAgg0
 z0:=Tryz.sizeOf0
 v0:=Tryz.zeroValue0
 t3:=Tryz.underlying3
 a3:=Tryz.isAgg3
 z3:=Tryz.sizeOf3
 v3:=Tryz.zeroValue3
 t4:=Tryz.underlying4
 a4:=Tryz.isAgg4
 z4:=Tryz.sizeOf4
 v4:=Tryz.zeroValue4
 t5:=Tryz.underlying5
 a5:=Tryz.isAgg5
 z5:=Tryz.sizeOf5
 v5:=Tryz.zeroValue5
 t9:=Tryz.underlying9
 a9:=Tryz.isAgg9
 z9:=Tryz.sizeOf9
 v9:=Tryz.zeroValue9
 t26:=Tryz.underlying51
 a26:=Tryz.isAgg51
 z26:=Tryz.sizeOf51
 v26:=Tryz.zeroValue51
 t27:=Tryz.underlying51
 a27:=Tryz.isAgg51
 z27:=Tryz.sizeOf51
 v27:=Tryz.zeroValue51
 t29:=Tryz.underlying9
 a29:=Tryz.isAgg9
 z29:=Tryz.sizeOf9
 v29:=Tryz.zeroValue9
 t32:=Tryz.underlying23
 a32:=Tryz.isAgg23
 z32:=Tryz.sizeOf23
 v32:=Tryz.zeroValue23
 t35:=Tryz.underlying129
 a35:=Tryz.isAgg129
 z35:=Tryz.sizeOf129
 v35:=Tryz.zeroValue129
 t36:=Tryz.underlying130
 a36:=Tryz.isAgg130
 z36:=Tryz.sizeOf130
 v36:=Tryz.zeroValue130
 t41:=Tryz.underlying134
 a41:=Tryz.isAgg134
 z41:=Tryz.sizeOf134
 v41:=Tryz.zeroValue134
 t44:=Tryz.underlying137
 a44:=Tryz.isAgg137
 z44:=Tryz.sizeOf137
 v44:=Tryz.zeroValue137
 t46:=Tryz.underlying139
 a46:=Tryz.isAgg139
 z46:=Tryz.sizeOf139
 v46:=Tryz.zeroValue139
 t53:=Tryz.underlying159
 a53:=Tryz.isAgg159
 z53:=Tryz.sizeOf159
 v53:=Tryz.zeroValue159
 t57:=Tryz.underlying163
 a57:=Tryz.isAgg163
 z57:=Tryz.sizeOf163
 v57:=Tryz.zeroValue163
 t63:=Tryz.underlying179
 a63:=Tryz.isAgg179
 z63:=Tryz.sizeOf179
 v63:=Tryz.zeroValue179
 t64:=Tryz.underlying180
 a64:=Tryz.isAgg180
 z64:=Tryz.sizeOf180
 v64:=Tryz.zeroValue180 }
open Go.Sort Go.RowKit in
theorem Tryz.slices_Sort_string (blk off cap:Nat) (ss:List (List UInt8)) (w:World) (hH:Holds encStr w blk off ss.toArray) (hblk:blk<w.heap.size) (hsz:ss.length<4611686018427387904) :
  Calls Tryz.prog 54 #[.slice (some ⟨blk,off,none⟩) ss.length cap] w λe w' =>
   e=.returned (.tuple #[])∧∃n os,w'=grow (putRow encStr (Sort.ahead w n) blk off (ss.mergeSort λx y=>decide (x≤y)).toArray) os:=AnyM.slices_Sort_string Tryz.laysSlM6_f54 blk off cap ss w hH hblk hsz
open Go.RowKit Go.Sort in
theorem Tryz.slices_Sort_string_none (p:Option Addr) (cap:Nat) (w:World) :
  Calls Tryz.prog 54 #[.slice p 0 cap] w λe w'=>e=.returned (.tuple #[])∧w'=w:=AnyM.slices_Sort_string_none Tryz.laysSlM6_f54 p cap w
end Go.Proofs
