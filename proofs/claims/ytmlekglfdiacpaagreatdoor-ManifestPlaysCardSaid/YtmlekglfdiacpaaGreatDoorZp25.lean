/-
  Calls that came in. What the listed variables give; a world for the witnesses (layers 5 and 6).
-/
import Derived.Test.YtmlekglfdiacpaaGreatDoorZp23
import Derived.Test.YtmlekglfdiacpaaGreatDoorZp10
import Derived.Laws.IdiomArrays
import Derived.Test.YtmlekglfdiacpaaGreatDoorCards
import Derived.Test.YtmlekglfdiacpaaGreatDoorTie
import Derived.Test.YtmlekglfdiacpaaGreatDoorZp21
import Derived.WalkKit
import Derived.ProofKit
import Derived.OpenShut
import Derived.Deep.DeepHandedRow
import Derived.Lib.LaidTab
import Derived.Lib.LaidIn
import Derived.Lib.LaidU8
import Derived.Stop.LaidErr
import Derived.LaidLaws
import Derived.Carry
open List renaming length_map → QV, getElem?_eq_getElem → ZG
namespace Go.Proofs.YtmlekglfdiacpaaGreatDoor
set_option maxRecDepth 100000
set_option linter.unusedSimpArgs false
set_option linter.unusedVariables false
open Go Go.RowKit
open Go.ChangeShapes Go.WideShapes Go.ChangeAt
theorem Bu:Tryz.prog.cellsOf 3=1:=by kernel_rfl
theorem HY:Tryz.prog.cellsOf 37=2:=by kernel_rfl
theorem Eu:Tryz.prog.cellsOf 9=1:=by kernel_rfl
theorem D9:Tryz.prog.cellsOf 31=1:=by kernel_rfl
theorem Im:Tryz.prog.cellsOf 38=1:=by kernel_rfl
theorem IA:Tryz.prog.cellsOf 40=6:=by kernel_rfl
theorem Fx:Tryz.prog.cellsOf 42=9:=by kernel_rfl
theorem Gm {H:Type} {enc:TypeId×Value→H} {W:World} {cs:List Value} {x:DataW H×List MemPlace} {fuel:Nat} (hf:DataW.trod enc Tryz.prog W 0 (λ_=>true) true fuel 38 cs=some x):∃v l,cs=[v]∧Al W v l∧l.length≤maxLen:=by
 rcases open_ints Tryz.underlying38 Tryz.underlying5 Ix hf with⟨rfl,hx⟩|⟨a,len,cap,ss,rfl,_,hl,hm,hz,hx,hcell,hwz⟩
 ·exact⟨_,[],rfl,⟨none,0,rfl,by simp,by simp,by simp⟩,by simp⟩
 ·skip
  simp only[if_true]at hz;obtain⟨b,C,A⟩:=a;have o:(ss.take len).length=len:=by rw[List.length_take];omega
  refine⟨_,(ss.take len).map λz=>UInt8.ofNat z.toNat,rfl,?_,by rw[QV,o];omega⟩;refine⟨some ⟨b,C,A⟩,cap,by rw[QV,o],by rw[QV,o];exact hl,(λe=>by cases e),λi s hi=>?_⟩;rw[List.getElem?_map]at hi;obtain⟨z,D,rfl⟩:=Option.map_eq_some_iff.1 hi;have E:ss[i]?=some z:=Ej D;have G:i<ss.length:=(List.getElem?_eq_some_iff.1 E).1;have I:=hcell 0 (by omega);have B:A=none:=by simpa [Addr.add] using World.cell?_spot I
  subst B;have F:0≤z∧z≤255:=by
   have L:=hwz z (List.mem_of_mem_take (List.mem_of_getElem? D));have K:IntKind.u8.min=0:=rfl;have J:IntKind.u8.max=255:=rfl
   simpa [Lit.wf,K,J] using L
  refine⟨b,C,rfl,?_,?_⟩
  ·have:=D3 I
   simpa [Addr.add] using this
  ·have:=hcell i G;rw[add_plain]at this;rw[this,List.getD_eq_getElem?_getD,E];have M:(UInt8.ofNat z.toNat).toNat=z.toNat:=UInt8.toNat_ofNat_of_lt' (by show _<256;omega);rw[M,Int.toNat_of_nonneg F.1];rfl
theorem IK {z:Int} (h:(Lit.int .i64 z).wf=true):-9223372036854775808≤z∧z≤9223372036854775807:=by
 have o:IntKind.i64.min=-9223372036854775808:=by decide
 simpa [Lit.wf,o] using h
section
set_option maxRecDepth 100000
variable {H : Type} {enc : TypeId × Value → H} {W : World}
theorem GV {cs:List Value} {x:DataW H×List MemPlace} {fuel:Nat} (hf:DataW.trod enc Tryz.prog W 0 (λ_=>true) true fuel 31 cs=some x):∃v l,cs=[v]∧Cb W v l∧l.length≤maxLen∧∀z∈l,z≤9223372036854775807:=by
 rcases open_ints Tryz.underlying31 Tryz.underlying3 Bu hf with⟨rfl,hx⟩|⟨a,len,cap,ss,rfl,_,hl,hm,hz,hx,hcell,hwz⟩
 ·exact⟨_,[],rfl,AY.nil _ _,by simp,λz hz=>by cases hz⟩
 ·simp only[if_true]at hz;obtain⟨b,C,A⟩:=a;have o:(ss.take len).length=len:=by rw[List.length_take];omega
  refine⟨_,ss.take len,rfl,?_,by rw[o];omega,λz hz2=>(IK (hwz z (List.mem_of_mem_take hz2))).2⟩;refine⟨some ⟨b,C,A⟩,cap,by rw[o],by rw[o];exact hl,(λe=>by cases e),by rw[B3,Nat.mul_one],λi s hi=>?_⟩;unfold AZ at hi;rw[List.getElem?_map]at hi;obtain⟨z,E,rfl⟩:=Option.map_eq_some_iff.1 hi;have D:ss[i]?=some z:=Ej E;have F:i<ss.length:=(List.getElem?_eq_some_iff.1 D).1;have G:=hcell 0 (by omega);have B:A=none:=by simpa [Addr.add] using World.cell?_spot G
  subst B;refine⟨b,C,rfl,?_,?_⟩
  ·have:=D3 G
   simpa [Addr.add] using this
  ·have:=hcell i F;rw[add_plain]at this;rw[this,List.getD_eq_getElem?_getD,D];rfl
def POp.ok (o:POp):Prop:=o.fn≤9223372036854775807∧(∀z∈o.L,z≤9223372036854775807)∧o.segs.length≤9223372036854775807∧o.data.length≤9223372036854775807∧o.L.length≤9223372036854775807
theorem BN {α:Type} {xs:List α} {n i:Nat} (h:xs.length=n) (hi:i<n):∃y,xs[i]?=some y:=⟨_,ZG (by omega)⟩
theorem Jp {cs:List Value} {x:DataW H×List MemPlace} {fuel:Nat} (hf:DataW.trod enc Tryz.prog W 0 (λ_=>true) true fuel 42 cs=some x):∃o sv dv lv,cs=(BW o sv dv lv).toList∧EB W o sv dv lv∧o.ok:=by
 obtain⟨U,n,-,-,hl,C,D⟩:=DataW.trod_struct Tryz.underlying42 hf;rw[Fx]at hl
 match cs,hl with
 | [c0,c1,c2,c3,c4,c5,c6,c7,c8],_ =>
  have h0:DataW.trod enc Tryz.prog W 0 (λ_=>true) true n 3 ((List.drop 0 [c0,c1,c2,c3,c4,c5,c6,c7,c8]).take (Tryz.prog.cellsOf 3))=U[0]?:=D 0 _ rfl;have M:DataW.trod enc Tryz.prog W 0 (λ_=>true) true n 37 ((List.drop 1 [c0,c1,c2,c3,c4,c5,c6,c7,c8]).take (Tryz.prog.cellsOf 37))=U[1]?:=D 1 _ rfl;have J:DataW.trod enc Tryz.prog W 0 (λ_=>true) true n 40 ((List.drop 3 [c0,c1,c2,c3,c4,c5,c6,c7,c8]).take (Tryz.prog.cellsOf 40))=U[2]?:=D 2 _ rfl;rw[Bu]at h0;rw[HY]at M;rw[IA]at J;obtain⟨y0,e0⟩:=BN (i:=0) C (by decide);obtain⟨y1,e1⟩:=BN (i:=1) C (by decide);obtain⟨y2,e2⟩:=BN (i:=2) C (by decide);rw[e0]at h0;rw[e1]at M;rw[e2]at J;obtain⟨kind,r0,-,-⟩:=DataW.trod_int Tryz.underlying3 h0;obtain⟨xm,nm,-,-,-,F,G⟩:=DataW.trod_struct Tryz.underlying37 M;have I:DataW.trod enc Tryz.prog W 0 (λ_=>true) true nm 3 ((List.drop 0 [c1,c2]).take (Tryz.prog.cellsOf 3))=xm[0]?:=G 0 _ rfl;have X:DataW.trod enc Tryz.prog W 0 (λ_=>true) true nm 31 ((List.drop 1 [c1,c2]).take (Tryz.prog.cellsOf 31))=xm[1]?:=G 1 _ rfl;rw[Bu]at I;rw[D9]at X;obtain⟨z0,f0⟩:=BN (i:=0) F (by decide);obtain⟨z1,f1⟩:=BN (i:=1) F (by decide);rw[f0]at I;rw[f1]at X;obtain⟨ver,r1,-,-⟩:=DataW.trod_int Tryz.underlying3 I;obtain⟨sv,segs,r2,S,V,-⟩:=GV X;obtain⟨E,no,-,-,-,A,B⟩:=DataW.trod_struct Tryz.underlying40 J;have K:DataW.trod enc Tryz.prog W 0 (λ_=>true) true no 3 ((List.drop 0 [c3,c4,c5,c6,c7,c8]).take (Tryz.prog.cellsOf 3))=E[0]?:=B 0 _ rfl;rw[Bu]at K;have Y:DataW.trod enc Tryz.prog W 0 (λ_=>true) true no 3 ((List.drop 1 [c3,c4,c5,c6,c7,c8]).take (Tryz.prog.cellsOf 3))=E[1]?:=B 1 _ rfl;rw[Bu]at Y;have N:DataW.trod enc Tryz.prog W 0 (λ_=>true) true no 9 ((List.drop 2 [c3,c4,c5,c6,c7,c8]).take (Tryz.prog.cellsOf 9))=E[2]?:=B 2 _ rfl;rw[Eu]at N;have o3:DataW.trod enc Tryz.prog W 0 (λ_=>true) true no 9 ((List.drop 3 [c3,c4,c5,c6,c7,c8]).take (Tryz.prog.cellsOf 9))=E[3]?:=B 3 _ rfl;rw[Eu]at o3;have Z:DataW.trod enc Tryz.prog W 0 (λ_=>true) true no 38 ((List.drop 4 [c3,c4,c5,c6,c7,c8]).take (Tryz.prog.cellsOf 38))=E[4]?:=B 4 _ rfl;rw[Im]at Z;have R:DataW.trod enc Tryz.prog W 0 (λ_=>true) true no 31 ((List.drop 5 [c3,c4,c5,c6,c7,c8]).take (Tryz.prog.cellsOf 31))=E[5]?:=B 5 _ rfl;rw[D9]at R;obtain⟨p0,g0⟩:=BN (i:=0) A (by decide);obtain⟨p1,g1⟩:=BN (i:=1) A (by decide);obtain⟨p2,g2⟩:=BN (i:=2) A (by decide);obtain⟨p3,g3⟩:=BN (i:=3) A (by decide);obtain⟨p4,g4⟩:=BN (i:=4) A (by decide);obtain⟨p5,g5⟩:=BN (i:=5) A (by decide);rw[g0]at K;rw[g1]at Y;rw[g2]at N;rw[g3]at o3;rw[g4]at Z;rw[g5]at R;obtain⟨fk,r3,-,-⟩:=DataW.trod_int Tryz.underlying3 K;obtain⟨fn,r4,-,Q⟩:=DataW.trod_int Tryz.underlying3 Y;obtain⟨name,r5,-,-⟩:=DataW.trod_string Tryz.underlying9 N;obtain⟨dest,r6,-,-⟩:=DataW.trod_string Tryz.underlying9 o3;obtain⟨dv,data,r7,P,T⟩:=Gm Z;obtain⟨lv,L,r8,ab,ac,O⟩:=GV R;obtain rfl:c0=_:=by simpa using r0
  obtain rfl:c1=_:=by simpa using r1
  obtain rfl:c2=_:=by simpa using r2
  obtain rfl:c3=_:=by simpa using r3
  obtain rfl:c4=_:=by simpa using r4
  obtain rfl:c5=_:=by simpa using r5
  obtain rfl:c6=_:=by simpa using r6
  obtain rfl:c7=_:=by simpa using r7
  obtain rfl:c8=_:=by simpa using r8
  unfold maxLen at V T ac;exact⟨⟨kind,ver,segs,fk,fn,name,dest,data,L⟩,_,_,_,rfl,⟨S,P,ab⟩,(IK Q).2,O,by show segs.length≤_;omega,by show data.length≤_;omega,by show L.length≤_;omega⟩
theorem Fg {n:Nat} {Q:Nat→POp→Prop} (h:∀i,i<n→∃o,Q i o):∀m,m≤n→∃ls:List POp,ls.length=m∧∀(i:Nat) o,ls[i]?=some o→Q i o
 | 0,_=>⟨[],rfl,λi l hi=>by simp at hi⟩
 | m+1,hm=>by
  obtain⟨ls,B,C⟩:=Fg h m (by omega);obtain⟨l,A⟩:=h m (by omega);refine⟨ls++[l],by rw[List.length_append,B];rfl,λi x hi=>?_⟩;by_cases hlt:i<ls.length
  ·rw[List.getElem?_append_left hlt]at hi;exact C i x hi
  ·rw[List.getElem?_append_right (by omega)]at hi;have:i-ls.length=0:=by
    have:=(List.getElem?_eq_some_iff.1 hi).1;simp at this;omega
   rw[this]at hi;simp at hi;subst hi;rw[show i=m by omega];exact A
theorem ops_of {v:Value} {d:DataW H} {p:List MemPlace} (h:DataW.Trod enc Tryz.prog W 0 (λ_=>true) true 22 v d p)
  {r:Reach} {base:Nat} (hv:Value.okWide Tryz.prog W r base 22 v):∃ls,E6 W v ls∧ls.length≤maxLen∧∀o∈ls,o.ok:=by
 obtain⟨a0,F,N,rfl⟩:=okWide_slice Tryz.underlying22 hv;obtain⟨X,hf⟩:=h;rcases DataW.trod_slice Tryz.underlying22 hf with⟨hcs,-⟩|⟨a,len,cap,elems,rest,n',e2,hcs,-,-,S,hcm,hel,hrd,-⟩
 ·simp[Value.cells]at hcs;obtain⟨rfl,rfl,rfl⟩:=hcs;exact⟨[],⟨none,0,rfl,λi l G=>by simp at G⟩,by simp,λl hl=>by simp at hl⟩
 ·simp[Value.cells]at hcs;obtain⟨rfl,rfl,rfl⟩:=hcs;rw[Fx]at hrd;obtain⟨b,D,A⟩:=a;have U:0<F→A=none:=λh0=>by
   have M:=hrd 0 h0;rw[ZG (by omega:0<elems.length),Option.bind_eq_some_iff]at M;obtain⟨V,B,-⟩:=M;obtain⟨_,S,C⟩:=World.cells?_some B;have E:=C 0 (by omega);rw[ZG (by omega:0<V.length)]at E;have Y:((⟨b,D,A⟩:Addr).add (0*9)).add 0=⟨b,D,A⟩:=by simp[Addr.add]
   rw[Y]at E;exact World.cell?_spot E
  have P:∀i,i<F→∃o:POp,A=none∧o.ok∧∃sv dv J,b<W.heap.size∧(∀(j:Nat) c,(BW o sv dv J)[j]?=some c→W.cell? ⟨b,D+i*9+j,none⟩=some c)∧EB W o sv dv J:=λi G=>by
   have M:=hrd i G;rw[ZG (by omega:i<elems.length),Option.bind_eq_some_iff]at M;obtain⟨V,B,Z⟩:=M;obtain⟨o,sv,dv,J,rfl,R,Q⟩:=Jp Z;obtain⟨_,_,C⟩:=World.cells?_some B;have E:=C 0 (by omega);have I:A=none:=U (by omega);subst I;refine⟨o,rfl,Q,sv,dv,J,?_,λj c hj=>?_,R⟩
   ·rw[Addr.add_add]at E;have O:=D3 E;have h4:((⟨b,D,none⟩:Addr).add (i*9+0)).block=b:=by unfold Addr.add;split<;>rfl
    rw[h4]at O;exact O
   ·have T:j<9:=(Array.getElem?_eq_some_iff.1 hj).1;have:=C j T;rw[add_plain,add_plain,Array.getElem?_toList,hj]at this;exact this
  obtain⟨ls,K,L⟩:=Fg P F (Nat.le_refl _);refine⟨ls,⟨some ⟨b,D,A⟩,N,by rw[K],λi o G=>?_⟩,by rw[K];omega,λo ho=>?_⟩
  ·obtain⟨hs,-,sv,dv,J,R,Q,O⟩:=L i o G;subst hs;exact⟨b,D,sv,dv,J,rfl,R,Q,O⟩
  ·obtain⟨i,G⟩:=List.getElem?_of_mem ho;exact (L i o G).2.1
end
open Go.ChangeShapes Go.WideShapes Go.ChangeAt
theorem own:ownKnob Tryz.prog.godebug=none:=by kernel_rfl
theorem laidOut:laidOutB Tryz.prog=true:=by kernel_rfl
abbrev laidList : List (String × DataW Unit) := [("math/bits.deBruijn32tab", Rows.laid_math_bits_deBruijn32tab), ("math/bits.deBruijn64tab", Rows.laid_math_bits_deBruijn64tab), ("internal/strconv.uint64pow10", Rows.laid_internal_strconv_uint64pow10), ("unicode/utf8.acceptRanges", Rows.laid_unicode_utf8_acceptRanges), ("strconv.ErrRange", Rows.laid_strconv_ErrRange), ("strconv.ErrSyntax", Rows.laid_strconv_ErrSyntax), ("unicode/utf8.first", Rows.laid_unicode_utf8_first)]
theorem Hy : "*" ++ "errors.errorString" = "*errors.errorString" := by decide
theorem JP (u : TypeId) (h : Tryz.prog.typeName? 3 u = some "*errors.errorString") : u = 225 :=
 typeName_ptr_named (nm := "errors.errorString") (by rw [Hy]; kernel_rfl) (by kernel_rfl) (by decide) u (by rw [Hy]; exact h)
theorem GZ:Tryz.prog.cellsOf 227=1:=by kernel_rfl
theorem Fq:Tryz.prog.cellsOf 9=1:=by kernel_rfl
theorem IP {W:World} {n:String} {g:Nat} {cs:Array Value} (hg:Tryz.prog.globalNamed n=some g) (h:W.var? Tryz.prog n=some cs):g<W.heap.size:=by
 unfold World.var? at h;rw[hg]at h;rcases Nat.lt_or_ge g W.heap.size with h'|h'
 ·exact h'
 ·simp[Array.getElem?_eq_none h']at h
theorem env_of {W:World} (hL:laidMet Tryz.prog laidList W) (hS:W.ShapedOpen Tryz.prog):EX W.heap.size W:=by
 have C : Lib.TabIs Tryz.prog W "internal/strconv.uint64pow10" .u64 Lib.pow10Tab :=
  Lib.tabIs_of_head (g := 2) (by kernel_rfl) (by kernel_rfl) Tryz.underlying220 Tryz.underlying198 (by kernel_rfl) (by kernel_rfl) (show laidMet Tryz.prog (("internal/strconv.uint64pow10", Lib.tabData .u64 Lib.pow10Tab) :: _) W from hL.tail.tail)
 obtain⟨F,G,o,-,-,-⟩:=laid_sentinel hL.tail.tail.tail.tail (g:=1) (by kernel_rfl) (by kernel_rfl) Tryz.underlying143 JP Tryz.underlying225 Tryz.underlying227 rfl rfl Tryz.underlying9 GZ Fq;obtain⟨H,E,B,-,-,-⟩:=laid_sentinel hL.tail.tail.tail.tail.tail (g:=0) (by kernel_rfl) (by kernel_rfl) Tryz.underlying143 JP Tryz.underlying225 Tryz.underlying227 rfl rfl Tryz.underlying9 GZ Fq;have D:∃m,W.cell? ⟨3,0,none⟩=some (.int .i64 m):=cell_of_shapedOpen_int (zero:=#[.int .i64 0]) (t:=3) hS (of_decide_eq_true (by kernel_rfl)) (by kernel_rfl) rfl (by kernel_rfl) (by kernel_rfl) Tryz.underlying3;obtain⟨m,A⟩:=D;exact⟨⟨C,⟨_,_,o⟩,⟨_,_,B⟩,IP (by kernel_rfl) C,IP (by kernel_rfl) o,IP (by kernel_rfl) B⟩,⟨m,A⟩,AN A⟩
abbrev Jz:ByteArray:={ data:=#[105,110,118,97,108,105,100,32,115,121,110,116,97,120] }
abbrev J6:ByteArray:={ data:=#[118,97,108,117,101,32,111,117,116,32,111,102,32,114,97,110,103,101] }
noncomputable def low:Nat:=(World.holding Tryz.prog default ⟨#[],#[],[]⟩).heap.size
def Ju:List Int:=[0,1,28,2,29,14,24,3,30,22,20,15,25,17,4,8,31,27,13,23,21,19,16,7,26,12,18,6,11,5,10,9]
def Jy:List Int:=[0,1,56,2,57,49,28,3,61,58,42,50,38,29,17,4,62,47,59,36,45,43,51,22,53,39,33,30,24,18,12,5,63,55,48,27,60,41,37,16,46,35,44,21,52,32,23,11,54,26,40,15,34,20,31,10,25,14,19,9,13,8,7,6]
noncomputable def laidWorld (os:Os):World :=
 let w0:=World.holding Tryz.prog os ⟨#[.cells #[.string Jz] 227,.cells #[.string J6] 227],#[],[]⟩
 let put (h:Array Obj) (g:Nat) (cs:Array Value):Array Obj:=h.modify g fun
  | .cells _ t frozen=>.cells cs t frozen
  | o=>o
 let h1:=put w0.heap 0 #[.iface 225 (.pointer (some ⟨low,0,none⟩))]
 let h2:=put h1 1 #[.iface 225 (.pointer (some ⟨low+1,0,none⟩))]
 let h3:=put h2 2 (Lib.pow10Tab.map λz=>Value.int .u64 z).toArray
 let h4:=put h3 6 (Ju.map λz=>Value.int .u8 z).toArray
 let h5:=put h4 7 (Jy.map λz=>Value.int .u8 z).toArray
 let h6:=put h5 4 (Lib.firstTab.map λz=>Value.int .u8 z).toArray
 let h7:=put h6 5 ((List.range 16).flatMap λi=>[Value.int .u8 (Lib.accLo i),Value.int .u8 (Lib.accHi i)]).toArray
 { w0 with heap:=h7 }
theorem laid_met (os:Os) (args:Array Value):laidMet Tryz.prog laidList ((laidWorld os).forCall (λ_ _=>0) ⟨#[],args,[]⟩).memory :=
 (LaidIn.of_run (l:=laidList) [0,1,2,6,7,4,5,low,low+1] 8 (by kernel_rfl) (by kernel_rfl) (by kernel_rfl) (by kernel_rfl)).met
end Go.Proofs.YtmlekglfdiacpaaGreatDoor
