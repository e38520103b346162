/-
  Manifests: Clean, walked. The document's manifests: what stands between the steps; Has, walked. The document's file system beside the program's; Steps, walked. The law's own words on file systems: is all that is told the document's? Walked. A call played on both file systems: what stands within.
-/
import Derived.Test.YtmlekglfdiacpaaGreatDoorZp17
import Derived.Test.YtmlekglfdiacpaaGreatDoorZp10
import Derived.Test.YtmlekglfdiacpaaGreatDoorZp6
import Derived.Test.YtmlekglfdiacpaaGreatDoorZp14
import Derived.Test.YtmlekglfdiacpaaGreatDoorZp13
open Go.Lib renaming hid → QA
open List renaming mem_of_getElem? → QZ, drop_eq_getElem_cons → ZB, getElem?_map → ZF, getElem?_eq_getElem → ZG
open Nat renaming le_refl → QM, le_trans → QQ, zero_le → ZS, lt_of_lt_of_le → ZT
namespace Go.Proofs.YtmlekglfdiacpaaGreatDoor
set_option maxRecDepth 100000
set_option maxHeartbeats 4000000
set_option linter.unusedSimpArgs false
set_option linter.unusedVariables false
open Go Go.RowKit
open Go.Maps Go.WideMaps
theorem Eg {w:World} {a:Option Addr} {n c:Nat} {zs:List Int} (h:Ints w (.slice a n c) zs) (hn:zs.length≤1000000000) (x:Int) :
  Calls Tryz.prog 51 #[.slice a n c,.int .i64 x] w λe w'=>e=.returned (.bool (zs.contains x))∧w'=w:=by
 obtain⟨I,H,A,C⟩:=h;simp only[Value.slice.injEq]at A;obtain⟨rfl,rfl,rfl⟩:=A;cases zs with
 | nil=>exact (Tryz.slices_Contains_int_empty a c x w).mono (by rintro e w' ⟨rfl,rfl⟩;exact⟨rfl,rfl⟩)
 | cons y r =>
  obtain⟨b,o,F,_,_⟩:=C 0 y rfl;subst F;refine (Tryz.slices_Contains_int b o (y::r).length c (y::r) x w (QM _) (by omega) ?_).mono ?_
  ·intro j hj;obtain⟨G,D,B,_,E⟩:=C j (y::r)[j] (ZG hj);simp only[Option.some.injEq,Addr.mk.injEq,and_true]at B;obtain⟨rfl,rfl⟩:=B;rw[E,List.getD_eq_getElem?_getD,ZG hj];rfl
  ·rintro e w' ⟨rfl,rfl⟩;refine⟨congrArg (λb=>Ending.returned (.bool b)) ?_,rfl⟩;rw[List.take_of_length_le (QM _)]
theorem Ints.others {w w':World} {own own':Nat→Tag} {a:Option Addr} {n c:Nat} {l:List Int} (h:Ints w (.slice a n c) l) (hot:∀p,a=some p→own p.block=.other) (ho:A8 own own' w w'):Ints w' (.slice a n c) l:=by
 obtain⟨F,D,A,E⟩:=h;refine⟨F,D,A,λi x hi=>?_⟩;simp only[Value.slice.injEq]at A;obtain⟨b,o,e,B,C⟩:=E i x hi;obtain⟨H,G⟩:=ho.2 b B (hot ⟨b,o,none⟩ (by rw[A.1,e]));exact⟨b,o,e,ZT B ho.1,by rw[World.cell?_of_block G];exact C⟩
theorem AV.keep_ {own:Nat→Tag} {w w2 wr:World} (hb:Below w.heap.size w w2) (hk:Kept own (·≠.other) w2 wr):Kept own (·≠.other) w wr:=(AL hb).trans hk
theorem AV.end_ {base B:Nat} {st:Fs.St} {V:FsV} {own own':Nat→Tag} {w w2 wr:World} (hb:Below w.heap.size w w2) (h:Ad base B st V own' wr) (ho:∀b,b<w2.heap.size→own' b=own b) (hk:Kept own (·≠.other) w2 wr):AV base B st own w wr :=
 ⟨V,own',h,λb hb2=>ho b (ZT hb2 hb.size),AV.keep_ hb hk⟩
theorem Ge (base B:Nat) (st:Fs.St) (V:FsV) (own:Nat→Tag) (ver:Int) (sv:Value) (l:List Int) (w:World) (h:Ad base B st V own w) (hE:B5 base w) (hbase:base≤w.heap.size) (k:Nat) (hS:Fs.Sound st k) (hk:k≤200000) (hP:Fs.PlanOK st)
  (hN:Be w sv l) (hl:l.length≤1000000000) (hot:∀p n c,sv=.slice (some p) n c→own p.block=.other) :
  Calls Tryz.prog 12 #[.pointer (some ⟨B,0,none⟩),.agg #[.int .i64 ver,sv]] w λe w'=>e=.returned (.tuple #[.int .i64 ((Fs.clean st ver l).2.1:Nat),.int .i64 (Fs.clean st ver l).2.2])∧AV base B (Fs.clean st ver l).1 own w w':=by
 obtain⟨sa,sc,rfl⟩:=hN.form;have av:Below w.heap.size w (w.alloc (.cells #[.int .i64 ver,.slice sa l.length sc] 37)):=(Below.refl _ _).alloc (QM _) _;have T:=AH w (.cells #[.int .i64 ver,.slice sa l.length sc] 37);have y0:=AA T 0 _ rfl;have y1:=AA T 1 _ rfl;have H:=QA h;have HE:=QA hE;have HN:=QA hN;have Z:=QA av;have al:=QA T;have aN:Hid (∀p,sa=some p→own p.block=.other):=QA λp S=>hot p _ _ (by rw[S])
 have br:=hS.ndir;clear h hE hN av T hot;go_enter Tryz.func12,Tryz.ntmps12;go_wp2_with fail;refine (Ey ver _ l _ (HN.out.below Z.out) hl).mono ?_;rintro e w1 ⟨rfl,hb1⟩;have P:=QA (Z.out.trans (hb1.mono Z.out.size));have H1:=QA (H.out.kept (AL P.out));have aA:Hid (w1.heap[w.heap.size]?=_):=QA ((hb1.block _ (AE al.out)).trans al.out);clear hb1 y0 y1;cases hg:Mf.good ver l
 ·have HE:Hid (Fs.clean st ver l=(st,0,1)):=by unfold Fs.clean;rw[if_pos hg];exact QA rfl
  have HC:Hid (Mf.chk ver l=1):=by unfold Mf.chk;rw[hg];exact QA rfl
  rw[HC.out];clear hg;go_wp2_with fail;refine bodyPost_ret (v:=.tuple #[.int .i64 0,.int .i64 1]) (by simp[results,Tryz.results12,go_sem]) rfl ?_;rw[HE.out];exact⟨rfl,AV.of H.out P.out⟩
 ·have aU:Hid (Fs.clean st ver l=Fs.cleanGo l (Fs.keys st.dir) st 0):=by unfold Fs.clean;rw[if_neg (by rw[hg];simp)];exact QA rfl
  have HC:Hid (Mf.chk ver l=0):=by unfold Mf.chk;rw[hg];exact QA rfl
  rw[HC.out];clear hg HC;go_wp2_with fail;refine (Dw base B st V own w1 H1.out (by omega)).mono ?_;rintro e w2 ⟨v,rfl,hStr,hvo,hb2⟩;obtain⟨la,lc,hv⟩:=hStr.form;subst hv;have F:=QA (P.out.trans (hb2.mono P.out.size));have a4:=QA hb2;have H2:=QA (H.out.kept (AL F.out));have ag:=(hb2.block _ (AE aA.out)).trans aA.out;have aO:=QA ag;have aJ:w.heap.size<w2.heap.size:=AE ag;have X:=QA hStr;have aR:Hid (∀p,la=some p→own p.block=.other):=QA λp S=>H.out.fresh _ (by
   have:=hvo p.block (by rw[S];rfl);exact QQ P.out.size this)
  have aT:(strsOf (Fs.keys st.dir)).length≤200000:=by rw[Ci];omega
  have ac:Hid ((strsOf (Fs.keys st.dir)).length=(Fs.keys st.dir).length):=QA (by unfold strsOf;rw[List.length_map]);obtain⟨N,hN⟩:∃N,N=(strsOf (Fs.keys st.dir)).length:=⟨_,rfl⟩
  rw[← hN]at aT ac X ⊢;clear hStr hvo hb2 ag hN;go_wp2_with fail
  go_loopg [7,21] N (λk' s7 s21 wr=>∃(j n:Nat) (A:Fs.St) (V':FsV) (D:Nat→Tag),j≤N∧n≤j∧k'=N-j∧s21=.int .i64 (j:Nat)∧s7=.int .i64 (n:Nat)∧Ad base B A V' D wr∧Fs.Sound A (k+2*j) ∧
   (∀b,b<w2.heap.size→D b=own b)∧Kept own (·≠.other) w2 wr∧Fs.cleanGo l ((Fs.keys st.dir).drop j) A n=Fs.clean st ver l)
  case atStart=>exact⟨0,0,st,V,own,ZS _,QM _,rfl,rfl,rfl,H2.out,hS,λ_ _=>rfl,Kept.refl _ _ _,aU.out.symm⟩
  case round =>
   obtain⟨j,n,A,V',D,hj,bc,aq,rfl,rfl,aC,R,Y,Q,ay⟩:=hrel;have HK:=QA aq;have ad:=QA aC;have aa:=QA R;have E:=QA Y;have o:=QA Q;have aw:=QA ay;have bf:=R.ndir;have bb:=R.nf;have bd:=R.nc;clear aq aC R Y Q ay;have bq:(0:Int)≤(j:Int):=Int.natCast_nonneg _;have bi:(0:Int)≤(n:Int):=Int.natCast_nonneg _;by_cases hjn:j<N
   ·have ak:(j:Int)<(N:Int):=by omega
    obtain⟨x,hx⟩:∃x,(Fs.keys st.dir)[j]?=some x:=⟨_,ZG (by rw[← ac.out];exact hjn)⟩
    have au:(strsOf (Fs.keys st.dir))[j]?=some ⟨x.toArray⟩:=by unfold strsOf;rw[ZF,hx];rfl
    obtain⟨b,M,rfl,ao,O⟩:∃b M,la=some ⟨b,M,none⟩∧b<w2.heap.size∧w2.cell? ⟨b,M+j,none⟩=some (.string ⟨x.toArray⟩):=by
     obtain⟨a',c',h1,h2⟩:=X.out;obtain⟨b,M,e1,e2,e3⟩:=h2 j _ au;simp only[Value.slice.injEq]at h1;exact⟨b,M,by rw[h1.1,e1],e2,e3⟩
    have G:A8 own D w2 wr:=⟨o.out.size,λb hb h1=>⟨(E.out b hb).trans h1,o.out.block b hb (by rw[h1];simp)⟩⟩
    have am:wr.cell? ⟨b,M+j,none⟩=some (.string ⟨x.toArray⟩):=by
     rw[World.cell?_of_block (G.2 b ao (aR.out _ rfl)).2];exact O
    have an:wr.heap[w.heap.size]?=some (.cells #[.int .i64 ver,.slice sa l.length sc] 37 (0,0)):=((G.2 _ aJ (H.out.fresh _ (QM _))).2).trans aO.out;have aB:=QA ((HN.out.ints.below F.out).others aN.out G);have aE:=QA an;have aY:x.length≤20:=by
     obtain⟨p,S,e⟩:=Fs.mhas_mem.1 (Fs.keys_mem.1 (QZ hx));rw[← e];exact Fs.good_len (hS.dir p S).2
    obtain⟨s,hs,ai⟩:∃s:ByteArray,s=⟨x.toArray⟩∧s.data.toList=x:=⟨_,rfl,by simp⟩
    have ax:s.size≤1000000:=by rw[hs];show x.toArray.size≤_;simp;omega
    rw[← hs]at am;have HD:Hid (Fs.clean st ver l=if Fs.keepN l x then Fs.cleanGo l ((Fs.keys st.dir).drop (j+1)) A n else if (Fs.remove A x).2≠0 then ((Fs.remove A x).1,n,(Fs.remove A x).2) else Fs.cleanGo l ((Fs.keys st.dir).drop (j+1)) (Fs.remove A x).1 (n+1)):=by
     rw[← aw.out];obtain⟨h1,h2⟩:=List.getElem?_eq_some_iff.1 hx;rw[ZB h1,h2,Fs.cleanGo];exact QA rfl
    have bn:w2.heap.size≤wr.heap.size:=o.out.size;have aX:base≤wr.heap.size:=by omega
    have aS:=QA (HE.out.below (B:=base) (by
     refine⟨o.out.os.trans F.out.os,o.out.tape.trans F.out.tape,o.out.output.trans F.out.output,by omega,λb hb=>?_⟩;rw[o.out.block b (by omega) (by rw[H.out.old b hb];simp),F.out.block b (by omega)]))
    rw[← ai]at HD;clear hx au O an ao hs aY ai;go_wp2_with fail;refine (Jn _ wr base aS.out aX ax).mono ?_;rintro e w3 ⟨rfl,hb3⟩;have L:=QA hb3;have be:=hb3.size;have e1:w3.cell? ⟨w.heap.size,1,none⟩=some (.slice sa l.length sc):=AA ((hb3.block _ (AE aE.out)).trans aE.out) 1 _ rfl;have az:=QA (aB.out.below hb3);have H3:=QA (ad.out.kept (AL hb3));have bh:Hid (A8 own D w2 w3):=QA (G.next (λ_ _=>rfl) (AL hb3));clear hb3 am G;by_cases hf:s.data.toList=Mf.final
    ·have aL:s=⟨#[109,97,110,105,102,101,115,116]⟩:=by
      apply ByteArray.ext;apply Array.ext';exact hf
     subst aL;have K:Hid (Fs.clean st ver l=Fs.cleanGo l ((Fs.keys st.dir).drop (j+1)) A n):=by
      rw[HD.out,if_pos (by unfold Fs.keepN;rw[decide_eq_true hf];rfl)];exact QA rfl
     clear hf;go_wp2_with fail;go_roundg (N-(j+1))
     case measure=>rw[HK.out];omega
     case rel=>exact⟨j+1,n,A,V',D,by omega,by omega,rfl,by simp,rfl,H3.out,aa.out.mono (by omega),E.out,o.out.trans (AL L.out),K.out.symm⟩
    ·have aI:(s.toList==[109,97,110,105,102,101,115,116])=false:=by
      rw[beq_eq_false_iff_ne];intro e;rw[ByteArray.toList_eq]at e;exact hf e
     go_wp2_with fail;refine (Eg az.out hl _).mono ?_;rintro e w4 ⟨rfl,hw4⟩;subst hw4;obtain⟨q,hq⟩:∃q,q=l.contains (Sg.idOf s.data.toList):=⟨_,rfl⟩
     rw[← hq];cases q
     ·have K:Hid (Fs.clean st ver l=if (Fs.remove A s.data.toList).2≠0 then ((Fs.remove A s.data.toList).1,n,(Fs.remove A s.data.toList).2) else Fs.cleanGo l ((Fs.keys st.dir).drop (j+1)) (Fs.remove A s.data.toList).1 (n+1)):=by
       rw[HD.out,if_neg (by unfold Fs.keepN;rw[decide_eq_false hf,← hq];simp)];exact QA rfl
      clear hf aI hq;go_wp2_with fail;refine (Cl base B A V' D s w4 H3.out (by omega) ax (by omega) (by omega) (by omega)).mono ?_;rintro e w5 ⟨rfl,S⟩;obtain⟨V5,W,h5,aD,J⟩:=S;have U:Hid (∀b,b<w2.heap.size→W b=own b):=QA λb hb=>(aD b (by omega)).trans (E.out b hb)
      have ar:Hid (Kept own (·≠.other) w2 w5):=by
       refine QA ⟨J.os.trans (L.out.os.trans o.out.os),J.tape.trans (L.out.tape.trans o.out.tape),J.output.trans (L.out.output.trans o.out.output),by have:=J.size;omega,λb hb ht=>?_⟩;rw[J.block b (by omega) (by rw[E.out b hb];exact ht),L.out.block b (by omega)];exact o.out.block b hb ht
      have H5:=QA h5;have aM:=QA (aa.out.remove s.data.toList);obtain⟨C,hC⟩:∃C,C=(Fs.remove A s.data.toList).2:=⟨_,rfl⟩
      rw[← hC];have ae:=QA hC;clear hC h5 aD J;by_cases hC0:C=0
      ·subst hC0;have I:Hid (Fs.cleanGo l ((Fs.keys st.dir).drop (j+1)) (Fs.remove A s.data.toList).1 (n+1)=Fs.clean st ver l):=by
        rw[K.out,if_neg (by rw[← ae.out];simp)];exact QA rfl
       go_wp2_with fail;go_roundg (N-(j+1))
       case measure=>rw[HK.out];omega
       case rel=>exact⟨j+1,n+1,_,V5,W,by omega,by omega,rfl,by simp,by simp,H5.out,aM.out.mono (by omega),U.out,ar.out,I.out⟩
      ·have aP:(C != 0)=true:=by rw[bne_iff_ne];exact hC0
       have a8:(C==0)=false:=by rw[beq_eq_false_iff_ne];exact hC0
       have I:Hid (Fs.clean st ver l=((Fs.remove A s.data.toList).1,n,C)):=by
        rw[K.out,if_pos (by rw[← ae.out];exact hC0),← ae.out];exact QA rfl
       clear hC0;go_wp2_with fail;refine bodyPost_ret (v:=.tuple #[.int .i64 (n:Nat),.int .i64 C]) (by simp[results,Tryz.results12,go_sem]) rfl ?_;rw[I.out];exact⟨rfl,AV.end_ F.out H5.out U.out ar.out⟩
     ·have K:Hid (Fs.clean st ver l=Fs.cleanGo l ((Fs.keys st.dir).drop (j+1)) A n):=by
       rw[HD.out,if_pos (by unfold Fs.keepN;rw[← hq];simp)];exact QA rfl
      clear hf hq;go_wp2_with fail;go_roundg (N-(j+1))
      case measure=>rw[HK.out];omega
      case rel=>exact⟨j+1,n,A,V',D,by omega,by omega,rfl,by simp,rfl,H3.out,aa.out.mono (by omega),E.out,o.out.trans (AL L.out),K.out.symm⟩
   ·have ak:(N:Int)≤(j:Int):=by omega
    have HD:Hid (Fs.clean st ver l=if n=0 then (A,0,0) else ((Fs.syncDir A).1,n,(Fs.syncDir A).2)):=by
     rw[← aw.out,List.drop_of_length_le (by rw[← ac.out];omega),Fs.cleanGo];exact QA rfl
    by_cases hn:n=0
    ·subst hn;have I:Hid (Fs.clean st ver l=(A,0,0)):=by rw[HD.out,if_pos rfl];exact QA rfl
     go_wp2_with fail;refine bodyPost_ret (v:=.tuple #[.int .i64 0,.int .i64 0]) (by simp[results,Tryz.results12,go_sem]) rfl ?_;rw[I.out];exact⟨rfl,AV.end_ F.out ad.out E.out o.out⟩
    ·have aP:((n:Int)==0)=false:=by rw[beq_eq_false_iff_ne];omega
     have a9:0<(n:Int):=by omega
     have I:Hid (Fs.clean st ver l=((Fs.syncDir A).1,n,(Fs.syncDir A).2)):=by rw[HD.out,if_neg hn];exact QA rfl
     clear hn;go_wp2_with fail;refine (CL base B A V' D wr ad.out).mono ?_;rintro e w5 ⟨rfl,S⟩;have aZ:=QA (AV.step (AV.keep_ F.out o.out) (λb hb=>(E.out b (by omega))) S);clear S;go_wp2_with fail;refine bodyPost_ret (v:=.tuple #[.int .i64 (n:Nat),.int .i64 (Fs.syncDir A).2]) (by simp[results,Tryz.results12,go_sem]) rfl ?_;rw[I.out];exact⟨rfl,aZ.out⟩
open Go.Maps Go.WideMaps
structure Fs.Fit (st:Fs.St) (k:Nat):Prop where
 sound:Fs.Sound st k
 plan:Fs.PlanOK st
 cap:Fs.Cap st
section
variable {st : Fs.St} {k : Nat} (h : Fs.Fit st k)
include h
theorem Fs.Fit.rok (hk:k≤200000):ROk st:=⟨h.cap.left,by have:=h.cap.plan;omega,by have:=h.cap.dir;omega,by have:=h.sound.nc;omega,λp hp=>(h.sound.dir p hp).1.1⟩
theorem Fs.Fit.rfl' (hk:k≤200000):RFl st:=⟨λp hp=>(h.sound.dir p hp).1.2,by have:=h.sound.nf;omega⟩
theorem Fs.Fit.mono {j:Nat} (hj:k≤j):Fs.Fit st j:=⟨h.sound.mono hj,h.plan,h.cap⟩
theorem Fs.Fit.remove (n:List UInt8):Fs.Fit (Fs.remove st n).1 (k+2):=⟨h.sound.remove n,h.plan.of (Fs.plan_remove _ _),h.cap.remove n⟩
theorem Fs.Fit.create (n:List UInt8):Fs.Fit (Fs.create st n).1 (k+2):=⟨h.sound.create n,h.plan.of (Fs.plan_create _ _),h.cap.create n⟩
theorem Fs.Fit.append (n b:List UInt8):Fs.Fit (Fs.append st n b).1 k:=⟨h.sound.append n b,h.plan.of (Fs.plan_append _ _ _),h.cap.append n b⟩
theorem Fs.Fit.sync (n:List UInt8):Fs.Fit (Fs.sync st n).1 k:=⟨h.sound.sync n,h.plan.of (Fs.plan_sync _ _),h.cap.sync n⟩
theorem Fs.Fit.rename (a b:List UInt8):Fs.Fit (Fs.rename st a b).1 (k+2):=⟨h.sound.rename a b,h.plan.of (Fs.plan_rename _ _ _),h.cap.rename a b⟩
theorem Fs.Fit.syncDir:Fs.Fit (Fs.syncDir st).1 k:=⟨h.sound.syncDir,h.plan.of (Fs.plan_syncDir _),h.cap.syncDir⟩
theorem Fs.Fit.f65:∀f∈st.files,f.1.length≤1000000:=λf hf=>by have:=(h.sound.full f hf).2;omega
end
structure RAu (w:World) (ver:Int) (sv:Value) (st0:Fs.St) (V0:RV) (st:Fs.St) (V:RV) (X:World):Prop where
 a:A9 X w.heap.size st V
 m:X.heap[w.heap.size+1]?=some (.cells #[.int .i64 ver,sv] 48 (0,0))
 b:X.heap[w.heap.size+2]?=some (.cells fs0 33 (0,0))
 e:Below w.heap.size w X
 s:w.heap.size+3≤X.heap.size
 rf0:RF w st0 V0
 lift:∀w0:World,X.heap.size≤w0.heap.size→(∀g,w.heap.size+3≤g→g<X.heap.size→w0.heap[g]?=X.heap[g]?)→RF w0 st0 V0→RF w0 st V
section
variable {w X X' : World} {ver : Int} {sv : Value} {st0 st st' : Fs.St} {V0 V V' : RV}
theorem RAu.start (h:RF w st V) (ver:Int) (sv:Value):RAu w ver sv st V st V (((w.alloc (.cells (AG st V) 33)).alloc (.cells #[.int .i64 ver,sv] 48)).alloc (.cells fs0 33)):=by
 have A:(w.alloc (.cells (AG st V) 33)).heap.size=w.heap.size+1:=by simp
 have o:((w.alloc (.cells (AG st V) 33)).alloc (.cells #[.int .i64 ver,sv] 48)).heap.size=w.heap.size+2:=by simp
 refine⟨?_,?_,?_,(((Below.refl _ _).alloc (QM _) _).alloc (by simp) _).alloc (by simp;omega) _,by simp,h,λ_ _ _ h=>h⟩
 ·show (World.alloc _ _).heap[w.heap.size]?=_;rw[Lib.alloc_old _ _ _ (by rw[o];omega),Lib.alloc_old _ _ _ (by rw[A];omega)];exact AH _ _
 ·rw[Lib.alloc_old _ _ _ (by rw[o];omega)];have:=AH (w.alloc (.cells (AG st V) 33)) (.cells #[.int .i64 ver,sv] 48);rw[A]at this;exact this
 ·have:=AH ((w.alloc (.cells (AG st V) 33)).alloc (.cells #[.int .i64 ver,sv] 48)) (.cells fs0 33);rw[o]at this;exact this
theorem RAu.rf (h:RAu w ver sv st0 V0 st V X):RF X st V:=h.lift X (QM _) (λ_ _ _=>rfl) (h.rf0.below h.e)
theorem RAu.one (h:RAu w ver sv st0 V0 st V X):V.one:=h.rf.one
theorem RAu.below (h:RAu w ver sv st0 V0 st V X) (hb:Below X.heap.size X X'):RAu w ver sv st0 V0 st V X':=by
 have o:=h.s;exact⟨(hb.block _ (by omega)).trans h.a,(hb.block _ (by omega)).trans h.m,(hb.block _ (by omega)).trans h.b,h.e.trans (hb.mono h.e.size),QQ o hb.size,h.rf0,λw0 h1 h2 h3=>h.lift w0 (QQ hb.size h1) (λg h4 h5=>(h2 g h4 (ZT h5 hb.size)).trans (hb.block g h5)) h3⟩
theorem RAu.put (h:RAu w ver sv st0 V0 st V X) (hb:Below X.heap.size X X') (hl:Bz X X' (λw0=>RF w0 st V) (λw0=>RF w0 st' V')):RAu w ver sv st0 V0 st' V' (rput X' w.heap.size st' V'):=by
 have B:=h.s;have o:=h.below hb;refine⟨BP o.a _ _,by rw[AW _ _ _ _ (by omega)];exact o.m,by rw[AW _ _ _ _ (by omega)];exact o.b,As o.e (QM _) _ _,by rw[Aa];exact o.s,o.rf0,λw0 h2 h3 h4=>?_⟩;rw[Aa]at h2;have A:∀g,w.heap.size+3≤g→g<X'.heap.size→w0.heap[g]?=X'.heap[g]?:=λg h6 h7=>(h3 g h6 (by rw[Aa];exact h7)).trans (AW _ _ _ _ (by omega))
 exact hl w0 h2 (λg h6 h7=>A g (by omega) h7) (o.lift w0 h2 A h4)
theorem RAu.post (h:RAu w ver sv st0 V0 st V X):Below w.heap.size w (rput X (w.heap.size+2) st V)∧A9 (rput X (w.heap.size+2) st V) (w.heap.size+2) st V∧Bz w (rput X (w.heap.size+2) st V) (λw0=>RF w0 st0 V0) (λw0=>RF w0 st V):=by
 refine⟨As h.e (by omega) _ _,BP h.b _ _,λw0 h1 h2 h3=>h.lift w0 (by rw[Aa]at h1;exact h1) (λg h4 h5=>?_) h3⟩;rw[h2 g (by omega) (by rw[Aa];exact h5),AW _ _ _ _ (by omega)]
theorem RAu.fin (h:RAu w ver sv st0 V0 st V X) {fn:Func} {a:Act} {I J:Nat} (hr:fn.results=#[.cell I 33,.tmp J]) (x:Int) (h4:a.tmps[I]?=some (.pointer (some ⟨w.heap.size+2,0,none⟩))) (h5:a.tmps[J]?=some (.int .i64 x)) (hd:a.defers=[]) :
  bodyPost Tryz.prog fn (ROp st0 V0 (st,x) w) .ret a (rput X (w.heap.size+2) st V):=by
 obtain⟨A,o,B⟩:=h.post;exact FF hr (w.heap.size+2) st V x h4 h5 hd o ⟨A,V,rfl,B⟩
end
theorem Fs.mhas_cons (p:List UInt8×Int) (l:Fs.Names) (s:List UInt8):Fs.mhas (p::l) s=(decide (p.1=s)||Fs.mhas l s):=by
 unfold Fs.mhas;rw[List.any_cons]
 congr 1
 rw[Bool.eq_iff_iff,beq_iff_eq,decide_eq_true_eq]
theorem IH (st:Fs.St) (V:RV) (s:ByteArray) (w:World) (h:RF w st V) (hl:st.dir.length≤1000000) :
  Calls Tryz.prog 47 #[.agg (AG st V),.string s] w λe w'=>e=.returned (.bool (Fs.mhas st.dir s.data.toList))∧Below w.heap.size w w':=by
 have D:Below w.heap.size w (w.alloc (.cells (AG st V) 33)):=(Below.refl _ _).alloc (QM _) _;have F:A9 (w.alloc (.cells (AG st V) 33)) w.heap.size st V:=AH _ _;have A:=(h.below D).dir;obtain⟨R,C⟩:∃q,q=w.alloc (.cells (AG st V) 33):=⟨_,rfl⟩
 rw[← C]at D F A;have X:(AG st V).size=8:=rfl;obtain⟨a,c,E⟩:=A.form;have d2:R.cell? ⟨w.heap.size,2,none⟩=some (.slice a st.dir.length c):=AA F 2 _ (by show some V.dv=_;rw[E]);rw[E]at A;have HD:=QA A;have H:=QA D;have I:=QA C.symm;have J:=d2;rw[C]at J;clear h D F A C E;go_enter Tryz.func47,Tryz.ntmps47;go_wp2_with fail;rw[I.out];clear J I
 go_loopg [5,9] st.dir.length (λk s5 s9 wq=>∃i:Nat,i≤st.dir.length∧k=st.dir.length-i∧s9=.int .i64 (i:Nat)∧Fs.mhas (st.dir.drop i) s.data.toList=Fs.mhas st.dir s.data.toList∧wq=R)
 case atStart=>exact⟨0,ZS _,rfl,rfl,rfl,rfl⟩
 case round =>
  obtain⟨i,hi,P,rfl,S,rfl⟩:=hrel;have U:=QA P;have M:=QA S;clear P S;have W:(0:Int)≤(i:Int):=Int.natCast_nonneg _;by_cases hin:i<st.dir.length
  ·have G:(i:Int)<(st.dir.length:Int):=by omega
   obtain⟨p,O⟩:∃p,st.dir[i]?=some p:=⟨_,ZG hin⟩
   obtain⟨b,o,rfl,hb,c0,c1⟩:=HD.out.at2 O;obtain⟨u,N⟩:∃t:ByteArray,t=⟨p.1.toArray⟩:=⟨_,rfl⟩
   have B:=str_eq u s;have Q:Hid (Fs.mhas (st.dir.drop i) s.data.toList=(decide (p.1=s.data.toList)||Fs.mhas (st.dir.drop (i+1)) s.data.toList)):=by
    obtain⟨Z,Y⟩:=List.getElem?_eq_some_iff.1 O;rw[ZB Z,Y,Fs.mhas_cons];exact QA rfl
   rw[← N]at c0;have K:u.data.toList=p.1:=by rw[N]
   rw[K]at B;clear O N K hb c1;by_cases he:p.1=s.data.toList
   ·rw[decide_eq_true he]at B;have L:Hid (Fs.mhas st.dir s.data.toList=true):=by rw[← M.out,Q.out,decide_eq_true he];exact QA rfl
    clear he;go_wp2_with fail;go_ret;exact⟨by rw[L.out];rfl,H.out⟩
   ·rw[decide_eq_false he]at B;have T:Hid (Fs.mhas (st.dir.drop (i+1)) s.data.toList=Fs.mhas st.dir s.data.toList):=by rw[← M.out,Q.out,decide_eq_false he,Bool.false_or];exact QA rfl
    clear he;go_wp2_with fail;go_roundg (st.dir.length-(i+1))
    case measure=>rw[U.out];omega
    case rel=>exact⟨i+1,by omega,rfl,by simp,T.out,rfl⟩
  ·have G:(st.dir.length:Int)≤(i:Int):=by omega
   have L:Hid (Fs.mhas st.dir s.data.toList=false):=by rw[← M.out,List.drop_eq_nil_of_le (by omega)];exact QA rfl
   go_wp2_with fail;go_ret;exact⟨by rw[L.out];rfl,H.out⟩
open Go.Maps Go.WideMaps
def RFs (P:Nat→Prop) (w:World) (st:Fs.St) (V:RV):Prop :=
 ∀w0:World,w.heap.size≤w0.heap.size→(∀b,b<w.heap.size→P b→w0.heap[b]?=w.heap[b]?)→RF w0 st V
section
variable {P P' : Nat → Prop} {w w' : World} {st st' : Fs.St} {V V' : RV}
theorem RFs.rf (h:RFs P w st V):RF w st V:=h w (QM _) λ_ _ _=>rfl
theorem RFs.to (h:RFs P w st V) (hs:w.heap.size≤w'.heap.size) (h2:∀k,k<w.heap.size→P k→P' k∧w'.heap[k]?=w.heap[k]?):RFs P' w' st V :=
 λw0 h3 h4=>h w0 (QQ hs h3) λb h5 h6=>(h4 b (ZT h5 hs) (h2 b h5 h6).1).trans (h2 b h5 h6).2
theorem RFs.below (h:RFs P w st V) (hb:Below w.heap.size w w'):RFs P w' st V:=h.to hb.size λk hk hp=>⟨hp,hb.block k hk⟩
theorem RFs.call (h:RFs P w st V) (hb:Below w.heap.size w w') (hl:Bz w w' (λw0=>RF w0 st V) (λw0=>RF w0 st' V')) (hn:∀k,w.heap.size≤k→P k):RFs P w' st' V' :=
 λw0 h1 h2=>hl w0 h1 (λg h3 h4=>h2 g h4 (hn g h3)) (h w0 (QQ hb.size h1) λb h5 h6=>(h2 b (ZT h5 hb.size) h6).trans (hb.block b h5))
theorem RFs.off {g k:Nat} {v:Value} (h:RFs P w st V) (hg:¬P g):RFs P (w.setCell ⟨g,k,none⟩ v) st V :=
 h.to (by simp[World.setCell]) λb hb hp=>⟨hp,Below.heap_setCell _ _ _ _ (λe=>hg (by rw[show g=b from e.symm];exact hp))⟩
theorem RFs.rput {g:Nat} {st1:Fs.St} {V1:RV} (h:RFs P w st V) (hg:¬P g):RFs P (rput w g st1 V1) st V :=
 h.to (by rw[Aa];exact QM _) λb hb hp=>⟨hp,AW _ _ _ _ (λe=>hg (by rw[show g=b from e.symm];exact hp))⟩
end
theorem GG (base B:Nat) (st:Fs.St) (V:FsV) (own:Nat→Tag) (w:World) (h:Ad base B st V own w) :
  Calls Tryz.prog 58 #[.pointer (some ⟨B,0,none⟩)] w λe w'=>e=.returned (.int .i64 st.steps)∧Below w.heap.size w w':=by
 have c0:w.cell? ⟨B,0,none⟩=some (.int .i64 st.steps):=AA h.at_.root 0 _ rfl;clear h;go_enter Tryz.func58,Tryz.ntmps58;go_wp2_with fail;go_ret;exact⟨rfl,Below.refl _ _⟩
open Go.Maps Go.WideMaps
def Cm (w:World) (base:Nat) (e:TypeId) (k:IntKind) (v:Value) (n:Nat):Prop:=∃cs:List Value,w.ownsRow base e 1 v n cs∧cs.length=n∧∀c∈cs,∃z,c=.int k z
theorem Cm.at {w:World} {base:Nat} {e:TypeId} {k:IntKind} {v:Value} {n:Nat} (h:Cm w base e k v n) {j:Nat} (hj:j<n) :
  ∃g c z,v=.slice (some ⟨g,0,none⟩) n c∧n≤c∧base≤g∧g<w.heap.size∧w.cell? ⟨g,j,none⟩=some (.int k z)∧w.frozen? ⟨g,j,none⟩=false:=by
 obtain⟨G,o,D,E⟩:=h;have A:=λg hg=>World.ownsRow.cells (g:=g) o hg
 have B:=λg hg=>World.ownsRow.lt o g hg
 rcases o.2 with⟨h',h4⟩|⟨g,cap,cur,hv,hg,hb,hc,hm,_,_⟩
 ·omega
 ·obtain⟨z,F⟩:=E _ (List.getElem_mem (by rw[D];exact hj));have C:=A g (by rw[hv];rfl) j _ (ZG (by rw[D];exact hj));rw[addr_add,F]at C;exact⟨g,cap,z,hv,hc,hg,(B g (by rw[hv];rfl)).2,C,AC hb j⟩
theorem Cm.set {w:World} {base g n c:Nat} {e:TypeId} {k:IntKind} (h:Cm w base e k (.slice (some ⟨g,0,none⟩) n c) n) (j:Nat) (z:Int):Cm (w.setCell ⟨g,j,none⟩ (.int k z)) base e k (.slice (some ⟨g,0,none⟩) n c) n:=by
 obtain⟨A,B,o,C⟩:=h;refine⟨A.set j (.int k z),(World.ownsRow.stored B j _).1,by rw[List.length_set];exact o,λx hx=>?_⟩;rcases List.mem_or_eq_of_mem_set hx with hx|rfl
 ·exact C x hx
 ·exact⟨z,rfl⟩
theorem Cm.below {w w':World} {base n:Nat} {e:TypeId} {k:IntKind} {v:Value} (h:Cm w base e k v n) (hb:Below w.heap.size w w'):Cm w' base e k v n:=by
 obtain⟨B,o,A,C⟩:=h;exact⟨B,AQ o (λg hg=>hb.block g (World.ownsRow.lt o g hg).2),A,C⟩
theorem Au.krow {w:World} {base:Nat} {v:Value} {l:List UInt8} (h:Au w base v l):Cm w base 5 .u8 v l.length :=
 ⟨AR l,h,by unfold AR;rw[List.length_map],λc hc=>by
  unfold AR at hc;obtain⟨x,_,rfl⟩:=List.mem_map.1 hc;exact⟨_,rfl⟩⟩
theorem Ca.bel {w w':World} {v:Value} {ls:List ByteArray} (h:Ca w v ls) (hb:Below w.heap.size w w'):Ca w' v ls:=by
 obtain⟨a,cap,B,D⟩:=h;refine⟨a,cap,B,λi s hi=>?_⟩;obtain⟨b,o,e,A,C⟩:=D i s hi;exact⟨b,o,e,ZT A hb.size,by rw[hb.cell A];exact C⟩
theorem Fs.Fit.name {st:Fs.St} {k:Nat} (h:Fs.Fit st k) {i:Nat} {p:List UInt8×Int} (hp:st.dir[i]?=some p) :
  ∃(q:Nat) (f:List UInt8×Nat),p.2=(q:Int)∧q<st.files.length∧st.files[q]?=some f∧Fs.idx st p.1=q∧Fs.openE st p.1=0∧p.1.length≤20∧f.1.length≤65536:=by
 obtain⟨C,B⟩:=h.sound.dir p (QZ hp);obtain⟨q,A⟩:=Int.eq_ofNat_of_zero_le C.1;have o:q<st.files.length:=by omega
 have D:Fs.mhas st.dir p.1=true:=Fs.mhas_mem.2 ⟨p,QZ hp,rfl⟩;have hg:Fs.mget st.dir p.1=p.2:=Fs.mget_of (λa ha b hb e=>by rw[Fs.pw_eq h.sound.nd ha hb e]) (QZ hp);refine⟨q,_,A,o,ZG o,?_,Fs.openE_of B D,Fs.good_len B,(h.sound.full _ (List.getElem_mem o)).2⟩;unfold Fs.idx;rw[hg,A,Int.toNat_natCast]
set_option maxHeartbeats 8000000 in
theorem Bi (base B:Nat) (st:Fs.St) (V:FsV) (own:Nat→Tag) (VR:RV) (w:World) (h:Ad base B st V own w) (hr:RF w st VR) (k:Nat) (hF:Fs.Fit st k) (hk:k≤100000) :
  Calls Tryz.prog 17 #[.pointer (some ⟨B,0,none⟩),.agg (AG st VR)] w λe w'=>e=.returned (.bool true)∧Below w.heap.size w w':=by
 have N:Below w.heap.size w (w.alloc (.cells (AG st VR) 33)):=(Below.refl _ _).alloc (QM _) _;have R:A9 (w.alloc (.cells (AG st VR) 33)) w.heap.size st VR:=AH _ _;obtain⟨W0,Q⟩:∃q,q=w.alloc (.cells (AG st VR) 33):=⟨_,rfl⟩
 rw[← Q]at N R;have bi:=hF.cap.dir;have bl:(AG st VR).size=8:=rfl;have HL:=QA (Dw base B st V own W0 (h.kept (AL N)) (by omega));have ai:=QA R;have aa:=QA N;have H:=QA h;have HR:=QA hr;have T:=QA hF;have aK:=QA Q.symm;clear h hr hF N R Q;go_enter Tryz.func17,Tryz.ntmps17;go_wp2_with fail;rw[aK.out];refine HL.out.mono ?_;rintro e w1 ⟨v,rfl,hstr,-,hb1⟩;obtain⟨la,lc,hv⟩:=hstr.form;rw[Ci]at hv;subst hv;have C:=QA (aa.out.trans (hb1.mono aa.out.size));have o:Hid (A9 w1 w.heap.size st VR):=QA ((hb1.block _ (AE ai.out)).trans ai.out);have H1:=QA (H.out.kept (AL C.out));have J:=QA (HR.out.below C.out);have bd:=QA hstr;obtain⟨da,dc,am⟩:=AY.form J.out.dir;obtain⟨fa,fc,an⟩:=J.out.files.form;have L:=QA am;have ab:=QA an;have aT:∀x:Later w1,x.1.cell? ⟨w.heap.size,0,none⟩=some (.int .i64 st.room):=λx=>Later.cell (AA o.out 0 _ rfl) x
 have G:∀x:Later w1,x.1.cell? ⟨w.heap.size,1,none⟩=some VR.fv:=λx=>Later.cell (AA o.out 1 _ rfl) x
 have D:∀x:Later w1,x.1.cell? ⟨w.heap.size,2,none⟩=some VR.dv:=λx=>Later.cell (AA o.out 2 _ rfl) x
 have aV:∀x:Later w1,x.1.cell? ⟨w.heap.size,3,none⟩=some VR.sv:=λx=>Later.cell (AA o.out 3 _ rfl) x
 have a5:∀x:Later w1,x.1.cell? ⟨w.heap.size,4,none⟩=some VR.cv:=λx=>Later.cell (AA o.out 4 _ rfl) x
 have a7:∀x:Later w1,x.1.cell? ⟨w.heap.size,5,none⟩=some (.int .i64 st.steps):=λx=>Later.cell (AA o.out 5 _ rfl) x
 have aP:∀x:Later w1,x.1.cell? ⟨w.heap.size,6,none⟩=some (.int .i64 st.left):=λx=>Later.cell (AA o.out 6 _ rfl) x
 have aL:∀x:Later w1,x.1.cell? ⟨w.heap.size,7,none⟩=some VR.pv:=λx=>Later.cell (AA o.out 7 _ rfl) x
 have K:=T.out.f65;have I:=T.out.sound.dir;have a8:=T.out.sound.nf;have ao:Hid (∀x:Later w1,Calls Tryz.prog 56 #[.pointer (some ⟨B,0,none⟩)] x.1 λe w'=>e=.returned (.int .i64 (Fs.used st))∧Below x.1.heap.size x.1 w') :=
  QA λx=>FK base B st V own x.1 (H1.out.kept (AL x.2)) K (by omega) (by omega)
 have al:Hid (∀x:Later w1,Calls Tryz.prog 57 #[.agg #[.int .i64 st.room,VR.fv,.slice da st.dir.length dc,VR.sv,VR.cv,.int .i64 st.steps,.int .i64 st.left,VR.pv]] x.1 λe w'=>e=.returned (.int .i64 (Fs.used st))∧Below x.1.heap.size x.1 w') :=
  QA λx=>by
   rw[← L.out];exact Ep st VR x.1 (J.out.below x.2) (by omega) (λp U=>(I p U).1) K
 have W:Hid (∀x:Later w1,Calls Tryz.prog 58 #[.pointer (some ⟨B,0,none⟩)] x.1 λe w'=>e=.returned (.int .i64 st.steps)∧Below x.1.heap.size x.1 w') :=
  QA λx=>GG base B st V own x.1 (H1.out.kept (AL x.2))
 rw[L.out]at D;clear hb1 hstr am an K I a8 HL;go_wp2_with fail;refine Ar (by kernel_rfl) (by kernel_rfl) ?_
 repeat (go_big_quiet_step ((first|(with_reducible exact Later.call (v:=.int .i64 (Fs.used st)) (ao.out _))|(with_reducible exact Later.call (v:=.int .i64 (Fs.used st)) (al.out _))|(with_reducible exact Later.call (v:=.int .i64 st.steps) (W.out _)))))
 refine wpQuiet_nil ?_;rintro w2 ⟨⟨_,hb2⟩,rfl⟩;have bw:=QA (C.out.trans (hb2.mono C.out.size));have O:=QA hb2;clear hb2 aT G D aV a5 a7 aP aL ao al W;go_wp2_with fail
 go_loopg [6,7,8,9,36] st.dir.length (λk' s6 s7 s8 s9 s36 X=>∃i:Nat,i≤st.dir.length∧k'=st.dir.length-i∧s36=.int .i64 (i:Nat)∧Below w2.heap.size w2 X)
 case atStart=>exact⟨0,ZS _,rfl,rfl,Below.refl _ _⟩
 case round =>
  obtain⟨i,hi,ak,rfl,P⟩:=hrel
  rename World=>wq
  have HK:=QA ak;have aj:=QA P;have A:=QA (O.out.trans (P.mono O.out.size));have az:=QA (C.out.trans (A.out.mono C.out.size));have br:(0:Int)≤(i:Int):=Int.natCast_nonneg _;clear ak P;by_cases hin:i<st.dir.length
  ·have af:(i:Int)<(st.dir.length:Int):=by omega
   obtain⟨p,U⟩:∃p,st.dir[i]?=some p:=⟨_,ZG hin⟩
   obtain⟨q,f,hq,a1,hf,Z,aA,bm,aS⟩:=T.out.name U;obtain⟨s,hs⟩:∃t:ByteArray,t=⟨p.1.toArray⟩:=⟨_,rfl⟩
   have ar:(strsOf (Fs.keys st.dir))[i]?=some s:=by
    rw[Fs.srt_keys T.out.cap.srtd,hs];unfold strsOf;rw[ZF,ZF,U];rfl
   obtain⟨lb,lo,rfl,l0⟩:=(bd.out.bel A.out).at ar;have S:=QA (D4 base B st V own s wq (H.out.kept (AL az.out)) (by rw[hs];show p.1.toArray.size≤_;simp;omega) (λf hf=>by have:=T.out.f65 f hf;omega));have I:s.data.toList=p.1:=by rw[hs]
   rw[I]at S;obtain⟨nb,no,aI,bo,n0,n1⟩:=(show Ab wq (.slice da st.dir.length dc) st.dir by have:=(J.out.below A.out).dir;rwa [L.out]at this).at2 U;subst aI;rw[← hs]at n0;rw[hq]at n1;have F:=(J.out.below A.out).files;rw[ab.out]at F;obtain⟨ae,-⟩:=Ax _ _ _ hf;obtain⟨fb,fo,aZ,bt,x0⟩:=F.at ae;subst aZ;obtain⟨x,hx⟩:∃t:ByteArray,t=⟨f.1.toArray⟩:=⟨_,rfl⟩
   rw[← hx]at x0;have hA:A9 wq w.heap.size st VR:=(A.out.block _ (AE o.out)).trans o.out;have G:wq.cell? ⟨w.heap.size,1,none⟩=some (.slice (some ⟨fb,fo,none⟩) st.files.length fc):=AA hA 1 _ (by show some VR.fv=_;rw[ab.out]);have D:wq.cell? ⟨w.heap.size,2,none⟩=some (.slice (some ⟨nb,no,none⟩) st.dir.length dc):=AA hA 2 _ (by show some VR.dv=_;rw[L.out]);have HX:=QA hx;have a3:=QA Z;have aQ:=QA hf;have aJ:=QA aA;have bq:(0:Int)≤(q:Int):=Int.natCast_nonneg _;have bA:(q:Int)<(st.files.length:Int):=by omega
   have a0:(s.toList==s.toList)=true:=by simp
   have aU:(x.toList==x.toList)=true:=by simp
   clear U hq a1 hf Z aA hs ar I F ae hx hA;go_wp2_with fail;refine S.out.mono ?_;rintro e w3 ⟨hb3,hres⟩;rcases hres with⟨-,f',bv,hf',rfl,hob⟩|⟨hne,-⟩;rotate_left
   ·exact absurd aJ.out hne
   obtain rfl:f'=f:=by rw[a3.out,aQ.out]at hf';exact (Option.some.inj hf').symm
   obtain⟨ba,E,bc,aO,au⟩:=Au.form3 hob;subst aO;have bD:E≤65536:=by rw[au.out];exact aS
   have aY:∀y:Later w3,(convert 38 9 (.slice ba E bc)).run Tryz.prog y.1=.ok (.string x) y.1:=λy=>by rw[HX.out];exact Cq (hob.byts.below y.2)
   have aM:=QA (au.out▸hob.krow:Cm w3 wq.heap.size 5 .u8 (.slice ba E bc) E);have ap:=QA hb3;have J0:∀y:Later w3,y.1.cell? ⟨lb,lo+i,none⟩=some (.string s):=λy=>Later.cell ((hb3.cell (AN l0)).trans l0) y
   have J1:∀y:Later w3,y.1.cell? ⟨nb,no+i*2,none⟩=some (.string s):=λy=>Later.cell ((hb3.cell (AN n0)).trans n0) y
   have J2:∀y:Later w3,y.1.cell? ⟨nb,no+i*2+1,none⟩=some (.int .i64 (q:Nat)):=λy=>Later.cell ((hb3.cell (AN n1)).trans n1) y
   have J3:∀y:Later w3,y.1.cell? ⟨fb,fo+q*2,none⟩=some (.string x):=λy=>Later.cell ((hb3.cell (AN x0)).trans x0) y
   have J4:∀y:Later w3,y.1.cell? ⟨w.heap.size,1,none⟩=some (.slice (some ⟨fb,fo,none⟩) st.files.length fc):=λy=>Later.cell ((hb3.cell (AN G)).trans G) y
   have J5:∀y:Later w3,y.1.cell? ⟨w.heap.size,2,none⟩=some (.slice (some ⟨nb,no,none⟩) st.dir.length dc):=λy=>Later.cell ((hb3.cell (AN D)).trans D) y
   clear hb3 hf' hob l0 n0 n1 x0 G D S;go_wp2_with fail;refine Ar (by kernel_rfl) (by kernel_rfl) ?_
   repeat (go_big_quiet_step (fail))
   refine wpQuiet_nil ?_;rintro w4 ⟨⟨_,hb4⟩,rfl⟩;have av:=QA (aM.out.below hb4);have aW:=QA (ap.out.trans (hb4.mono ap.out.size));clear J0 J1 J2 J3 J4 J5 aY hb4 a0 aU;go_wp2_with fail
   go_loopg [9,81] E (λk2 s9 s81 Y=>∃j:Nat,j≤E∧k2=E-j∧s81=.int .i64 (j:Nat)∧Cm Y wq.heap.size 5 .u8 (.slice ba E bc) E∧Below wq.heap.size wq Y)
   case atStart=>exact⟨0,ZS _,rfl,rfl,av.out,aW.out⟩
   case round =>
    obtain⟨j,hj,ax,rfl,M,ah⟩:=hrel;have bb:=QA ax;have aw:=QA M;have ac:=QA ah;have bF:(0:Int)≤(j:Int):=Int.natCast_nonneg _;clear ax ah;by_cases hjn:j<E
    ·have ag:(j:Int)<(E:Int):=by omega
     obtain⟨g,c,z,hv,bs,aX,bx,aN,bK⟩:=M.at hjn;simp only[Value.slice.injEq,true_and]at hv;obtain⟨rfl,rfl⟩:=hv;clear M;go_wp2_with fail;go_roundg (E-(j+1))
     case measure=>rw[bb.out];omega
     case rel=>exact⟨j+1,by omega,rfl,by simp,aw.out.set j _,ac.out.setCell (p:=⟨g,j,none⟩) aX _⟩
    ·have ag:(E:Int)≤(j:Int):=by omega
     have a4:Hid (Below w2.heap.size w2 wr):=QA (aj.out.trans (ac.out.mono aj.out.size));clear M;go_wp2_with fail;go_roundg (st.dir.length-(i+1))
     case measure=>rw[HK.out];omega
     case rel=>exact⟨i+1,by omega,rfl,by simp,a4.out⟩
  ·have af:(st.dir.length:Int)≤(i:Int):=by omega
   go_wp2_with fail;go_ret;exact⟨rfl,az.out⟩
open Go.Maps Go.WideMaps
def B8 (base:Nat) (own:Nat→Tag) (g k:Nat) (room:Int) (w:World) (e:Ending) (w':World):Prop :=
 ∃(base' B':Nat) (st':Fs.St) (V':FsV) (own':Nat→Tag) (VR':RV),e=.returned (.tuple #[.pointer (some ⟨B',0,none⟩),.agg (AG st' VR'),.bool true]) ∧
  Ad base' B' st' V' own' w'∧base≤base'∧base'≤w'.heap.size∧Below base w w'∧A8 own own' w w'∧RFs (λb=>own' b=.other∧b≠g) w' st' VR'∧Fs.Fit st' k∧st'.room=room
structure PI (w:World) (own0:Nat→Tag) (base0:Nat) (N:Nat→Prop) (oc:Array Value) (base B:Nat) (st sr:Fs.St) (V:FsV) (own:Nat→Tag) (VR:RV) (X:World):Prop where
 ok:Ad base B st V own X
 hb:base≤X.heap.size
 h0:base0≤base
 bel:Below base0 w X
 oth:A8 own0 own w X
 a:A9 X w.heap.size sr VR
 o:X.heap[w.heap.size+1]?=some (.cells oc 40 (0,0))
 r:X.heap[w.heap.size+2]?=some (.cells fs0 33 (0,0))
 ta:own w.heap.size=.other
 to':own (w.heap.size+1)=.other
 tr:own (w.heap.size+2)=.other
 rfs:RFs (λb=>own b=.other∧¬N b) X sr VR
 na:N w.heap.size
 nr:N (w.heap.size+2)
 nf:∀b,X.heap.size≤b→¬N b
 b0:base0≤w.heap.size
section
variable {w : World} {own0 : Nat → Tag} {base0 : Nat} {N : Nat → Prop} {oc : Array Value} {base B : Nat} {st sr st' sr' : Fs.St} {V : FsV} {own : Nat → Tag} {VR VR' : RV} {X X' : World}
theorem PI.start {g:Nat} (h:Ad base B st V own w) (hb:base≤w.heap.size) (hr:RFs (λb=>own b=.other∧b≠g) w st VR) (hg:g<w.heap.size) (oc:Array Value) :
  PI w own base (λb=>b=g∨b=w.heap.size∨b=w.heap.size+2) oc base B st st V own VR (((w.alloc (.cells (AG st VR) 33)).alloc (.cells oc 40)).alloc (.cells fs0 33)):=by
 obtain⟨D,C⟩:∃q,q=w.alloc (.cells (AG st VR) 33):=⟨_,rfl⟩
 obtain⟨F,o⟩:∃q,q=D.alloc (.cells oc 40):=⟨_,rfl⟩
 obtain⟨G,A⟩:∃q,q=F.alloc (.cells fs0 33):=⟨_,rfl⟩
 have I:D.heap.size=w.heap.size+1:=by rw[C];simp
 have J:F.heap.size=w.heap.size+2:=by rw[o];simp[I]
 have P:G.heap.size=w.heap.size+3:=by rw[A];simp[J]
 have N:Below w.heap.size w D:=by rw[C];exact (Below.refl _ _).alloc (QM _) _
 have K:Below D.heap.size D F:=by rw[o];exact (Below.refl _ _).alloc (QM _) _
 have H:Below F.heap.size F G:=by rw[A];exact (Below.refl _ _).alloc (QM _) _
 have E:Below w.heap.size w G:=N.trans ((K.mono (by omega)).trans (H.mono (by omega)));have O:D.heap[w.heap.size]?=some (.cells (AG st VR) 33 (0,0)):=by rw[C];exact AH _ _
 have L:F.heap[w.heap.size+1]?=some (.cells oc 40 (0,0)):=by rw[o,← I];exact AH _ _
 have M:G.heap[w.heap.size+2]?=some (.cells fs0 33 (0,0)):=by rw[A,← J];exact AH _ _
 rw[← C,← o,← A];refine⟨h.kept (AL E),by omega,QM _,E.mono hb,⟨E.size,λb hb2 ho=>⟨ho,E.block b hb2⟩⟩,?_,?_,M,h.fresh _ (QM _),h.fresh _ (by omega),h.fresh _ (by omega),?_,.inr (.inl rfl),.inr (.inr rfl),λb hb2 hn=>?_,hb⟩
 ·show G.heap[w.heap.size]?=_;rw[H.block _ (by omega),K.block _ (by omega)];exact O
 ·rw[H.block _ (by omega)];exact L
 ·exact hr.to E.size λk hk hp=>⟨⟨hp.1,λhn=>by rcases hn with e|e|e;exact hp.2 e;omega;omega⟩,E.block k hk⟩
 ·rcases hn with e|e|e<;>omega
theorem PI.real (h:PI w own0 base0 N oc base B st sr V own VR X) (hp:AV base B st' own X X'):∃V' own',PI w own0 base0 N oc base B st' sr V' own' VR X':=by
 have hb:=hp.below0 h.ok h.hb;obtain⟨V',own',G,C,A⟩:=hp;have E:=AE h.a;have F:=AE h.o;have D:=AE h.r;refine⟨V',own',G,QQ h.hb A.size,h.h0,h.bel.trans (hb.mono h.h0),h.oth.next C A,?_,?_,?_,(C _ E).trans h.ta,(C _ F).trans h.to',(C _ D).trans h.tr,?_,h.na,h.nr,λb hb2=>h.nf b (QQ A.size hb2),h.b0⟩
 ·exact (A.block _ E (by rw[h.ta];simp)).trans h.a
 ·exact (A.block _ F (by rw[h.to'];simp)).trans h.o
 ·exact (A.block _ D (by rw[h.tr];simp)).trans h.r
 ·exact h.rfs.to A.size λk hk hp=>⟨⟨(C k hk).trans hp.1,hp.2⟩,A.block k hk (by rw[hp.1];simp)⟩
theorem PI.below (h:PI w own0 base0 N oc base B st sr V own VR X) (hb:Below X.heap.size X X'):PI w own0 base0 N oc base B st sr V own VR X' :=
 ⟨h.ok.kept (AL hb),QQ h.hb hb.size,h.h0,h.bel.trans (hb.mono (QQ h.h0 h.hb)),⟨QQ h.oth.1 hb.size,λb h1 h2=>⟨(h.oth.2 b h1 h2).1,(hb.block b (ZT h1 h.oth.1)).trans (h.oth.2 b h1 h2).2⟩⟩,
  (hb.block _ (AE h.a)).trans h.a,(hb.block _ (AE h.o)).trans h.o,(hb.block _ (AE h.r)).trans h.r,h.ta,h.to',h.tr,h.rfs.below hb,h.na,h.nr,λb hb2=>h.nf b (QQ hb.size hb2),h.b0⟩
theorem DR {own:Nat→Tag} {g:Nat} (hg:own g=.other) (X:World) (st1:Fs.St) (V1:RV):Kept own (·=.other) X (rput X g st1 V1):=by
 have hb:=As (n:=0) (Below.refl 0 X) (ZS g) st1 V1;exact⟨hb.os,hb.tape,hb.output,hb.size,λk hk hn=>AW _ _ _ _ (λe=>hn (by rw[e];exact hg))⟩
theorem PI.put (h:PI w own0 base0 N oc base B st sr V own VR X) (hb:Below X.heap.size X X') (hl:Bz X X' (λw0=>RF w0 sr VR) (λw0=>RF w0 sr' VR')):PI w own0 base0 N oc base B st sr' V own VR' (rput X' w.heap.size sr' VR'):=by
 have A:=h.below hb;have C:∀b,b<w.heap.size→b≠w.heap.size:=λb hb2=>by omega
 refine⟨A.ok.kept (DR h.ta _ _ _),by rw[Aa];exact A.hb,h.h0,As A.bel h.b0 _ _,⟨by rw[Aa];exact A.oth.1,λb h2 h3=>⟨(A.oth.2 b h2 h3).1,(AW _ _ _ _ (C b h2)).trans (A.oth.2 b h2 h3).2⟩⟩,
  BP A.a _ _,by rw[AW _ _ _ _ (by omega)];exact A.o,by rw[AW _ _ _ _ (by omega)];exact A.r,h.ta,h.to',h.tr,?_,h.na,h.nr,λb hb2=>A.nf b (by rw[Aa]at hb2;exact hb2),h.b0⟩
 exact (h.rfs.call hb hl (λk hk=>⟨h.ok.fresh k hk,h.nf k hk⟩)).rput (λhp=>hp.2 h.na)
theorem PI.crashed {B':Nat} {V':FsV} {own':Nat→Tag} (h:PI w own0 base0 N oc base B st sr V own VR X) (hok:Ad X.heap.size B' st' V' own' X') (hb:Below X.heap.size X X'):PI w own0 base0 N oc X.heap.size B' st' sr V' own' VR X':=by
 have A:=h.below hb;exact⟨hok,hb.size,QQ h.h0 h.hb,A.bel,⟨A.oth.1,λb h2 h3=>⟨hok.old b (ZT h2 h.oth.1),(A.oth.2 b h2 h3).2⟩⟩,A.a,A.o,A.r,hok.old _ (AE h.a),hok.old _ (AE h.o),hok.old _ (AE h.r),
  h.rfs.to hb.size λk hk hp=>⟨⟨hok.old k hk,hp.2⟩,hb.block k hk⟩,h.na,h.nr,A.nf,h.b0⟩
theorem PI.fin {g k:Nat} {room:Int} (h:PI w own0 base0 N oc base B st st V own VR X) (hN:N g) (hF:Fs.Fit st k) (hr:st.room=room) {a:Act} (h6:a.tmps[6]?=some (.pointer (some ⟨B,0,none⟩))) (h7:a.tmps[7]?=some (.pointer (some ⟨w.heap.size+2,0,none⟩))) (h8:a.tmps[8]?=some (.bool true)) (hd:a.defers=[]) :
  bodyPost Tryz.prog Tryz.f8 (B8 base0 own0 g k room w) .ret a (rput X (w.heap.size+2) st VR):=by
 have o:A9 (rput X (w.heap.size+2) st VR) (w.heap.size+2) st VR:=BP h.r _ _;have D:=AA o 0 _ rfl;have E:=AA o 1 _ rfl;have F:=AA o 2 _ rfl;have A:=AA o 3 _ rfl;have I:=AA o 4 _ rfl;have G:=AA o 5 _ rfl;have C:=AA o 6 _ rfl;have H:=AA o 7 _ rfl;have J:=AE h.a;refine bodyPost_ret (v:=.tuple #[.pointer (some ⟨B,0,none⟩),.agg (AG st VR),.bool true]) (by simp[results,Tryz.results8,go_sem,h6,h7,h8,D,E,F,A,I,G,C,H,AG]) hd ?_;refine⟨base,B,st,V,own,VR,rfl,h.ok.kept (DR h.tr _ _ _),h.h0,by rw[Aa];exact h.hb,As h.bel (by have:=h.b0;omega) _ _,⟨by rw[Aa];exact h.oth.1,λb h2 h3=>⟨(h.oth.2 b h2 h3).1,(AW _ _ _ _ (by omega)).trans (h.oth.2 b h2 h3).2⟩⟩,?_,hF,hr⟩;exact (h.rfs.rput (λhp=>hp.2 h.nr)).to (QM _) λk _ hp=>⟨⟨hp.1,λe=>hp.2 (by rw[e];exact hN)⟩,rfl⟩
end
end Go.Proofs.YtmlekglfdiacpaaGreatDoor
