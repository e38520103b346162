/-
  The document's file system: Append, walked. Bytes that came in. Segments: names; what the library's variables hold. Bytes turned to strings. Segments: whose name a text is. Segments: the program's ID, walked; it is the document's. Segments: the program's ID is the document's (no program in sight). What an operation of the file system leaves; sizes within reach. A slice of ints. The file system in calm weather: what its files hold (no program in sight).
-/
import Derived.Test.YtmlekglfdiacpaaGreatDoorZp9
import Derived.Test.YtmlekglfdiacpaaGreatDoorZp5
import Derived.Test.YtmlekglfdiacpaaGreatDoorZp8
import Derived.Test.YtmlekglfdiacpaaGreatDoorZp6
import Derived.ChangeSlices
import Derived.WalkKit
import Derived.ProofKit
import Derived.OpenShut
import Derived.Lib.ItoaMem
import Derived.Lib.ItoaLen
import Derived.Lib.AppendIntMem
import Derived.Lib.SmallJoins
import Derived.WalkSmall
import Derived.Laws.IdiomStrings
import Derived.Laws.BytesArg
open Bool renaming and_eq_true → ZA
open Go.Lib renaming hid → QA
open List renaming drop_succ_cons → QE, take_succ_cons → QF, drop_zero → QL, take_zero → QN, length_cons → QO, mem_of_getElem? → QZ, getElem?_map → ZF, getElem?_eq_getElem → ZG, getElem?_append_left → ZL, map_cons → ZP, all_cons → ZV
open Nat renaming le_refl → QM, le_trans → QQ, reduceAdd → QW, lt_of_lt_of_le → ZT, lt_or_ge → ZU
namespace Go.Proofs.YtmlekglfdiacpaaGreatDoor
set_option maxRecDepth 100000
set_option maxHeartbeats 4000000
set_option linter.unusedSimpArgs false
set_option linter.unusedVariables false
open Go Go.RowKit
open Go.Maps Go.WideMaps
theorem Fs.step_how (st:Fs.St) (h:2<(Fs.step st).2.1):(Fs.step st).2.2=20:=by
 unfold Fs.step at *;by_cases h1:st.left=0
 ·rw[if_pos h1]at h;exact absurd (show (2:Int)<0 from h) (by decide)
 ·rw[if_neg h1]at h ⊢;show Fs.code (st.plan.headD 0)=20;have o:2<st.plan.headD 0:=h;unfold Fs.code;rw[if_neg (by omega),if_neg (by omega)]
theorem Es (t u:ByteArray) (P:Nat):(t++u.extract 0 P).data.toList=t.data.toList++u.data.toList.take P:=by
 simp[ByteArray.data_append,ByteArray.data_extract,Array.toList_append,Array.toList_extract,List.extract]
theorem RAt.wrote {w X:World} {st0 st:Fs.St} {V0 V1:RV} {g:Nat} {k:Nat} {v:Value} (h:RAt w st0 V0 st V1 X) (hl:∀w0,RF w0 st0 V0→RF w0 st V1) (hg:w.heap.size+2≤g):RAt w st0 V0 st V1 (X.setCell ⟨g,k,none⟩ v) :=
 ⟨by rw[A9,Below.heap_setCell _ _ _ _ (by show w.heap.size≠g;omega)];exact h.a,by rw[Below.heap_setCell _ _ _ _ (by show w.heap.size+1≠g;omega)];exact h.b,h.e.setCell (by show w.heap.size≤g;omega) _,by simp[World.setCell];exact h.s,h.rf0,λw0 _ _ h1=>hl w0 h1⟩
theorem CN (st:Fs.St) (V:RV) (s u:ByteArray) (w:World) (h:RF w st V) (ho:ROk st) (hfl:RFl st) (hF:∀f∈st.files,f.1.length≤1000000) (hr:0≤st.room∧st.room≤1048576) (hh:(Fs.step st).2.1≤9223372036854775807) (hu:u.size≤1000000) :
  Calls Tryz.prog 23 #[.agg (AG st V),.string s,.string u] w (ROp st V (Fs.append st s.data.toList u.data.toList) w):=by
 have Z:=QA hfl;have HF:=QA hF;have bk:=QA hr;have bh:=QA hh;clear hfl hF hr hh;have h0:=RAt.start h;obtain⟨W0,aK⟩:∃q,q=(w.alloc (.cells (AG st V) 33)).alloc (.cells fs0 33):=⟨_,rfl⟩
 rw[← aK]at h0;have bM:(AG st V).size=8:=rfl;have ar:=QA (CS st V s W0 h0.rf (QQ ho.dir (by decide)) ho.pos);have H0:=QA h0;have HO:=QA ho;have bf:=QA aK.symm;obtain⟨oe,aG⟩:∃q,q=Fs.openE st s.data.toList:=⟨_,rfl⟩
 have Y:=QA aG;unfold Dj at ar;rw[← aG]at ar;clear h0 h aK ho aG;go_enter Tryz.func23,Tryz.ntmps23;go_wp2_with (first|(rw[bf.out];(refine AD rfl _ rfl _ _ _ rfl H0.out.a ?_))|fail);refine ar.out.mono ?_;rintro e w1 ⟨rfl,hb1⟩;have H1:=QA (H0.out.below hb1);clear hb1 ar;by_cases hc:oe=0;rotate_left
 ·have HR:Hid (Fs.append st s.data.toList u.data.toList=(st,oe)):=QA (by unfold Fs.append;rw[← Y.out,if_pos hc]);have aL:(oe != 0)=true:=by rw[bne_iff_ne];exact hc
  have aH:decide (oe=0)=false:=decide_eq_false hc;go_wp2_with (first|(refine AD rfl _ rfl _ _ _ rfl H1.out.a ?_)|(refine AB rfl _ _ rfl _ st V H1.out.one fs0 rfl rfl rfl H1.out.b ?_)|fail);rw[HR.out];exact H1.out.fin Tryz.results23 oe rfl rfl rfl
 subst hc;obtain⟨i,a8,aP,ac⟩:=Z.out.at HO.out Y.out.symm;obtain⟨f,hf⟩:∃f,st.files[i]?=some f:=⟨_,ZG ac⟩
 have bN:=HF.out f (QZ hf);have af:Hid (Fs.fileAt st s.data.toList=f.1):=QA (by unfold Fs.fileAt;rw[aP,hf]);rw[a8];have ai:=H1.out.rf.files;obtain⟨fa,fc,aN⟩:=ai.form;obtain⟨aV,aS⟩:=Ax _ _ _ hf;rw[aN]at ai;obtain⟨b,a7,a2,bz,k0⟩:=ai.at aV;obtain⟨b',aX,al,aU,k1⟩:=ai.at aS;rw[a2]at al;obtain⟨rfl,rfl⟩:b=b'∧a7=aX:=by simpa using al
 subst a2;rw[← Nat.add_assoc]at k1;have kf:w1.cell? ⟨w.heap.size,1,none⟩=some (.slice (some ⟨b,a7,none⟩) st.files.length fc):=AA H1.out.a 1 _ (by show some V.fv=_;rw[aN]);have e8:decide (i<st.files.length)=true:=decide_eq_true ac;obtain⟨t,ht⟩:∃q:ByteArray,q=⟨f.1.toArray⟩:=⟨_,rfl⟩
 have aI:t.size=f.1.length:=by rw[ht];simp[ByteArray.size]
 rw[← ht]at k0;have HT:=QA ht;have aM:=QA aP;have av:=QA hf;have aW:Below w1.heap.size w1 (w1.alloc (.cells #[.string t,.int .i64 (f.2:Nat)] 105)):=(Below.refl _ _).alloc (QM _) _;have au:=QA (AH w1 (.cells #[.string t,.int .i64 (f.2:Nat)] 105));have H2:=QA (H1.out.below aW);obtain⟨W2,aF⟩:∃q,q=w1.alloc (.cells #[.string t,.int .i64 (f.2:Nat)] 105):=⟨_,rfl⟩
 rw[← aF]at H2 au;have a3:=QA aF.symm;have bK:(t.size:Int)=(f.1.length:Int):=by rw[aI]
 have ae:W2.cell? ⟨w1.heap.size,0,none⟩=some (.string t):=AA au.out 0 _ rfl;clear ai aV aS bz aU al hf a8 aP aN aW ht aF;have ag:Hid (u.data.toList.length=u.size):=QA (by rw[Array.length_toList];rfl);have bO:=QA aI;clear aI;by_cases H:65536<f.1.length+u.size
 ·have HR:Hid (Fs.append st s.data.toList u.data.toList=(st,5)):=QA (by unfold Fs.append;rw[← Y.out,if_neg (by simp),af.out,ag.out,if_pos H]);have e9:decide ((65536:Int)<(f.1.length:Int)+(u.size:Int))=true:=decide_eq_true (by omega);have bw:decide (65536<f.1.length+u.size)=true:=decide_eq_true H;go_wp2_with (first|(rw[a3.out];(refine AD rfl _ rfl _ _ _ rfl H2.out.a ?_))|(refine AB rfl _ _ rfl _ st V H2.out.one fs0 rfl rfl rfl H2.out.b ?_)|fail);rw[HR.out];exact H2.out.fin Tryz.results23 5 rfl rfl rfl
 have e9:decide ((65536:Int)<(f.1.length:Int)+(u.size:Int))=false:=decide_eq_false (by omega);have bw:decide (65536<f.1.length+u.size)=false:=decide_eq_false H;have a9:=QA (Bg st V W2 H2.out.rf HO.out.left HO.out.plan);have aj:=QA H;clear H;go_wp2_with (first|(rw[a3.out];(refine AD rfl _ rfl _ _ _ rfl H2.out.a ?_))|fail);refine a9.out.mono ?_;rintro e w3 ⟨hb3,V1,rfl,hl3⟩;have ad:=Fs.step_dir st;have aw:=Fs.step_files st;have W:=Fs.step_room st;have Q:=Fs.step_how st;have aB:=bh.out;obtain⟨⟨o,J,G⟩,hE⟩:∃x,x=Fs.step st:=⟨_,rfl⟩
 rw[← hE]at hl3 ad aw W Q aB ⊢;simp only at hl3 ad aw W Q aB ⊢;have h3:=H2.out.below hb3;have h4:=h3.put o V1 hl3;have aT:=H1.out.s;have a4:=(hb3.block _ (AE au.out)).trans au.out;obtain⟨W4,ay⟩:∃q,q=rput w3 w.heap.size o V1:=⟨_,rfl⟩
 have a1:W4.heap[w1.heap.size]?=some (.cells #[.string t,.int .i64 (f.2:Nat)] 105 (0,0)):=by rw[ay,AW _ _ _ _ (by omega)];exact a4
 rw[← ay]at h4;have kr:W4.cell? ⟨w.heap.size,0,none⟩=some (.int .i64 o.room):=AA h4.a 0 _ rfl;have an:=QA hl3;have HE:=QA hE;have H3:=QA h3;have H4:=QA h4;have aY:=QA a1;have bs:=QA ay.symm;have ak:=QA ad;have E:=QA aw;have L:=QA W;have aO:=QA Q;have a0:=QA aB;have am:=QA aT;clear hb3 hl3 hE h3 h4 ay ad aw W Q aB aT a4 a1 a9 ae k0 k1 kf;go_wp2_with (first|(refine AB rfl _ _ rfl _ o V1 H4.out.one _ rfl rfl rfl H3.out.a ?_;rw[bs.out])|fail);have HU:∀x:Later W4,Calls Tryz.prog 57 #[.agg (AG o V1)] x.1 λe w'=>e=.returned (.int .i64 (Fs.used st))∧Below x.1.heap.size x.1 w':=λx=>by
  have bo:Fs.used o=Fs.used st:=by unfold Fs.used Fs.usedL Fs.lenAt;rw[ak.out,E.out]
  rw[← bo];exact Ep o V1 x.1 (H4.out.rf.below x.2) (by rw[ak.out];exact QQ HO.out.dir (by decide)) (λp hp=>by rw[ak.out]at hp;rw[E.out];exact⟨HO.out.pos p hp,Z.out.lt p hp⟩) (λf hf=>by rw[E.out]at hf;exact HF.out f hf)
 have bp:∀x:Later W4,x.1.cell? ⟨w.heap.size,0,none⟩=some (.int .i64 o.room):=λx=>Later.cell kr x
 have bq:∀x:Later W4,x.1.cell? ⟨w.heap.size,1,none⟩=some V1.fv:=λx=>Later.cell (AA H4.out.a 1 _ rfl) x
 have bv:∀x:Later W4,x.1.cell? ⟨w.heap.size,2,none⟩=some V1.dv:=λx=>Later.cell (AA H4.out.a 2 _ rfl) x
 have bt:∀x:Later W4,x.1.cell? ⟨w.heap.size,3,none⟩=some V1.sv:=λx=>Later.cell (AA H4.out.a 3 _ rfl) x
 have bx:∀x:Later W4,x.1.cell? ⟨w.heap.size,4,none⟩=some V1.cv:=λx=>Later.cell (AA H4.out.a 4 _ rfl) x
 have bA:∀x:Later W4,x.1.cell? ⟨w.heap.size,5,none⟩=some (.int .i64 o.steps):=λx=>Later.cell (AA H4.out.a 5 _ rfl) x
 have bi:∀x:Later W4,x.1.cell? ⟨w.heap.size,6,none⟩=some (.int .i64 o.left):=λx=>Later.cell (AA H4.out.a 6 _ rfl) x
 have K:∀x:Later W4,x.1.cell? ⟨w.heap.size,7,none⟩=some V1.pv:=λx=>Later.cell (AA H4.out.a 7 _ rfl) x
 have a6:=QA HU;have bR:Fs.used st≤900000*1000000:=QQ (FR st HF.out st.dir) (Nat.mul_le_mul_right _ HO.out.dir);have bj:0≤o.room∧o.room≤1048576:=by rw[L.out];exact bk.out
 obtain⟨bV,bP⟩:=bj;clear HU kr;refine Ar (by kernel_rfl) (by kernel_rfl) ?_
 repeat (go_big_quiet_step ((exact Later.call (v:=.int .i64 (Fs.used st)) (a6.out _))))
 refine wpQuiet_nil ?_;rintro w5 ⟨⟨_,hb5⟩,rfl⟩;have h5:=H4.out.below hb5;have aA:=(hb5.block _ (AE aY.out)).trans aY.out;have f5:w5.frozen? ⟨w1.heap.size,0,none⟩=false:=AC aA 0;have k5:w5.cell? ⟨w1.heap.size,0,none⟩=some (.string t):=AA aA 0 _ rfl;have H5:=QA h5;have O:=QA aA;clear bp bq bv bt bx bA bi K hb5 h5 aA a6;by_cases hc:G=0
 ·subst hc;by_cases hl:o.room-(Fs.used st:Int)<(u.size:Int)
  ·have HR:Hid (Fs.append st s.data.toList u.data.toList=(o,21)):=QA (by
    have H:=aj.out;rw[L.out]at hl;unfold Fs.append;rw[← Y.out,if_neg (by simp),af.out,ag.out,if_neg H,← HE.out,if_neg (by simp),if_pos hl])
   have bl:decide (o.room-(Fs.used st:Int)<(u.size:Int))=true:=decide_eq_true hl;go_wp2_with (first|(refine AD rfl _ rfl _ _ _ rfl H5.out.a ?_)|(refine AB rfl _ _ rfl _ o V1 H5.out.one fs0 rfl rfl rfl H5.out.b ?_)|fail);rw[HR.out];exact H5.out.fin Tryz.results23 21 rfl rfl rfl
  have bl:decide (o.room-(Fs.used st:Int)<(u.size:Int))=false:=decide_eq_false hl;go_wp2_with fail;have X:Hid (Fs.append st s.data.toList u.data.toList=({ o with files:=o.files.set i ((t++u).data.toList,f.2) },0)):=QA (by
   have H:=aj.out;rw[L.out]at hl;unfold Fs.append Fs.grow;rw[← Y.out,if_neg (by simp),af.out,ag.out,if_neg H,← HE.out,if_neg (by simp),if_neg (by omega),aM.out,av.out,E.out,HT.out];simp)
  refine AO [7] (by kernel_rfl) (by kernel_rfl) ?_;simp only[Ap,QF,QN,QE,QL,Nat.sub_zero,Nat.reduceSub,QW]
  repeat (go_big_quiet_step (fail))
  refine wpQuiet_nil ?_;rintro _ ⟨nq,rfl⟩;go_wp2_with fail;refine wpQuiet_nil ?_;rintro _ ⟨nq2,rfl⟩;obtain⟨F,A⟩:∃q,q=((w5.drewN nq).setCell ⟨w1.heap.size,0,none⟩ (.string (t++u))).drewN nq2:=⟨_,rfl⟩
  have C:Below w5.heap.size w5 (w5.drewN nq):=Below.drewN (Below.refl _ _) nq;have S:w5.heap.size≤F.heap.size:=by rw[A];simp[World.drewN,World.setCell]
  have D:F.heap[w1.heap.size]?=some (.cells #[.string (t++u),.int .i64 (f.2:Nat)] 105 (0,0)):=by
   rw[A];exact heap_set ((C.block _ (AE O.out)).trans O.out) _
  have M:RAt w st V o V1 F:=by
   rw[A];exact ((H5.out.below C).wrote an.out am.out).below (Below.drewN (Below.refl _ _) nq2)
  rw[← A];have ae:F.cell? ⟨w1.heap.size,0,none⟩=some (.string (t++u)):=AA D 0 _ rfl;have ax:F.cell? ⟨w1.heap.size,1,none⟩=some (.int .i64 (f.2:Nat)):=AA D 1 _ rfl;have U:=QA M;have I:=QA (Bw o V1 i ((t++u).data.toList,f.2) F M.rf (by rw[E.out];exact ac) (by rw[E.out];exact Z.out.len));clear D M A C S;go_wp2_with (first|(refine AD rfl _ rfl _ _ _ rfl U.out.a ?_)|fail);refine I.out.mono ?_;rintro e w7 ⟨hb7,V7,rfl,hl7⟩;have N:=U.out.below hb7;have B:V7.one:=(hl7 w7 (QM _) (λ_ _ _=>rfl) N.rf).one;have H7:=QA N;have K:=QA hl7;have T:=QA hb7;have R:=QA B;have HR:Hid (Fs.append st s.data.toList u.data.toList=({ o with files:=o.files.set i ((t++u).data.toList,f.2) },0)):=X;clear hb7 hl7 N B I;go_wp2_with (first|(refine AB rfl _ _ rfl _ { o with files:=o.files.set i ((t++u).data.toList,f.2) } V7 R.out fs0 rfl rfl rfl H7.out.b ?_)|fail);rw[HR.out];exact U.out.called T.out K.out Tryz.results23 0 rfl rfl rfl
 have aH:decide (G=0)=false:=decide_eq_false hc;have aL:(G==0)=false:=by rw[beq_eq_false_iff_ne];exact hc
 have HC:=QA hc;by_cases h2:G=20∧2<J
 ·obtain⟨aa,h2⟩:=h2;subst aa;have bS:=a0.out;have e2:decide (2<J)=true:=decide_eq_true h2;clear hc aL aH;by_cases hx:(u.size:Int)<J-3
  ·have e3:decide ((u.size:Int)<J-3)=true:=decide_eq_true hx;go_wp2_with fail;obtain⟨P,hP⟩:∃P:Nat,max 0 (min (u.size:Int) (o.room-(Fs.used st:Int)))=(P:Int):=⟨(max 0 (min (u.size:Int) (o.room-(Fs.used st:Int)))).toNat,by omega⟩
   have bu:(P:Int)≤(u.size:Int):=by omega
   have br:(0:Int)≤(P:Int):=Int.natCast_nonneg _;have X:Hid (Fs.append st s.data.toList u.data.toList=({ o with files:=o.files.set i ((t++u.extract 0 P).data.toList,f.2) },20)):=QA (by
    have H:=aj.out;have hq:(min (min (J-3) (u.size:Int)) (max 0 (st.room-(Fs.used st:Int)))).toNat=P:=by rw[L.out]at hP;omega
    unfold Fs.append Fs.grow;rw[← Y.out,if_neg (by simp),af.out,ag.out,if_neg H,← HE.out,if_pos (by simp),if_pos h2,aM.out,av.out,E.out,hq,Es,HT.out])
   rw[hP];clear hP;refine AO [7] (by kernel_rfl) (by kernel_rfl) ?_;simp only[Ap,QF,QN,QE,QL,Nat.sub_zero,Nat.reduceSub,QW]
   repeat (go_big_quiet_step (fail))
   refine wpQuiet_nil ?_;rintro _ ⟨nq,rfl⟩;go_wp2_with fail;refine wpQuiet_nil ?_;rintro _ ⟨nq2,rfl⟩;obtain⟨F,A⟩:∃q,q=((w5.drewN nq).setCell ⟨w1.heap.size,0,none⟩ (.string (t++u.extract 0 P))).drewN nq2:=⟨_,rfl⟩
   have C:Below w5.heap.size w5 (w5.drewN nq):=Below.drewN (Below.refl _ _) nq;have S:w5.heap.size≤F.heap.size:=by rw[A];simp[World.drewN,World.setCell]
   have D:F.heap[w1.heap.size]?=some (.cells #[.string (t++u.extract 0 P),.int .i64 (f.2:Nat)] 105 (0,0)):=by
    rw[A];exact heap_set ((C.block _ (AE O.out)).trans O.out) _
   have M:RAt w st V o V1 F:=by
    rw[A];exact ((H5.out.below C).wrote an.out am.out).below (Below.drewN (Below.refl _ _) nq2)
   rw[← A];have ae:F.cell? ⟨w1.heap.size,0,none⟩=some (.string (t++u.extract 0 P)):=AA D 0 _ rfl;have ax:F.cell? ⟨w1.heap.size,1,none⟩=some (.int .i64 (f.2:Nat)):=AA D 1 _ rfl;have U:=QA M;have I:=QA (Bw o V1 i ((t++u.extract 0 P).data.toList,f.2) F M.rf (by rw[E.out];exact ac) (by rw[E.out];exact Z.out.len));clear D M A C S;go_wp2_with (first|(refine AD rfl _ rfl _ _ _ rfl U.out.a ?_)|fail);refine I.out.mono ?_;rintro e w7 ⟨hb7,V7,rfl,hl7⟩;have N:=U.out.below hb7;have B:V7.one:=(hl7 w7 (QM _) (λ_ _ _=>rfl) N.rf).one;have H7:=QA N;have K:=QA hl7;have T:=QA hb7;have R:=QA B;have HR:Hid (Fs.append st s.data.toList u.data.toList=({ o with files:=o.files.set i ((t++u.extract 0 P).data.toList,f.2) },20)):=X;clear hb7 hl7 N B I;go_wp2_with (first|(refine AB rfl _ _ rfl _ { o with files:=o.files.set i ((t++u.extract 0 P).data.toList,f.2) } V7 R.out fs0 rfl rfl rfl H7.out.b ?_)|fail);rw[HR.out];exact U.out.called T.out K.out Tryz.results23 20 rfl rfl rfl
  ·have e3:decide ((u.size:Int)<J-3)=false:=decide_eq_false hx;go_wp2_with fail;obtain⟨P,hP⟩:∃P:Nat,max 0 (min (J-3) (o.room-(Fs.used st:Int)))=(P:Int):=⟨(max 0 (min (J-3) (o.room-(Fs.used st:Int)))).toNat,by omega⟩
   have bu:(P:Int)≤(u.size:Int):=by omega
   have br:(0:Int)≤(P:Int):=Int.natCast_nonneg _;have X:Hid (Fs.append st s.data.toList u.data.toList=({ o with files:=o.files.set i ((t++u.extract 0 P).data.toList,f.2) },20)):=QA (by
    have H:=aj.out;have hq:(min (min (J-3) (u.size:Int)) (max 0 (st.room-(Fs.used st:Int)))).toNat=P:=by rw[L.out]at hP;omega
    unfold Fs.append Fs.grow;rw[← Y.out,if_neg (by simp),af.out,ag.out,if_neg H,← HE.out,if_pos (by simp),if_pos h2,aM.out,av.out,E.out,hq,Es,HT.out])
   rw[hP];clear hP;refine AO [7] (by kernel_rfl) (by kernel_rfl) ?_;simp only[Ap,QF,QN,QE,QL,Nat.sub_zero,Nat.reduceSub,QW]
   repeat (go_big_quiet_step (fail))
   refine wpQuiet_nil ?_;rintro _ ⟨nq,rfl⟩;go_wp2_with fail;refine wpQuiet_nil ?_;rintro _ ⟨nq2,rfl⟩;obtain⟨F,A⟩:∃q,q=((w5.drewN nq).setCell ⟨w1.heap.size,0,none⟩ (.string (t++u.extract 0 P))).drewN nq2:=⟨_,rfl⟩
   have C:Below w5.heap.size w5 (w5.drewN nq):=Below.drewN (Below.refl _ _) nq;have S:w5.heap.size≤F.heap.size:=by rw[A];simp[World.drewN,World.setCell]
   have D:F.heap[w1.heap.size]?=some (.cells #[.string (t++u.extract 0 P),.int .i64 (f.2:Nat)] 105 (0,0)):=by
    rw[A];exact heap_set ((C.block _ (AE O.out)).trans O.out) _
   have M:RAt w st V o V1 F:=by
    rw[A];exact ((H5.out.below C).wrote an.out am.out).below (Below.drewN (Below.refl _ _) nq2)
   rw[← A];have ae:F.cell? ⟨w1.heap.size,0,none⟩=some (.string (t++u.extract 0 P)):=AA D 0 _ rfl;have ax:F.cell? ⟨w1.heap.size,1,none⟩=some (.int .i64 (f.2:Nat)):=AA D 1 _ rfl;have U:=QA M;have I:=QA (Bw o V1 i ((t++u.extract 0 P).data.toList,f.2) F M.rf (by rw[E.out];exact ac) (by rw[E.out];exact Z.out.len));clear D M A C S;go_wp2_with (first|(refine AD rfl _ rfl _ _ _ rfl U.out.a ?_)|fail);refine I.out.mono ?_;rintro e w7 ⟨hb7,V7,rfl,hl7⟩;have N:=U.out.below hb7;have B:V7.one:=(hl7 w7 (QM _) (λ_ _ _=>rfl) N.rf).one;have H7:=QA N;have K:=QA hl7;have T:=QA hb7;have R:=QA B;have HR:Hid (Fs.append st s.data.toList u.data.toList=({ o with files:=o.files.set i ((t++u.extract 0 P).data.toList,f.2) },20)):=X;clear hb7 hl7 N B I;go_wp2_with (first|(refine AB rfl _ _ rfl _ { o with files:=o.files.set i ((t++u.extract 0 P).data.toList,f.2) } V7 R.out fs0 rfl rfl rfl H7.out.b ?_)|fail);rw[HR.out];exact U.out.called T.out K.out Tryz.results23 20 rfl rfl rfl
 have X:Hid (Fs.append st s.data.toList u.data.toList=({ o with files:=o.files.set i (t.data.toList,f.2) },G)):=QA (by
  have H:=aj.out;unfold Fs.append;rw[← Y.out,if_neg (by simp),af.out,ag.out,if_neg H,← HE.out,if_pos HC.out];have hn:¬2<J:=λh3=>h2 ⟨aO.out h3,h3⟩
  have be:o.files.set i (t.data.toList,f.2)=o.files:=by
   have M:=av.out;rw[E.out,HT.out];obtain⟨N,h8⟩:=List.getElem?_eq_some_iff.1 M;show st.files.set i (f.1,f.2)=st.files;rw[← h8];exact List.set_getElem_self N
  rw[if_neg hn,be])
 by_cases aa:G=20
 ·have hn:¬2<J:=λh=>h2 ⟨aa,h⟩
  subst aa;have e2:decide (2<J)=false:=decide_eq_false hn;clear hc aL aH h2 hn;go_wp2_with fail;refine AO [7] (by kernel_rfl) (by kernel_rfl) ?_;simp only[Ap,QF,QN,QE,QL,Nat.sub_zero,Nat.reduceSub,QW]
  repeat (go_big_quiet_step (fail))
  refine wpQuiet_nil ?_;rintro _ ⟨nq,rfl⟩;go_wp2_with fail;refine wpQuiet_nil ?_;rintro _ ⟨nq2,rfl⟩;obtain⟨F,A⟩:∃q,q=((w5.drewN nq).setCell ⟨w1.heap.size,0,none⟩ (.string (t))).drewN nq2:=⟨_,rfl⟩
  have C:Below w5.heap.size w5 (w5.drewN nq):=Below.drewN (Below.refl _ _) nq;have S:w5.heap.size≤F.heap.size:=by rw[A];simp[World.drewN,World.setCell]
  have D:F.heap[w1.heap.size]?=some (.cells #[.string (t),.int .i64 (f.2:Nat)] 105 (0,0)):=by
   rw[A];exact heap_set ((C.block _ (AE O.out)).trans O.out) _
  have M:RAt w st V o V1 F:=by
   rw[A];exact ((H5.out.below C).wrote an.out am.out).below (Below.drewN (Below.refl _ _) nq2)
  rw[← A];have ae:F.cell? ⟨w1.heap.size,0,none⟩=some (.string (t)):=AA D 0 _ rfl;have ax:F.cell? ⟨w1.heap.size,1,none⟩=some (.int .i64 (f.2:Nat)):=AA D 1 _ rfl;have U:=QA M;have I:=QA (Bw o V1 i ((t).data.toList,f.2) F M.rf (by rw[E.out];exact ac) (by rw[E.out];exact Z.out.len));clear D M A C S;go_wp2_with (first|(refine AD rfl _ rfl _ _ _ rfl U.out.a ?_)|fail);refine I.out.mono ?_;rintro e w7 ⟨hb7,V7,rfl,hl7⟩;have N:=U.out.below hb7;have B:V7.one:=(hl7 w7 (QM _) (λ_ _ _=>rfl) N.rf).one;have H7:=QA N;have K:=QA hl7;have T:=QA hb7;have R:=QA B;have HR:Hid (Fs.append st s.data.toList u.data.toList=({ o with files:=o.files.set i ((t).data.toList,f.2) },20)):=X;clear hb7 hl7 N B I;go_wp2_with (first|(refine AB rfl _ _ rfl _ { o with files:=o.files.set i ((t).data.toList,f.2) } V7 R.out fs0 rfl rfl rfl H7.out.b ?_)|fail);rw[HR.out];exact U.out.called T.out K.out Tryz.results23 20 rfl rfl rfl
 have e2:decide (G=20)=false:=decide_eq_false aa;have e3:(G==20)=false:=by rw[beq_eq_false_iff_ne];exact aa
 clear hc h2 aa;go_wp2_with fail;refine AO [7] (by kernel_rfl) (by kernel_rfl) ?_;simp only[Ap,QF,QN,QE,QL,Nat.sub_zero,Nat.reduceSub,QW]
 repeat (go_big_quiet_step (fail))
 refine wpQuiet_nil ?_;rintro _ ⟨nq,rfl⟩;go_wp2_with fail;refine wpQuiet_nil ?_;rintro _ ⟨nq2,rfl⟩;obtain⟨F,A⟩:∃q,q=((w5.drewN nq).setCell ⟨w1.heap.size,0,none⟩ (.string (t))).drewN nq2:=⟨_,rfl⟩
 have C:Below w5.heap.size w5 (w5.drewN nq):=Below.drewN (Below.refl _ _) nq;have S:w5.heap.size≤F.heap.size:=by rw[A];simp[World.drewN,World.setCell]
 have D:F.heap[w1.heap.size]?=some (.cells #[.string (t),.int .i64 (f.2:Nat)] 105 (0,0)):=by
  rw[A];exact heap_set ((C.block _ (AE O.out)).trans O.out) _
 have M:RAt w st V o V1 F:=by
  rw[A];exact ((H5.out.below C).wrote an.out am.out).below (Below.drewN (Below.refl _ _) nq2)
 rw[← A];have ae:F.cell? ⟨w1.heap.size,0,none⟩=some (.string (t)):=AA D 0 _ rfl;have ax:F.cell? ⟨w1.heap.size,1,none⟩=some (.int .i64 (f.2:Nat)):=AA D 1 _ rfl;have U:=QA M;have I:=QA (Bw o V1 i ((t).data.toList,f.2) F M.rf (by rw[E.out];exact ac) (by rw[E.out];exact Z.out.len));clear D M A C S;go_wp2_with (first|(refine AD rfl _ rfl _ _ _ rfl U.out.a ?_)|fail);refine I.out.mono ?_;rintro e w7 ⟨hb7,V7,rfl,hl7⟩;have N:=U.out.below hb7;have B:V7.one:=(hl7 w7 (QM _) (λ_ _ _=>rfl) N.rf).one;have H7:=QA N;have K:=QA hl7;have T:=QA hb7;have R:=QA B;have HR:Hid (Fs.append st s.data.toList u.data.toList=({ o with files:=o.files.set i ((t).data.toList,f.2) },G)):=X;clear hb7 hl7 N B I;go_wp2_with (first|(refine AB rfl _ _ rfl _ { o with files:=o.files.set i ((t).data.toList,f.2) } V7 R.out fs0 rfl rfl rfl H7.out.b ?_)|fail);rw[HR.out];exact U.out.called T.out K.out Tryz.results23 G rfl rfl rfl
open Go.ChangeShapes Go.WideShapes Go.ChangeAt
theorem Ej {α:Type} {l:List α} {n i:Nat} {x:α} (h:(l.take n)[i]?=some x):l[i]?=some x:=by
 rw[List.getElem?_take]at h;split at h
 ·exact h
 ·cases h
theorem D3 {w:World} {p:Addr} {v:Value} (h:w.cell? p=some v):p.block<w.heap.size:=by
 unfold World.cell? at h;rcases ZU p.block w.heap.size with h'|h'
 ·exact h'
 ·simp[Array.getElem?_eq_none h']at h
theorem Ix:Tryz.prog.cellsOf 5=1:=by kernel_rfl
open Go.Maps Go.WideMaps
structure B5 (B:Nat) (w:World):Prop where
 tab : Lib.TabIs Tryz.prog w "internal/strconv.uint64pow10" .u64 Lib.pow10Tab
 rng : ∃ tp p, w.var? Tryz.prog "strconv.ErrRange" = some #[.iface tp p]
 syn : ∃ tp p, w.var? Tryz.prog "strconv.ErrSyntax" = some #[.iface tp p]
 low:2<B∧1<B∧0<B
theorem B5.below {B:Nat} {w w':World} (h:B5 B w) (hb:Below B w w'):B5 B w':=by
 obtain⟨D,⟨a,b,F⟩,⟨c,d,E⟩,C,A,o⟩:=h;exact⟨var?_below hb (by kernel_rfl) C D,⟨a,b,var?_below hb (by kernel_rfl) A F⟩,⟨c,d,var?_below hb (by kernel_rfl) o E⟩,C,A,o⟩
theorem B5.mono {B B':Nat} {w:World} (h:B5 B w) (hb:B≤B'):B5 B' w:=⟨h.tab,h.rng,h.syn,ZT h.low.1 hb,ZT h.low.2.1 hb,ZT h.low.2.2 hb⟩
namespace Sg
def nameE (id:Int):Int:=if id<1∨2147483647<id then 1 else 0
def nameB (id:Int):List UInt8:=if id<1∨2147483647<id then [] else [115,101,103,45]++Lib.itoa id
end Sg
theorem DX (a b:List UInt8):(⟨a.toArray⟩:ByteArray)++(⟨b.toArray⟩:ByteArray)=⟨(a++b).toArray⟩:=by
 apply ByteArray.ext;simp
theorem IU (id:Int) (w:World) (B:Nat) (hE:B5 B w) :
  Calls Tryz.prog 83 #[.int .i64 id] w λe w'=>e=.returned (.tuple #[.string ⟨(Sg.nameB id).toArray⟩,.int .i64 (Sg.nameE id)])∧Below w.heap.size w w':=by
 by_cases hid:id<1∨2147483647<id
 ·have D:Hid (Sg.nameB id=[]):=by unfold Sg.nameB;rw[if_pos hid];exact QA rfl
  have C:Hid (Sg.nameE id=1):=by unfold Sg.nameE;rw[if_pos hid];exact QA rfl
  rcases hid with h|h
  ·go_enter Tryz.func83,Tryz.ntmps83;go_wp2_with fail;refine bodyPost_ret (v:=.tuple #[.string ⟨#[]⟩,.int .i64 1]) (by simp[results,Tryz.results83,go_sem]) rfl ?_;exact⟨by rw[D.out,C.out],Below.refl _ _⟩
  ·have G:1≤id:=by omega
   go_enter Tryz.func83,Tryz.ntmps83;go_wp2_with fail;refine bodyPost_ret (v:=.tuple #[.string ⟨#[]⟩,.int .i64 1]) (by simp[results,Tryz.results83,go_sem]) rfl ?_;exact⟨by rw[D.out,C.out],Below.refl _ _⟩
 ·have I:1≤id:=by omega
  have G:id≤2147483647:=by omega
  have D:Hid (Sg.nameB id=[115,101,103,45]++Lib.itoa id):=by unfold Sg.nameB;rw[if_neg hid];exact QA rfl
  have C:Hid (Sg.nameE id=0):=by unfold Sg.nameE;rw[if_neg hid];exact QA rfl
  have o:=Lib.itoa_length_le id (by omega) (by omega);clear hid;go_enter Tryz.func83,Tryz.ntmps83;go_wp2_with fail;refine (Tryz.strconv_Itoa id (by omega) (by omega) w hE.tab).mono ?_;rintro e w1 ⟨rfl,k,os,hw1⟩;have hb:Below w.heap.size w w1:=by rw[hw1];exact Lib.below_grow w.heap.size w (QM _) k os
  have E:=QA hb;clear hw1;obtain⟨s,A⟩:∃s:ByteArray,s=⟨(Lib.itoa id).toArray⟩:=⟨_,rfl⟩
  have H:(s.size:Int)≤21:=by
   rw[A];show ((Lib.itoa id).toArray.size:Int)≤21;simp;omega
  rw[← A];have F:=QA A;clear A o hb;go_wp2_with fail;refine bodyPost_ret (v:=.tuple #[.string (⟨#[115,101,103,45]⟩++s),.int .i64 0]) (by simp[results,Tryz.results83,go_sem]) rfl ?_;exact⟨by rw[D.out,C.out,F.out,← DX],E.out⟩
open Go.Maps Go.WideMaps
theorem Cq {w:World} {a:Option Addr} {n c:Nat} {l:List UInt8} (h:Al w (.slice a n c) l) :
  (convert 38 9 (.slice a n c)).run Tryz.prog w=.ok (.string ⟨l.toArray⟩) w:=by
 have D:=h;obtain⟨H,G,e,F,C,_⟩:=D;simp only[Value.slice.injEq]at e;obtain⟨rfl,rfl,rfl⟩:=e;cases a with
 | none =>
  have h0:l=[]:=List.length_eq_zero_iff.1 (by have:=C rfl;omega);subst h0;exact run_convert_bytes_nil w 38 5 Tryz.underlying38 Tryz.underlying5 0 c 9 Tryz.underlying9
 | some ad =>
  refine run_convert_bytes_back w 38 9 5 ad c l Tryz.underlying38 Tryz.underlying5 Tryz.underlying9 (λj hj=>?_);obtain⟨b,B,o,E,A⟩:=h.at (ZG hj);cases o;rw[Bd];exact A
theorem Ii (w:World) (n:Nat) (hn:n<10):Al (w.alloc (.cells #[.int .u8 (48+(n:Int))] 5)) (.slice (some ⟨w.heap.size,0,none⟩) 1 1) [UInt8.ofNat (48+n)]:=by
 refine⟨_,_,rfl,QM _,(λe=>by cases e),λi x hi=>⟨w.heap.size,0,rfl,by simp,?_⟩⟩;have h0:i=0:=by have:=(List.getElem?_eq_some_iff.1 hi).1;simpa using this
 subst h0;simp only[List.getElem?_cons_zero,Option.some.injEq]at hi;subst hi;refine A4 w _ _ 0 _ ?_;have:(UInt8.ofNat (48+n)).toNat=48+n:=UInt8.toNat_ofNat_of_lt' (by show _<256;omega);rw[this];rfl
open Go.Maps Go.WideMaps
namespace Sg
def seg:List UInt8:=[115,101,103,45]
def isDig (c:UInt8):Bool:=decide (48≤c.toNat)&&decide (c.toNat≤57)
def I5 (l:List UInt8):Nat:=l.foldl (λn c=>n*10+(c.toNat-48)) 0
def JK (l:List UInt8):Int :=
 if l.length<5∨14<l.length∨l.take 4≠seg then 0
 else if (l.drop 4).all isDig=false then 0
 else if nameE (I5 (l.drop 4))≠0∨nameB (I5 (l.drop 4))≠l then 0
 else I5 (l.drop 4)
def idOf (l:List UInt8):Int :=
 match Lib.atoiAll (Lib.trimPrefix l seg) with
 | .ok v=>if Lib.hasPrefix l seg=true∧nameE v=0∧nameB v=l then v else 0
 | _=>0
end Sg
open Go.Maps Go.WideMaps
theorem Jg:(⟨#[115,101,103,45]⟩:ByteArray).data.toList=Sg.seg:=rfl
theorem Jn (s:ByteArray) (w:World) (B:Nat) (hE:B5 B w) (hB:B≤w.heap.size) (hs:s.size≤1000000) :
  Calls Tryz.prog 50 #[.string s] w λe w'=>e=.returned (.tuple #[.int .i64 (Sg.idOf s.data.toList),.bool (decide (0<Sg.idOf s.data.toList))])∧Below w.heap.size w w':=by
 have C:Hid (Sg.idOf s.data.toList=match Lib.atoiAll (Lib.trimPrefix s.data.toList Sg.seg) with
  | .ok v=>if Lib.hasPrefix s.data.toList Sg.seg=true∧Sg.nameE v=0∧Sg.nameB v=s.data.toList then v else 0
  | _=>0):=QA rfl
 go_enter Tryz.func50,Tryz.ntmps50;go_wp2_with fail;refine (Tryz.strings_CutPrefix s ⟨#[115,101,103,45]⟩ w).mono ?_;rintro e w1 ⟨rfl,hw1⟩;subst hw1;rw[Jg];obtain⟨d,T⟩:∃d:ByteArray,d=⟨(Lib.trimPrefix s.data.toList Sg.seg).toArray⟩:=⟨_,rfl⟩
 obtain⟨ok,I⟩:∃ok,ok=Lib.hasPrefix s.data.toList Sg.seg:=⟨_,rfl⟩
 have K:d.data.toList=Lib.trimPrefix s.data.toList Sg.seg:=by rw[T]
 have Y:d.size≤1000000:=by
  have Z:(Lib.trimPrefix s.data.toList Sg.seg).length≤s.size:=by
   unfold Lib.trimPrefix;split<;>simp
  rw[← K]at Z;have h2:d.data.toList.length=d.size:=by simp
  omega
 rw[← T,← I];have M:=QA K;have R:=QA I;clear T I K;go_wp2_with fail;cases hat:Lib.atoiAll d.data.toList with
 | ok v =>
  have F:=QA hat;refine (Tryz.strconv_Atoi_ok d (by omega) v hat w1).mono ?_;rintro e w2 ⟨rfl,hw2⟩;have o:Below w1.heap.size w1 w2:=by
   rcases hw2 with rfl|⟨t,rfl⟩
   ·exact Below.refl _ _
   ·exact Joins.below_bytesWorld w1.heap.size w1 5 t (QM _)
  have A:=QA o;have U:=hE.below (o.mono hB);clear hw2 o hat;cases ok with
  | false =>
   have D:Hid (Sg.idOf s.data.toList=0):=by
    rw[C.out,← M.out,F.out];show Hid ((if _ then _ else _)=_);rw[← R.out,if_neg (by simp)];exact QA rfl
   go_wp2_with fail;refine bodyPost_ret (v:=.tuple #[.int .i64 0,.bool false]) (by simp[results,Tryz.results50,go_sem]) rfl ?_;exact⟨by rw[D.out];rfl,A.out⟩
  | true =>
   go_wp2_with fail;refine (IU v w2 B U).mono ?_;rintro e w3 ⟨rfl,hb3⟩;have J:=QA (A.out.trans (hb3.mono A.out.size));obtain⟨E,G⟩:∃E,E=Sg.nameE v:=⟨_,rfl⟩
   obtain⟨S,H⟩:∃t:ByteArray,t=⟨(Sg.nameB v).toArray⟩:=⟨_,rfl⟩
   rw[← H,← G];have Q:=QA H;have L:=QA G;clear H G hb3;by_cases hE0:E=0
   ·subst hE0;by_cases heq:S=s
    ·have V:0<v:=by
      have:=L.out;unfold Sg.nameE at this;split at this<;>omega
     have D:Hid (Sg.idOf s.data.toList=v):=by
      rw[C.out,← M.out,F.out];show Hid ((if _ then _ else _)=_);rw[← R.out,if_pos ⟨rfl,L.out.symm,by rw[← heq,Q.out]⟩];exact QA rfl
     have P:(S.toList==s.toList)=true:=by rw[heq];simp
     clear heq;go_wp2_with fail;refine bodyPost_ret (v:=.tuple #[.int .i64 v,.bool true]) (by simp[results,Tryz.results50,go_sem]) rfl ?_;exact⟨by rw[D.out];simp[V],J.out⟩
    ·have D:Hid (Sg.idOf s.data.toList=0):=by
      rw[C.out,← M.out,F.out];show Hid ((if _ then _ else _)=_);rw[if_neg (λh=>heq (by rw[Q.out,h.2.2]))];exact QA rfl
     have P:(S.toList==s.toList)=false:=by
      rw[beq_eq_false_iff_ne,ByteArray.toList_eq,ByteArray.toList_eq];exact λh=>heq (ByteArray.ext (Array.toList_inj.1 h))
     clear heq;go_wp2_with fail;refine bodyPost_ret (v:=.tuple #[.int .i64 0,.bool false]) (by simp[results,Tryz.results50,go_sem]) rfl ?_;exact⟨by rw[D.out];rfl,J.out⟩
   ·have D:Hid (Sg.idOf s.data.toList=0):=by
     rw[C.out,← M.out,F.out];show Hid ((if _ then _ else _)=_);rw[if_neg (λh=>hE0 (by rw[L.out,h.2.1]))];exact QA rfl
    have P:(E != 0)=true:=by rw[bne_iff_ne];exact hE0
    have X:(E==0)=false:=by rw[beq_eq_false_iff_ne];exact hE0
    clear hE0;go_wp2_with fail;refine bodyPost_ret (v:=.tuple #[.int .i64 0,.bool false]) (by simp[results,Tryz.results50,go_sem]) rfl ?_;exact⟨by rw[D.out];rfl,J.out⟩
 | range =>
  obtain⟨W,p,O⟩:=hE.rng;have D:Hid (Sg.idOf s.data.toList=0):=by rw[C.out,← M.out,hat];exact QA rfl
  refine (Tryz.strconv_Atoi_range_var d (by omega) hat W p w1 O).mono ?_;rintro e w2 ⟨N,rfl,hN,_,o⟩;have A:=QA o;clear o hat O;cases ok
  ·go_wp2_with fail;refine bodyPost_ret (v:=.tuple #[.int .i64 0,.bool false]) (by simp[results,Tryz.results50,go_sem]) rfl ?_;exact⟨by rw[D.out];rfl,A.out⟩
  ·go_wp2_with fail;refine bodyPost_ret (v:=.tuple #[.int .i64 0,.bool false]) (by simp[results,Tryz.results50,go_sem]) rfl ?_;exact⟨by rw[D.out];rfl,A.out⟩
 | _ =>
  obtain⟨W,p,O⟩:=hE.syn;have D:Hid (Sg.idOf s.data.toList=0):=by rw[C.out,← M.out,hat];exact QA rfl
  refine (Tryz.strconv_Atoi_syntax_var d (by omega) hat W p w1 O).mono ?_;rintro e w2 ⟨N,rfl,hN,_,o⟩;have A:=QA o;clear o hat O;cases ok
  ·go_wp2_with fail;refine bodyPost_ret (v:=.tuple #[.int .i64 0,.bool false]) (by simp[results,Tryz.results50,go_sem]) rfl ?_;exact⟨by rw[D.out];rfl,A.out⟩
  ·go_wp2_with fail;refine bodyPost_ret (v:=.tuple #[.int .i64 0,.bool false]) (by simp[results,Tryz.results50,go_sem]) rfl ?_;exact⟨by rw[D.out];rfl,A.out⟩
namespace Sg
theorem Hu (n:Nat) (h:n<10):(UInt8.ofNat (48+n)).toNat=48+n:=UInt8.toNat_ofNat_of_lt' (by show _<256;omega)
theorem dval_dec (n:Nat):∀(a:Nat),(Lib.decDigits n).foldl (λn c=>n*10+(c.toNat-48)) a=a*10 ^ (Lib.decDigits n).length+n∧(Lib.decDigits n).all isDig=true:=by
 induction n using Nat.strongRecOn with
 | _ n ih =>
  intro a;by_cases h:n<10
  ·rw[Lib.decDigits_one h];refine⟨?_,?_⟩
   ·simp only[List.foldl_cons,List.foldl_nil,List.length_singleton,Nat.pow_one,Hu n h];omega
   ·simp only[ZV,List.all_nil,isDig,Hu n h];simp;omega
  ·have E:Lib.decDigits n=Lib.decDigits (n / 10)++Lib.decDigits (n % 10):=by
    rw[Lib.decDigits,dif_neg h,Lib.decDigits_one (i:=n % 10) (by omega)]
   obtain⟨A,D⟩:=ih (n / 10) (by omega) a;obtain⟨B,C⟩:=ih (n % 10) (by omega) (a*10 ^ (Lib.decDigits (n / 10)).length+n / 10);rw[E,List.foldl_append,A,B,List.all_append,D,C,List.length_append,Nat.pow_add];have o:(Lib.decDigits (n % 10)).length=1:=by rw[Lib.decDigits_one (by omega)];rfl
   rw[o,Nat.pow_one];refine⟨?_,rfl⟩;rw[Nat.add_mul,Nat.mul_assoc];omega
theorem Io (n:Nat):Lib.decDigits n≠[]:=by
 intro h;have:=Lib.decDigits_length n;have o:=Lib.nDigits_pos n;rw[h]at this;simp at this;omega
theorem C7:∀(l:List UInt8) (a:Nat),l.all isDig=true→l.foldl (λn c=>n*10+(c.toNat-48)) a<18446744073709551616 →
  Lib.parseUint10 a l=.ok (l.foldl (λn c=>n*10+(c.toNat-48)) a)
 | [],a,_,_=>rfl
 | c::r,a,hd,hb=>by
  simp only[ZV,ZA]at hd;have o:=hd.1;unfold isDig at o;simp only[ZA,decide_eq_true_eq]at o;rw[List.foldl_cons]at hb ⊢;have A:∀(l:List UInt8) (b:Nat),b≤l.foldl (λn c=>n*10+(c.toNat-48)) b:=by
   intro l
   induction l with
   | nil=>intro b;exact QM _
   | cons x l ih=>intro b;rw[List.foldl_cons];have:=ih (b*10+(x.toNat-48));omega
  have B:=A r (a*10+(c.toNat-48));unfold Lib.parseUint10;rw[if_pos o,if_neg (by omega),if_neg (by omega)];exact C7 r _ hd.2 hb
theorem atoi_dec (n:Nat) (h:n<9223372036854775808):Lib.atoiAll (Lib.decDigits n)=.ok (n:Int):=by
 obtain⟨B,A⟩:=dval_dec n 0;rw[Nat.zero_mul,Nat.zero_add]at B;have C:=C7 (Lib.decDigits n) 0 A (by rw[B];omega);rw[B]at C;have D:=Io n;cases hl:Lib.decDigits n with
 | nil=>exact absurd hl D
 | cons c r =>
  have E:isDig c=true:=by
   rw[hl]at A;simp only[ZV,ZA]at A;exact A.1
  unfold isDig at E;simp only[ZA,decide_eq_true_eq]at E;unfold Lib.atoiAll;rw[hl]at C;simp only;rw[if_neg (by omega)];unfold Lib.parseMag;rw[if_neg (by simp),C];have o:¬c.toNat=45:=by omega
  simp only[o,not_false_eq_true,true_and,false_and,if_false];rw[if_neg (by omega)]
theorem JE {id:Int} (h:nameE id=0):1≤id∧id≤2147483647∧nameB id=seg++Lib.decDigits id.toNat:=by
 unfold nameE at h;have o:¬(id<1∨2147483647<id):=by
  intro hc;rw[if_pos hc]at h;cases h
 refine⟨by omega,by omega,?_⟩;unfold nameB;rw[if_neg o];have:Lib.itoa id=Lib.decDigits id.toNat:=by
  have:=Lib.itoa_nonneg id.toNat
  rwa [show ((id.toNat:Nat):Int)=id by omega]at this
 rw[this];rfl
theorem Hv (r:List UInt8):Lib.trimPrefix (seg++r) seg=r∧Lib.hasPrefix (seg++r) seg=true:=by
 have h:Lib.hasPrefix (seg++r) seg=true:=by
  unfold Lib.hasPrefix;rw[List.isPrefixOf_iff_prefix];exact List.prefix_append _ _
 refine⟨?_,h⟩;unfold Lib.trimPrefix;rw[if_pos h];rfl
theorem id_name {id:Int} (h:nameE id=0):idOf (nameB id)=id∧JK (nameB id)=id:=by
 obtain⟨K,O,B⟩:=JE h;obtain⟨n,rfl⟩:∃n:Nat,id=n:=⟨id.toNat,by omega⟩
 rw[Int.toNat_natCast]at B;obtain⟨I,J⟩:=Hv (Lib.decDigits n);obtain⟨G,H⟩:=dval_dec n 0;rw[Nat.zero_mul,Nat.zero_add]at G;have F:(Lib.decDigits n).length≤10:=by
  rw[Lib.decDigits_length];have N:n≤2147483647:=by omega
  rcases ZU 10 (Lib.nDigits n) with hgt|hle
  ·exfalso;have:∀k u,Lib.nDigits u=k+1→1≤u→10 ^ k≤u:=by
    intro k
    induction k with
    | zero=>intro u _ hu;simpa using hu
    | succ k ih =>
     intro u hu h1u;by_cases hs:u<10
     ·rw[Lib.nDigits_small hs]at hu;omega
     ·rw[Lib.nDigits_big hs]at hu;have:=ih (u / 10) (by omega) (by omega);rw[Nat.pow_succ];omega
   have L:=this (Lib.nDigits n-1) n (by omega) (by omega);have M:10 ^ 10≤10 ^ (Lib.nDigits n-1):=Nat.pow_le_pow_right (by omega) (by omega);omega
  ·exact hle
 have C:1≤(Lib.decDigits n).length:=by
  have:=Io n;cases hx:Lib.decDigits n with
  | nil=>exact absurd hx this
  | cons c r=>simp
 have o:(seg++Lib.decDigits n).drop 4=Lib.decDigits n:=rfl;have A:(seg++Lib.decDigits n).take 4=seg:=rfl;have D:(seg++Lib.decDigits n).length=4+(Lib.decDigits n).length:=by rw[List.length_append];rfl
 constructor
 ·unfold idOf;rw[B,I,atoi_dec n (by omega)];show (if _ then _ else _)=_;rw[if_pos ⟨J,h,B⟩]
 ·unfold JK;have E:I5 ((nameB (n:Int)).drop 4)=n:=by rw[B,o];exact G
  rw[E];rw[if_neg (by rw[B,D,A];simp;omega),if_neg (by rw[B,o,H];simp),if_neg (by rw[h];simp)]
theorem id_of {l:List UInt8} {v:Int} (h:idOf l=v) (hv:v≠0):nameE v=0∧nameB v=l:=by
 unfold idOf at h;cases hat:Lib.atoiAll (Lib.trimPrefix l seg) with
 | ok u =>
  rw[hat]at h;simp only at h;by_cases hc:Lib.hasPrefix l seg=true∧nameE u=0∧nameB u=l
  ·rw[if_pos hc]at h;subst h;exact hc.2
  ·rw[if_neg hc]at h;exact absurd h.symm hv
 | _=>rw[hat]at h;exact absurd h.symm hv
end Sg
open Go.Maps Go.WideMaps
theorem AV.refl {base B:Nat} {st:Fs.St} {V:FsV} {own:Nat→Tag} {w:World} (h:Ad base B st V own w):AV base B st own w w:=⟨V,own,h,λ_ _=>rfl,Kept.refl _ _ _⟩
theorem AV.of {base B:Nat} {st:Fs.St} {V:FsV} {own:Nat→Tag} {w w':World} (h:Ad base B st V own w) (hb:Below w.heap.size w w'):AV base B st own w w':=⟨V,own,h.kept (AL hb),λ_ _=>rfl,AL hb⟩
theorem AV.step {base B:Nat} {st':Fs.St} {own own':Nat→Tag} {w w1 w2:World} (hk1:Kept own (·≠.other) w w1) (ho1:∀k,k<w.heap.size→own' k=own k) (h2:AV base B st' own' w1 w2):AV base B st' own w w2:=by
 obtain⟨D,A,h,C,o⟩:=h2;refine⟨D,A,h,λk hk=>(C k (ZT hk hk1.size)).trans (ho1 k hk),o.os.trans hk1.os,o.tape.trans hk1.tape,o.output.trans hk1.output,QQ hk1.size o.size,λk hk ht=>?_⟩;rw[o.block k (ZT hk hk1.size) (by rw[ho1 k hk];exact ht)];exact hk1.block k hk ht
theorem AV.below0 {base B:Nat} {st st':Fs.St} {V:FsV} {own:Nat→Tag} {w w':World} (h:Ad base B st V own w) (hp:AV base B st' own w w') (hbase:base≤w.heap.size):Below base w w':=by
 obtain⟨_,_,_,_,o⟩:=hp;exact⟨o.os,o.tape,o.output,o.size,λk hk2=>o.block k (ZT hk2 hbase) (by rw[h.old k hk2];simp)⟩
structure Fs.Small (st:Fs.St):Prop where
 files:st.files.length≤800000
 dir:st.dir.length≤800000
 changes:st.changes.length≤800000
 file:∀f∈st.files,f.1.length≤65536
 room:0≤st.room∧st.room≤1048576
open Go.Maps Go.WideMaps
def Ints (w:World) (v:Value) (l:List Int):Prop :=
 ∃a cap,v=.slice a l.length cap∧∀(i:Nat) x,l[i]?=some x→∃b off,a=some ⟨b,off,none⟩∧b<w.heap.size∧w.cell? ⟨b,off+i,none⟩=some (.int .i64 x)
theorem Ints.form {w:World} {v:Value} {l:List Int} (h:Ints w v l):∃a cap,v=.slice a l.length cap:=by
 obtain⟨a,cap,o,_⟩:=h;exact⟨a,cap,o⟩
theorem Ints.at {w:World} {a:Option Addr} {n cap:Nat} {l:List Int} (h:Ints w (.slice a n cap) l) {i:Nat} {x:Int} (hi:l[i]?=some x) :
  ∃b off,a=some ⟨b,off,none⟩∧b<w.heap.size∧w.cell? ⟨b,off+i,none⟩=some (.int .i64 x):=by
 obtain⟨E,A,o,D⟩:=h;obtain⟨b,off,e,B,C⟩:=D i x hi;simp only[Value.slice.injEq]at o;exact⟨b,off,by rw[o.1,e],B,C⟩
theorem Ints.below {w w':World} {v:Value} {l:List Int} (h:Ints w v l) (hb:Below w.heap.size w w'):Ints w' v l:=by
 obtain⟨a,cap,B,C⟩:=h;refine⟨a,cap,B,λi x hi=>?_⟩;obtain⟨b,o,e,A,D⟩:=C i x hi;exact⟨b,o,e,ZT A hb.size,by rw[World.cell?_of_block (hb.block b A)];exact D⟩
namespace Fs
def Calm (st:St):Prop:=st.left=-1∧st.plan=[]
theorem step_calm {st:St} (h:Calm st):step st=({ st with steps:=wrap64 (st.steps+1) },0,0):=by
 obtain⟨A,o⟩:=h;unfold step;rw[if_neg (by omega),o,if_neg (by omega)];cases st;simp only at A o;subst A o;rfl
theorem Cs (x:List UInt8×Int):∀l:Names,(mins x l).Perm (x::l)
 | []=>List.Perm.refl _
 | y::r=>by
  unfold mins;split
  ·exact List.Perm.refl _
  ·exact ((Cs x r).cons y).trans (List.Perm.swap x y r)
theorem CW {l:Names} {k:List UInt8} (h:mhas l k=false):mdel l k=l:=by
 unfold mdel;rw[List.filter_eq_self];intro p hp;unfold mhas at h;rw[List.any_eq_false]at h;have:=h p hp
 simpa using this
theorem IZ {l:Names} {k:List UInt8} (h:mhas l k=false) (v:Int):(mput l k v).Perm ((k,v)::l):=by
 unfold mput;rw[CW h];exact Cs _ _
theorem G7 {l l':Names} (h:l.Perm l') (k:List UInt8):mhas l k=mhas l' k:=by
 unfold mhas;rw[Bool.eq_iff_iff,List.any_eq_true,List.any_eq_true];constructor
 ·rintro⟨p,h1,h2⟩;exact⟨p,h.mem_iff.1 h1,h2⟩
 ·rintro⟨p,h1,h2⟩;exact⟨p,h.mem_iff.2 h1,h2⟩
theorem mget_of {l:Names} (hnd:∀p∈l,∀q∈l,p.1=q.1→p.2=q.2) {k:List UInt8} {v:Int} (h:(k,v)∈l):mget l k=v:=by
 obtain⟨p,o,A,B⟩:=mget_mem (l:=l) (k:=k) (by unfold mhas;rw[List.any_eq_true];exact⟨(k,v),h,by simp⟩);rw[← B];exact hnd p o (k,v) h A
abbrev FC:=List (List UInt8×List UInt8)
def BG:Nat→FC→Names
 | _,[]=>[]
 | i,s::r=>(s.1,(i:Int))::BG (i+1) r
theorem El:∀(l r:FC) (i:Nat),BG i (l++r)=BG i l++BG (i+l.length) r
 | [],r,i=>rfl
 | s::l,r,i=>by
  rw[List.cons_append,BG,BG,El l r (i+1),List.cons_append,QO,Nat.add_right_comm,Nat.add_assoc]
theorem DI:∀(l:FC) (i j:Nat) (s:List UInt8×List UInt8),l[j]?=some s→(s.1,((i+j:Nat):Int))∈BG i l
 | [],i,j,s,h=>by simp at h
 | x::l,i,0,s,h=>by
  simp at h;subst h;exact List.mem_cons_self
 | x::l,i,j+1,s,h=>by
  have:=DI l (i+1) j s (by simpa using h);rw[show i+(j+1)=i+1+j by omega];exact List.mem_cons_of_mem _ this
theorem CQ:∀(l:FC) (i:Nat) (p:List UInt8×Int),p∈BG i l→∃j s,l[j]?=some s∧p=(s.1,((i+j:Nat):Int))
 | [],i,p,h=>by simp[BG]at h
 | x::l,i,p,h=>by
  rw[BG]at h;rcases List.mem_cons.1 h with h|h
  ·exact⟨0,x,rfl,h⟩
  ·obtain⟨j,s,A,o⟩:=CQ l (i+1) p h;exact⟨j+1,s,by simpa using A,by rw[o,show i+(j+1)=i+1+j by omega]⟩
theorem Ev:∀(l:FC) (i:Nat),(BG i l).length=l.length
 | [],_=>rfl
 | s::l,i=>by rw[BG,QO,Ev l,QO]
theorem Dk:∀(l l':FC) (i:Nat),l.map (·.1)=l'.map (·.1)→BG i l=BG i l'
 | [],[],_,_=>rfl
 | [],x::l,_,h=>by simp at h
 | x::l,[],_,h=>by simp at h
 | x::l,y::l',i,h=>by
  simp only[ZP,List.cons.injEq]at h;rw[BG,BG,h.1,Dk l l' (i+1) h.2]
structure Rep (st:St) (segs:FC):Prop where
 calm:Calm st
 files:st.files.map (·.1)=segs.map (·.2)
 dir:st.dir.Perm (BG 0 segs)
 names:∀(i j:Nat) s t,segs[i]?=some s→segs[j]?=some t→s.1=t.1→i=j
section
variable {st : St} {segs : FC}
theorem Rep.len (h:Rep st segs):st.files.length=segs.length:=by
 have:=congrArg List.length h.files
 simpa using this
theorem Rep.dlen (h:Rep st segs):st.dir.length=segs.length:=by rw[h.dir.length_eq,Ev]
theorem Rep.keys (h:Rep st segs):∀p∈st.dir,∀q∈st.dir,p.1=q.1→p.2=q.2:=by
 intro p hp q hq e;obtain⟨i,s,o,rfl⟩:=CQ segs 0 p (h.dir.mem_iff.1 hp);obtain⟨j,t,A,rfl⟩:=CQ segs 0 q (h.dir.mem_iff.1 hq);have:=h.names i j s t o A e;subst this;rfl
theorem Rep.has (h:Rep st segs) (n:List UInt8):mhas st.dir n=segs.any (λs=>s.1==n):=by
 rw[G7 h.dir];unfold mhas;rw[Bool.eq_iff_iff,List.any_eq_true,List.any_eq_true];constructor
 ·rintro⟨p,h1,h2⟩;obtain⟨j,s,o,rfl⟩:=CQ segs 0 p h1;exact⟨s,QZ o,h2⟩
 ·rintro⟨s,h1,h2⟩;obtain⟨j,o⟩:=List.getElem?_of_mem h1;exact⟨_,DI segs 0 j s o,h2⟩
theorem Rep.get (h:Rep st segs) {i:Nat} {s:List UInt8×List UInt8} (hi:segs[i]?=some s):mget st.dir s.1=i:=by
 have:=DI segs 0 i s hi;rw[Nat.zero_add]at this;exact mget_of h.keys (h.dir.mem_iff.2 this)
theorem Rep.file (h:Rep st segs) {i:Nat} {s:List UInt8×List UInt8} (hi:segs[i]?=some s):∃f,st.files[i]?=some f∧f.1=s.2:=by
 have o:=congrArg (λl=>l[i]?) h.files;simp only[ZF,hi,Option.map_some]at o;cases hf:st.files[i]? with
 | none=>rw[hf]at o;cases o
 | some f=>rw[hf]at o;exact⟨f,rfl,by simpa using o⟩
theorem Rep.at (h:Rep st segs) {i:Nat} {s:List UInt8×List UInt8} (hi:segs[i]?=some s):idx st s.1=i∧fileAt st s.1=s.2∧(good s.1=true→openE st s.1=0):=by
 have o:idx st s.1=i:=by unfold idx;rw[h.get hi];rfl
 obtain⟨f,A,B⟩:=h.file hi;refine⟨o,?_,λhg=>?_⟩
 ·unfold fileAt;rw[o,A];exact B
 ·unfold openE;rw[if_neg (by rw[hg];simp),h.has,if_neg];rw[Bool.not_eq_false,List.any_eq_true];exact⟨s,QZ hi,by simp⟩
theorem Rep.used (h:Rep st segs):used st=(segs.map (·.2.length)).sum:=by
 have B:(st.dir.map λp=>lenAt st p.2).Perm ((BG 0 segs).map λp=>lenAt st p.2):=h.dir.map _;have A:(st.dir.map λp=>lenAt st p.2).sum=((BG 0 segs).map λp=>lenAt st p.2).sum:=B.sum_nat;show (st.dir.map λp=>lenAt st p.2).sum=_;rw[A];have:∀(r:FC) (i:Nat),(∀j s,r[j]?=some s→segs[i+j]?=some s)→((BG i r).map λp=>lenAt st p.2)=r.map (·.2.length):=by
  intro r
  induction r with
  | nil=>intro i _;rfl
  | cons x r ih =>
   intro i hr;rw[BG,ZP,ZP,ih (i+1) (λj s hj=>by
    have:=hr (j+1) s (by simpa using hj)
    rwa [show i+1+j=i+(j+1) by omega])]
   obtain⟨f,o,C⟩:=h.file (hr 0 x rfl);rw[Nat.add_zero]at o
   congr 1
   show lenAt st (i:Int)=_;unfold lenAt;rw[Int.toNat_natCast,o];show f.1.length=_;rw[C]
 rw[this segs 0 (λj s hj=>by rw[Nat.zero_add];exact hj)]
theorem Rep.new (room:Int):Rep (new room) []:=⟨⟨rfl,rfl⟩,rfl,List.Perm.refl _,λi j s t h=>by simp at h⟩
theorem Rep.create (h:Rep st segs) {n:List UInt8} (hg:good n=true) (hn:∀s∈segs,s.1≠n) (hl:segs.length<64) :
  (create st n).2=0∧Rep (create st n).1 (segs++[(n,[])])∧(create st n).1.room=st.room∧(create st n).1.changes.length=st.changes.length+1:=by
 have o:mhas st.dir n=false:=by
  rw[h.has,List.any_eq_false];intro s A
  simpa using hn s A
 have B:Fs.create st n=({ (step st).1 with files:=st.files++[([],0)],dir:=mput st.dir n st.files.length,changes:=st.changes++[[(n,(st.files.length:Int))]] },0):=by
  unfold Fs.create;rw[if_neg (by rw[hg];simp),if_neg (by rw[o];simp),if_neg (by rw[h.dlen];omega),if_neg (by rw[step_calm h.calm];simp)]
 rw[B,step_calm h.calm];refine⟨rfl,⟨⟨h.calm.1,h.calm.2⟩,?_,?_,?_⟩,rfl,by simp⟩
 ·show (st.files++[(([]:List UInt8),(0:Nat))]).map (λf=>f.1)=_;rw[List.map_append,h.files,List.map_append];rfl
 ·show (mput st.dir n st.files.length).Perm _;refine (IZ o _).trans ?_;rw[El,Nat.zero_add,h.len];refine (h.dir.cons _).trans ?_;exact (List.perm_append_singleton _ _).symm
 ·intro i j s t hi hj e;rcases ZU i segs.length with hi2|hi2
  ·rw[ZL hi2]at hi;rcases ZU j segs.length with hj2|hj2
   ·rw[ZL hj2]at hj;exact h.names i j s t hi hj e
   ·rw[List.getElem?_append_right hj2]at hj;have:t=(n,[]):=by
     have:=(List.getElem?_eq_some_iff.1 hj).1;have h0:j-segs.length=0:=by simpa using this
     rw[h0]at hj
     simpa using hj.symm
    subst this;exact absurd e (hn s (QZ hi))
  ·rw[List.getElem?_append_right hi2]at hi;have h0:i-segs.length=0:=by have:=(List.getElem?_eq_some_iff.1 hi).1;simpa using this
   have A:s=(n,[]):=by rw[h0]at hi;simpa using hi.symm
   subst A;rcases ZU j segs.length with hj2|hj2
   ·rw[ZL hj2]at hj;exact absurd e.symm (hn t (QZ hj))
   ·rw[List.getElem?_append_right hj2]at hj;have C:j-segs.length=0:=by have:=(List.getElem?_eq_some_iff.1 hj).1;simpa using this
    omega
theorem Rep.append (h:Rep st segs) {i:Nat} {s:List UInt8×List UInt8} (hi:segs[i]?=some s) (hg:good s.1=true) (b:List UInt8) (hb:s.2.length+b.length≤65536)
  (hr:(((segs.map (·.2.length)).sum:Nat):Int)+b.length≤st.room) :
  (append st s.1 b).2=0∧Rep (append st s.1 b).1 (segs.set i (s.1,s.2++b))∧(append st s.1 b).1.room=st.room∧(append st s.1 b).1.changes=st.changes:=by
 obtain⟨H,M,I⟩:=h.at hi;obtain⟨f,G,B⟩:=h.file hi;have K:Fs.append st s.1 b=({ (step st).1 with files:=grow st.files (idx st s.1) b },0):=by
  unfold Fs.append;rw[if_neg (by rw[I hg];simp),M,if_neg (by omega),step_calm h.calm,if_neg (by simp),h.used,if_neg (by omega)]
 have A:grow st.files (idx st s.1) b=st.files.set i (f.1++b,f.2):=by
  unfold grow;rw[H,G]
 rw[K,step_calm h.calm,A];refine⟨rfl,⟨⟨h.calm.1,h.calm.2⟩,?_,?_,?_⟩,rfl,rfl⟩
 ·show (st.files.set i (f.1++b,f.2)).map (·.1)=_;rw[List.map_set,List.map_set,h.files,B]
 ·show st.dir.Perm _;rw[Dk (segs.set i (s.1,s.2++b)) segs 0 (by
   rw[List.map_set];have P:=(List.getElem?_eq_some_iff.1 hi).1;have:(segs.map (·.1))[i]?=some s.1:=by rw[ZF,hi];rfl
   obtain⟨L,O⟩:=List.getElem?_eq_some_iff.1 this;rw[← O];exact List.set_getElem_self L)]
  exact h.dir
 ·have o:∀(k:Nat) t,(segs.set i (s.1,s.2++b))[k]?=some t→∃t',segs[k]?=some t'∧t'.1=t.1:=by
   intro k t hk;by_cases hik:i=k
   ·subst hik;rw[List.getElem?_set_self (List.getElem?_eq_some_iff.1 hi).1]at hk;simp at hk;subst hk;exact⟨s,hi,rfl⟩
   ·rw[List.getElem?_set_ne hik]at hk;exact⟨t,hk,rfl⟩
  intro a c x y ha hc e;obtain⟨J,E,C⟩:=o a x ha;obtain⟨N,D,F⟩:=o c y hc;exact h.names a c J N E D (by rw[C,F,e])
theorem Rep.sync (h:Rep st segs) {i:Nat} {s:List UInt8×List UInt8} (hi:segs[i]?=some s) (hg:good s.1=true) :
  (sync st s.1).2=0∧Rep (sync st s.1).1 segs∧(sync st s.1).1.room=st.room∧(sync st s.1).1.changes=st.changes:=by
 obtain⟨A,G,B⟩:=h.at hi;have F:Fs.sync st s.1=({ (step st).1 with files:=flush st.files (idx st s.1) },0):=by
  unfold Fs.sync;rw[if_neg (by rw[B hg];simp),step_calm h.calm,if_neg (by simp)]
 rw[F,step_calm h.calm];refine⟨rfl,⟨⟨h.calm.1,h.calm.2⟩,?_,h.dir,h.names⟩,rfl,rfl⟩;show (flush st.files (idx st s.1)).map (·.1)=_;rw[← h.files];unfold flush;obtain⟨f,o,C⟩:=h.file hi;rw[A,o];show (st.files.set i (f.1,f.1.length)).map (·.1)=_;rw[List.map_set];have:(st.files.map (·.1))[i]?=some f.1:=by rw[ZF,o];rfl
 obtain⟨D,E⟩:=List.getElem?_eq_some_iff.1 this;rw[← E];exact List.set_getElem_self D
theorem Rep.syncDir (h:Rep st segs):(syncDir st).2=0∧Rep (syncDir st).1 segs∧(syncDir st).1.room=st.room∧(syncDir st).1.changes=[]:=by
 have o:Fs.syncDir st=({ (step st).1 with sure:=st.dir,changes:=[] },0):=by
  unfold Fs.syncDir;rw[step_calm h.calm,if_neg (by simp)]
 rw[o,step_calm h.calm];exact⟨rfl,⟨⟨h.calm.1,h.calm.2⟩,h.files,h.dir,h.names⟩,rfl,rfl⟩
theorem Rep.how (h:Rep st segs):(step st).2.1≤9223372036854775807:=by rw[step_calm h.calm];show (0:Int)≤9223372036854775807;omega
end
end Fs
end Go.Proofs.YtmlekglfdiacpaaGreatDoor
