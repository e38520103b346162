/-
  The reader of documents: a field, walked, a selection set's walk being given.
-/
import Derived.Test.YtedeapbonbbacaaGreatDoorZr18
import Derived.Test.YtedeapbonbbacaaGreatDoorZr8
open Array renaming getInternal_eq_getElem → QD
open Bool renaming and_eq_true → ZB
open Go.Lib renaming hid → QA
open List renaming mem_singleton → QB, setIfInBounds_toArray → QC, drop_succ_cons → QE, take_succ_cons → QF, set_cons_succ → QG, set_cons_zero → QH, getElem_cons_zero → QI, getElem_cons_succ → QJ, getElem_toArray → QK, drop_zero → QL, take_zero → QN, length_map → QV
open Nat renaming le_refl → QM, le_trans → QQ, reduceAdd → QW
namespace Go.Proofs.YtedeapbonbbacaaGreatDoor
set_option maxRecDepth 100000
set_option maxHeartbeats 4000000
set_option linter.unusedSimpArgs false
set_option linter.unusedVariables false
open Go Go.RowKit
def Kd (b g n:Nat) (f:Rd.St→Rd.St×Qr.Sel) (s:Rd.St):Prop:=∀(s1:Rd.St) (w1:World),AL w1 b g s1→s1.rest.length≤n→s1.deep=s.deep→s.err=0→(s1.err≠0∨s1.rest.length<s.rest.length) →
 Calls Tryz.prog 46 #[.pointer (some ⟨b,0,none⟩)] w1 (JZ b g w1 7 ((Qr.selsOf f s1).2.map Qr.Sel.d) (Qr.selsOf f s1).1)
theorem G5 (b g n a:Nat) (hnb:n≤1600) (f:Rd.St→Rd.St×Qr.Sel) (s:Rd.St) (hS:Kd b g n f s) (w:World) (h:AL w b g s) (hn:s.rest.length≤n) (hd:0≤s.deep∧s.deep≤800000) :
  Calls Tryz.prog 94 #[.pointer (some ⟨b,0,none⟩),.agg #[.int .i64 0,.string ⟨#[]⟩,.string ⟨#[]⟩,.slice none 0 0,.slice none 0 0,.slice none 0 0,.int .i64 a]] w (Got b g w (Qr.fieldOf f (n+1) a s).2.d (Qr.fieldOf f (n+1) a s).1):=by
 have bn:=h.lt;have HS:=QA hS;have HN:=QA hn;obtain⟨d0,d1⟩:=hd;have bh:Hid (FJ w b g w.heap.size (w.heap.size+2) [(w.heap.size+1,Obj.cells #[.int .i64 0,.string ⟨#[]⟩,.string ⟨#[]⟩,.slice none 0 0,.slice none 0 0,.slice none 0 0,.int .i64 0] 34 (0,0))] 34 [.int 0,.str [],.str [],.seq 7 [],.seq 3 [],.seq 7 [],.int a] [.int .i64 0,.string ⟨#[]⟩,.string ⟨#[]⟩,.slice none 0 0,.slice none 0 0,.slice none 0 0,.int .i64 a] s ((w.alloc (.cells #[.int .i64 0,.string ⟨#[]⟩,.string ⟨#[]⟩,.slice none 0 0,.slice none 0 0,.slice none 0 0,.int .i64 a] 34)).alloc (.cells #[.int .i64 0,.string ⟨#[]⟩,.string ⟨#[]⟩,.slice none 0 0,.slice none 0 0,.slice none 0 0,.int .i64 0] 34))):=by
  have bi:Below w.heap.size w ((w.alloc (.cells #[.int .i64 0,.string ⟨#[]⟩,.string ⟨#[]⟩,.slice none 0 0,.slice none 0 0,.slice none 0 0,.int .i64 a] 34)).alloc (.cells #[.int .i64 0,.string ⟨#[]⟩,.string ⟨#[]⟩,.slice none 0 0,.slice none 0 0,.slice none 0 0,.int .i64 0] 34)):=((Below.refl _ _).alloc (QM _) _).alloc (by simp) _;refine QA ⟨h.below bi,λp hp=>?_,?_,But.of_below bi,bn.1,bn.2,λp hp=>?_,⟨QM _,by omega⟩,by simp,.cons (.int _) (.cons (.str []) (.cons (.str []) (.cons (.seq (cap:=0) .nil) (.cons (.seq (cap:=0) .nil) (.cons (.seq (cap:=0) .nil) (.cons (.int _) .nil))))))⟩
  ·rw[QB.1 hp];have:=AC (w.alloc (.cells #[.int .i64 0,.string ⟨#[]⟩,.string ⟨#[]⟩,.slice none 0 0,.slice none 0 0,.slice none 0 0,.int .i64 a] 34)) (.cells #[.int .i64 0,.string ⟨#[]⟩,.string ⟨#[]⟩,.slice none 0 0,.slice none 0 0,.slice none 0 0,.int .i64 0] 34);rw[show (w.alloc (.cells #[.int .i64 0,.string ⟨#[]⟩,.string ⟨#[]⟩,.slice none 0 0,.slice none 0 0,.slice none 0 0,.int .i64 a] 34)).heap.size=w.heap.size+1 by simp]at this;exact this
  ·rw[Lib.alloc_old _ _ _ (by simp)];exact AC _ _
  ·rw[QB.1 hp];simp only;omega
 clear h hS hn;go_enter Tryz.func94,Tryz.ntmps94;go_wp2_with fail;refine (Ac b g s _ bh.out.rd).mono ?_;rintro r w1 ⟨rfl,h1,f1⟩;obtain⟨V,a9⟩:∃x,x=(Rd.name s).1:=⟨_,rfl⟩
 obtain⟨F,ba⟩:∃x,x=(Rd.name s).2:=⟨_,rfl⟩
 rw[← a9]at h1;rw[← ba];have bg:=QA (bh.out.step h1 f1);have be:=QA a9;have a8:=QA ba;have bm:=QA ((bg.out.put 0 (.int 1) rfl).put 2 (.str F) rfl);clear h1 f1 a9 ba;obtain⟨y0,ao,y1,aa,y2,K⟩:=cf3 bg.out.b6 (.int .i64 0) (.string ⟨#[]⟩) (.string ⟨#[]⟩);go_wp2_with fail;refine (BC b g V Rd.colon _ bm.out.rd).mono ?_;rintro r w2 ⟨rfl,h2,f2⟩;have a2:=QA (bm.out.step h2 f2);obtain⟨B,hB⟩:∃B,B=Rd.isS V Rd.colon:=⟨_,rfl⟩
 have HB:=QA hB;rw[← hB];clear h2 f2 hB;clear y0 ao y1 aa y2 K;cases B
 ·have HT:Hid (Rd.take Rd.colon V=V):=by unfold Rd.take;rw[if_neg (by rw[← HB.out];simp)];exact QA rfl
  have HX:Hid (FJ w b g w.heap.size (w.heap.size+2) [(w.heap.size+1,Obj.cells #[.int .i64 0,.string ⟨#[]⟩,.string ⟨#[]⟩,.slice none 0 0,.slice none 0 0,.slice none 0 0,.int .i64 0] 34 (0,0))] 34 [.int 1,.str ([]:List UInt8),.str F,.seq 7 [],.seq 3 [],.seq 7 [],.int a] [.int .i64 1,.string ⟨([]:List UInt8).toArray⟩,.string ⟨F.toArray⟩,.slice none 0 0,.slice none 0 0,.slice none 0 0,.int .i64 a] V (w2)):=by rw[HT.out]at a2;exact a2
  have J:Hid (Qr.aliasOf s=(V,(([]:List UInt8),F))):=by unfold Qr.aliasOf;rw[← be.out,← a8.out,if_neg (by rw[← HB.out];simp)];exact QA rfl
  have N:Hid (Rd.Ok s V):=by have:=Qr.ok_aliasOf s;rw[J.out]at this;exact QA this
  have P:Hid (V.deep=s.deep):=by have:=Qr.aliasOf_deep s;rw[J.out]at this;exact QA this
  have aR:Hid (s.err=0→V.err≠0∨V.rest.length<s.rest.length):=by have:=@Qr.aliasOf_goes s;rw[J.out]at this;exact QA this
  go_wp2_with fail;refine (Cd b g false n hnb V _ HX.out.rd (QQ N.out.len HN.out) (by rw[P.out];omega)).mono ?_;rintro r w4 ⟨a4,k4,rfl,hrd,h4,f4⟩;obtain⟨q,hq⟩:∃x,x=Rd.args false (n+1) V:=⟨_,rfl⟩
  rw[← hq]at hrd h4 ⊢;have HQ:=QA hq;have D:=HX.out.data hrd;obtain⟨O,af⟩:∃x,x=q.2.length:=⟨_,rfl⟩
  rw[QV,← af]at D ⊢;have ak:=QA (HX.out.step h4 f4);have X:Hid (FJ w b g w.heap.size (w.heap.size+2) [(w.heap.size+1,Obj.cells #[.int .i64 0,.string ⟨#[]⟩,.string ⟨#[]⟩,.slice none 0 0,.slice none 0 0,.slice none 0 0,.int .i64 0] 34 (0,0))] 34 [.int 1,.str ([]:List UInt8),.str F,.seq 7 (q.2.map Rd.A.d),.seq 3 [],.seq 7 [],.int a] [.int .i64 1,.string ⟨([]:List UInt8).toArray⟩,.string ⟨F.toArray⟩,.slice a4 O k4,.slice none 0 0,.slice none 0 0,.int .i64 a] q.1 (w4.setCell ⟨w.heap.size,3,none⟩ (.slice a4 O k4))):=QA (ak.out.put 3 D rfl);have L:Hid (Rd.Ok s q.1):=by rw[HQ.out];exact QA (N.out.trans (Rd.ok_args false (n+1) _))
  have S:Hid (Rd.Ok V q.1):=by rw[HQ.out];exact QA (Rd.ok_args false (n+1) _)
  have R:Hid (q.1.deep=s.deep):=by rw[HQ.out,Rd.args_deep,P.out];exact QA rfl
  clear hrd h4 f4 hq D af;obtain⟨y3,W⟩:=cf1 ak.out.b6 3 (.slice none 0 0);go_wp2_with fail;refine (Aq b g n hnb q.1 _ X.out.rd (QQ L.out.len HN.out) (by rw[R.out];omega)).mono ?_;rintro r w5 ⟨a5,k5,rfl,hrd,h5,f5⟩;obtain⟨e,he⟩:∃x,x=Qr.dirs (n+1) q.1:=⟨_,rfl⟩
  rw[← he]at hrd h5 ⊢;have HE:=QA he;have D:=X.out.data hrd;obtain⟨H,ad⟩:∃x,x=e.2.length:=⟨_,rfl⟩
  rw[QV,← ad]at D ⊢;have ah:=QA (X.out.step h5 f5);have ag:Hid (FJ w b g w.heap.size (w.heap.size+2) [(w.heap.size+1,Obj.cells #[.int .i64 0,.string ⟨#[]⟩,.string ⟨#[]⟩,.slice none 0 0,.slice none 0 0,.slice none 0 0,.int .i64 0] 34 (0,0))] 34 [.int 1,.str ([]:List UInt8),.str F,.seq 7 (q.2.map Rd.A.d),.seq 3 (e.2.map Qr.Dir.d),.seq 7 [],.int a] [.int .i64 1,.string ⟨([]:List UInt8).toArray⟩,.string ⟨F.toArray⟩,.slice a4 O k4,.slice a5 H k5,.slice none 0 0,.int .i64 a] e.1 (w5.setCell ⟨w.heap.size,4,none⟩ (.slice a5 H k5))):=QA (ah.out.put 4 D rfl);have Q:Hid (Rd.Ok s e.1):=by rw[HE.out];exact QA (L.out.trans (Qr.ok_dirs (n+1) _))
  have I:Hid (Rd.Ok V e.1):=by rw[HE.out];exact QA (S.out.trans (Qr.ok_dirs (n+1) _))
  have al:Hid (e.1.deep=s.deep):=by rw[HE.out,Qr.dirs_deep,R.out];exact QA rfl
  clear hrd h5 f5 he D ad y3 W;obtain⟨y4,Y⟩:=cf1 ah.out.b6 4 (.slice none 0 0);have ac:Hid (Below (w5.setCell ⟨w.heap.size,4,none⟩ (.slice a5 H k5)).heap.size (w5.setCell ⟨w.heap.size,4,none⟩ (.slice a5 H k5)) ((w5.setCell ⟨w.heap.size,4,none⟩ (.slice a5 H k5)).alloc (.cells #[.string ⟨#[123]⟩] 9))):=QA ((Below.refl _ _).alloc (QM _) _);have aX:Hid (BB ((w5.setCell ⟨w.heap.size,4,none⟩ (.slice a5 H k5)).alloc (.cells #[.string ⟨#[123]⟩] 9)) (.slice (some ⟨w5.heap.size,0,none⟩) 1 1) [Rd.lbrc]):=by
   have h1:=Ap (w5.setCell ⟨w.heap.size,4,none⟩ (.slice a5 H k5)) Rd.lbrc ⟨#[123]⟩ 9 rfl;rw[AP]at h1;exact QA h1
  go_wp2_with fail;refine (Bn b g e.1 _ [Rd.lbrc] _ ((ag.out.below ac.out).rd) aX.out (by simp)).mono ?_;rintro r w6 ⟨rfl,hb6⟩;rw[show ([Rd.lbrc].any (Rd.isS e.1))=Rd.isS e.1 Rd.lbrc by simp];have G:=QA ((ag.out.below ac.out).below hb6);obtain⟨C,hC⟩:∃C,C=Rd.isS e.1 Rd.lbrc:=⟨_,rfl⟩
  have HC:=QA hC;rw[← hC];clear hC hb6 y4 Y;cases C
  ·have HZ:Hid (Qr.setIf f e.1=(e.1,[])):=by unfold Qr.setIf;rw[if_neg (by rw[← HC.out];simp)];exact QA rfl
   have n1:¬w.heap.size=w.heap.size+1:=by omega
   have n2:¬w.heap.size+1=w.heap.size:=by omega
   have HR:Hid (Qr.fieldOf f (n+1) a s=(e.1,(.mk 1 ([]:List UInt8) F q.2 e.2 [] a))):=by
    refine QA ?_;unfold Qr.fieldOf
    dsimp only
    rw[J.out,← HQ.out,← HE.out,HZ.out]
   obtain⟨y0,ao,y1,aa,y2,K,y3,W,y4,Y,y5,aS,y6,aZ⟩:=cf7 G.out.b6 (.int .i64 1) (.string ⟨([]:List UInt8).toArray⟩) (.string ⟨F.toArray⟩) (.slice a4 O k4) (.slice a5 H k5) (.slice none 0 0) (.int .i64 a);obtain⟨z0,aI,z1,aM,z2,aK,z3,aU,z4,aL,z5,aA,z6,aN⟩:=cf7 (G.out.cb _ (QB.2 rfl)) (.int .i64 0) (.string ⟨#[]⟩) (.string ⟨#[]⟩) (.slice none 0 0) (.slice none 0 0) (.slice none 0 0) (.int .i64 0);have E:=G.out.fin (r:=w.heap.size+1) (QB.2 rfl);simp only[putCells,QW,Nat.zero_add]at E;have T:=QA E;clear E;go_wp2_with fail;refine bodyPost_ret (v:=.agg #[.int .i64 1,.string ⟨([]:List UInt8).toArray⟩,.string ⟨F.toArray⟩,.slice a4 O k4,.slice a5 H k5,.slice none 0 0,.int .i64 a]) (by simp[results,Tryz.results94,go_sem,z0,z1,z2,z3,z4,z5,z6,n1,n2]) rfl ?_;rw[HR.out];unfold Qr.Sel.d;rw[Qr.Sel.dl_map];exact⟨_,rfl,T.out⟩
  ·have HZ:Hid (Qr.setIf f e.1=Qr.selsOf f e.1):=by unfold Qr.setIf;rw[if_pos HC.out.symm];exact QA rfl
   have aP:Hid (e.1.err=0):=QA (by have:=HC.out.symm;unfold Rd.isS at this;simp only[ZB,decide_eq_true_eq]at this;exact this.1.1);have ai:Hid (s.err=0):=by
    refine QA ?_;by_cases h0:s.err=0
    ·exact h0
    ·have:=Q.out.err h0;have h2:=aP.out;rw[this]at h2;exact absurd h2 h0
   go_wp2_with fail;refine (HS.out e.1 w6 G.out.rd (QQ Q.out.len HN.out) al.out ai.out ?_).mono ?_
   ·rcases aR.out ai.out with hx|hx
    ·left;rw[I.out.err hx];exact hx
    ·right;exact Nat.lt_of_le_of_lt I.out.len hx
   rintro r w7 ⟨a6,k6,rfl,hrd,h7,f7⟩;obtain⟨z,hz⟩:∃x,x=Qr.selsOf f e.1:=⟨_,rfl⟩
   rw[← hz]at hrd h7 HZ ⊢;have D:=G.out.data hrd;obtain⟨l6,aj⟩:∃x,x=z.2.length:=⟨_,rfl⟩
   rw[QV,← aj]at D ⊢;have Z:=QA (G.out.step h7 f7);have aD:Hid (FJ w b g w.heap.size (w.heap.size+2) [(w.heap.size+1,Obj.cells #[.int .i64 0,.string ⟨#[]⟩,.string ⟨#[]⟩,.slice none 0 0,.slice none 0 0,.slice none 0 0,.int .i64 0] 34 (0,0))] 34 [.int 1,.str ([]:List UInt8),.str F,.seq 7 (q.2.map Rd.A.d),.seq 3 (e.2.map Qr.Dir.d),.seq 7 (z.2.map Qr.Sel.d),.int a] [.int .i64 1,.string ⟨([]:List UInt8).toArray⟩,.string ⟨F.toArray⟩,.slice a4 O k4,.slice a5 H k5,.slice a6 l6 k6,.int .i64 a] z.1 (w7.setCell ⟨w.heap.size,5,none⟩ (.slice a6 l6 k6))):=QA (Z.out.put 5 D rfl);clear hrd h7 f7 hz D aj;have n1:¬w.heap.size=w.heap.size+1:=by omega
   have n2:¬w.heap.size+1=w.heap.size:=by omega
   have HR:Hid (Qr.fieldOf f (n+1) a s=(z.1,(.mk 1 ([]:List UInt8) F q.2 e.2 z.2 a))):=by
    refine QA ?_;unfold Qr.fieldOf
    dsimp only
    rw[J.out,← HQ.out,← HE.out,HZ.out]
   obtain⟨y0,ao,y1,aa,y2,K,y3,W,y4,Y,y5,aS,y6,aZ⟩:=cf7 Z.out.b6 (.int .i64 1) (.string ⟨([]:List UInt8).toArray⟩) (.string ⟨F.toArray⟩) (.slice a4 O k4) (.slice a5 H k5) (.slice none 0 0) (.int .i64 a);obtain⟨z0,aI,z1,aM,z2,aK,z3,aU,z4,aL,z5,aA,z6,aN⟩:=cf7 (Z.out.cb _ (QB.2 rfl)) (.int .i64 0) (.string ⟨#[]⟩) (.string ⟨#[]⟩) (.slice none 0 0) (.slice none 0 0) (.slice none 0 0) (.int .i64 0);have E:=aD.out.fin (r:=w.heap.size+1) (QB.2 rfl);simp only[putCells,QW,Nat.zero_add]at E;have T:=QA E;clear E;go_wp2_with fail;refine bodyPost_ret (v:=.agg #[.int .i64 1,.string ⟨([]:List UInt8).toArray⟩,.string ⟨F.toArray⟩,.slice a4 O k4,.slice a5 H k5,.slice a6 l6 k6,.int .i64 a]) (by simp[results,Tryz.results94,go_sem,z0,z1,z2,z3,z4,z5,z6,n1,n2]) rfl ?_;rw[HR.out];unfold Qr.Sel.d;rw[Qr.Sel.dl_map];exact⟨_,rfl,T.out⟩
 ·have HT:Hid (Rd.take Rd.colon V=Rd.next V):=by unfold Rd.take;rw[if_pos HB.out.symm];exact QA rfl
  have bf:Hid (FJ w b g w.heap.size (w.heap.size+2) [(w.heap.size+1,Obj.cells #[.int .i64 0,.string ⟨#[]⟩,.string ⟨#[]⟩,.slice none 0 0,.slice none 0 0,.slice none 0 0,.int .i64 0] 34 (0,0))] 34 [.int 1,.str [],.str F,.seq 7 [],.seq 3 [],.seq 7 [],.int a] [.int .i64 1,.string ⟨#[]⟩,.string ⟨F.toArray⟩,.slice none 0 0,.slice none 0 0,.slice none 0 0,.int .i64 a] (Rd.next V) (w2)):=by rw[HT.out]at a2;exact a2
  have y2:=AA bf.out.b6 2 (.string ⟨F.toArray⟩) rfl;go_wp2_with fail;refine AH (λ_=>True) 10 (by kernel_rfl) ?_;have aq:=QA (bf.out.below ((Below.refl _ _).drew));refine TK (i:=0) (v:=(.pointer (some ⟨w.heap.size,2,none⟩))) rfl (Or.inl ⟨by rfl,λw hSw=>by go_simp⟩) trivial ?_;simp only[Act.put,QD,QK,QI,QJ,QC,QH,QG];refine TK (i:=2) (v:=(.pointer (some ⟨b,0,none⟩))) rfl (Or.inl ⟨by rfl,λw hSw=>by go_simp⟩) trivial ?_;simp only[Act.put,QD,QK,QI,QJ,QC,QH,QG];refine TK (i:=3) (v:=(.pointer (some ⟨b,0,none⟩))) rfl (Or.inl ⟨by rfl,λw hSw=>by go_simp⟩) trivial ?_;simp only[Act.put,QD,QK,QI,QJ,QC,QH,QG];refine TK (i:=4) (v:=(.pointer (some ⟨b,0,none⟩))) rfl (Or.inl ⟨by rfl,λw hSw=>by go_simp⟩) trivial ?_;simp only[Act.put,QD,QK,QI,QJ,QC,QH,QG];refine AR (i:=1) (k:=5) (by kernel_rfl) ?_ ?_
  ·refine AB (by decide) (λK1 HK1=>?_);simp only[QE,QL,QF,QN];go_wp2_with fail;refine HK1.out _ _ ⟨λ_=>trivial,?_⟩;clear HK1;refine TK (i:=6) (v:=(.pointer (some ⟨w.heap.size,1,none⟩))) rfl (Or.inl ⟨by rfl,λw hSw=>by go_simp⟩) trivial ?_;simp only[Act.put,QD,QK,QI,QJ,QC,QH,QG];refine TO (i:=5) ?_;clear y2;refine AB (by decide) (λK5 HK5=>?_);simp only[QE,QL,QF,QN];go_wp2_with fail;refine (Ac b g (Rd.next V) _ aq.out.rd).mono ?_;rintro r w3 ⟨rfl,h3,f3⟩;obtain⟨s3,ap⟩:∃x,x=(Rd.name (Rd.next V)).1:=⟨_,rfl⟩
   obtain⟨o,U⟩:∃x,x=(Rd.name (Rd.next V)).2:=⟨_,rfl⟩
   rw[← ap]at h3;rw[← U];have M:=QA (aq.out.step h3 f3);have bd:=QA ap;have aY:=QA U;clear h3 f3 ap U;go_wp2_with fail;refine HK5.out _ _ ⟨λ_=>trivial,?_⟩;clear HK5;refine TO (i:=7) ?_;refine AB (by decide) (λK7 HK7=>?_);simp only[QE,QL,QF,QN];obtain⟨y1,aa⟩:=cf1 M.out.b6 1 (.string ⟨#[]⟩);obtain⟨y2,K⟩:=cf1 M.out.b6 2 (.string ⟨F.toArray⟩);go_wp2_with fail;refine HK7.out _ _ ⟨λ_=>trivial,?_⟩;clear HK7;refine TK (i:=8) (v:=(.pointer (some ⟨w.heap.size,2,none⟩))) rfl (Or.inl ⟨by rfl,λw hSw=>by go_simp⟩) trivial ?_;simp only[Act.put,QD,QK,QI,QJ,QC,QH,QG];refine TO (i:=9) ?_;refine AB (by decide) (λK9 HK9=>?_);simp only[QE,QL,QF,QN];go_wp2_with fail;refine HK9.out _ _ ⟨λ_=>trivial,?_⟩;clear HK9;refine AF (by kernel_rfl) ?_ _;have bc:=QA ((M.out.put 1 (.str F) rfl).put 2 (.str o) rfl);clear y1 aa y2 K;have HX:Hid (FJ w b g w.heap.size (w.heap.size+2) [(w.heap.size+1,Obj.cells #[.int .i64 0,.string ⟨#[]⟩,.string ⟨#[]⟩,.slice none 0 0,.slice none 0 0,.slice none 0 0,.int .i64 0] 34 (0,0))] 34 [.int 1,.str F,.str o,.seq 7 [],.seq 3 [],.seq 7 [],.int a] [.int .i64 1,.string ⟨F.toArray⟩,.string ⟨o.toArray⟩,.slice none 0 0,.slice none 0 0,.slice none 0 0,.int .i64 a] s3 ((w3.setCell ⟨w.heap.size,1,none⟩ (.string ⟨F.toArray⟩)).setCell ⟨w.heap.size,2,none⟩ (.string ⟨o.toArray⟩))):=bc;have J:Hid (Qr.aliasOf s=(s3,(F,o))):=by unfold Qr.aliasOf;rw[← be.out,← a8.out,if_pos HB.out.symm,← bd.out,← aY.out];exact QA rfl
   have N:Hid (Rd.Ok s s3):=by have:=Qr.ok_aliasOf s;rw[J.out]at this;exact QA this
   have P:Hid (s3.deep=s.deep):=by have:=Qr.aliasOf_deep s;rw[J.out]at this;exact QA this
   have aR:Hid (s.err=0→s3.err≠0∨s3.rest.length<s.rest.length):=by have:=@Qr.aliasOf_goes s;rw[J.out]at this;exact QA this
   go_wp2_with fail;refine (Cd b g false n hnb s3 _ HX.out.rd (QQ N.out.len HN.out) (by rw[P.out];omega)).mono ?_;rintro r w4 ⟨a4,k4,rfl,hrd,h4,f4⟩;obtain⟨q,hq⟩:∃x,x=Rd.args false (n+1) s3:=⟨_,rfl⟩
   rw[← hq]at hrd h4 ⊢;have HQ:=QA hq;have D:=HX.out.data hrd;obtain⟨O,af⟩:∃x,x=q.2.length:=⟨_,rfl⟩
   rw[QV,← af]at D ⊢;have ak:=QA (HX.out.step h4 f4);have X:Hid (FJ w b g w.heap.size (w.heap.size+2) [(w.heap.size+1,Obj.cells #[.int .i64 0,.string ⟨#[]⟩,.string ⟨#[]⟩,.slice none 0 0,.slice none 0 0,.slice none 0 0,.int .i64 0] 34 (0,0))] 34 [.int 1,.str F,.str o,.seq 7 (q.2.map Rd.A.d),.seq 3 [],.seq 7 [],.int a] [.int .i64 1,.string ⟨F.toArray⟩,.string ⟨o.toArray⟩,.slice a4 O k4,.slice none 0 0,.slice none 0 0,.int .i64 a] q.1 (w4.setCell ⟨w.heap.size,3,none⟩ (.slice a4 O k4))):=QA (ak.out.put 3 D rfl);have L:Hid (Rd.Ok s q.1):=by rw[HQ.out];exact QA (N.out.trans (Rd.ok_args false (n+1) _))
   have S:Hid (Rd.Ok s3 q.1):=by rw[HQ.out];exact QA (Rd.ok_args false (n+1) _)
   have R:Hid (q.1.deep=s.deep):=by rw[HQ.out,Rd.args_deep,P.out];exact QA rfl
   clear hrd h4 f4 hq D af;obtain⟨y3,W⟩:=cf1 ak.out.b6 3 (.slice none 0 0);go_wp2_with fail;refine (Aq b g n hnb q.1 _ X.out.rd (QQ L.out.len HN.out) (by rw[R.out];omega)).mono ?_;rintro r w5 ⟨a5,k5,rfl,hrd,h5,f5⟩;obtain⟨e,he⟩:∃x,x=Qr.dirs (n+1) q.1:=⟨_,rfl⟩
   rw[← he]at hrd h5 ⊢;have HE:=QA he;have D:=X.out.data hrd;obtain⟨H,ad⟩:∃x,x=e.2.length:=⟨_,rfl⟩
   rw[QV,← ad]at D ⊢;have ah:=QA (X.out.step h5 f5);have ag:Hid (FJ w b g w.heap.size (w.heap.size+2) [(w.heap.size+1,Obj.cells #[.int .i64 0,.string ⟨#[]⟩,.string ⟨#[]⟩,.slice none 0 0,.slice none 0 0,.slice none 0 0,.int .i64 0] 34 (0,0))] 34 [.int 1,.str F,.str o,.seq 7 (q.2.map Rd.A.d),.seq 3 (e.2.map Qr.Dir.d),.seq 7 [],.int a] [.int .i64 1,.string ⟨F.toArray⟩,.string ⟨o.toArray⟩,.slice a4 O k4,.slice a5 H k5,.slice none 0 0,.int .i64 a] e.1 (w5.setCell ⟨w.heap.size,4,none⟩ (.slice a5 H k5))):=QA (ah.out.put 4 D rfl);have Q:Hid (Rd.Ok s e.1):=by rw[HE.out];exact QA (L.out.trans (Qr.ok_dirs (n+1) _))
   have I:Hid (Rd.Ok s3 e.1):=by rw[HE.out];exact QA (S.out.trans (Qr.ok_dirs (n+1) _))
   have al:Hid (e.1.deep=s.deep):=by rw[HE.out,Qr.dirs_deep,R.out];exact QA rfl
   clear hrd h5 f5 he D ad y3 W;obtain⟨y4,Y⟩:=cf1 ah.out.b6 4 (.slice none 0 0);have ac:Hid (Below (w5.setCell ⟨w.heap.size,4,none⟩ (.slice a5 H k5)).heap.size (w5.setCell ⟨w.heap.size,4,none⟩ (.slice a5 H k5)) ((w5.setCell ⟨w.heap.size,4,none⟩ (.slice a5 H k5)).alloc (.cells #[.string ⟨#[123]⟩] 9))):=QA ((Below.refl _ _).alloc (QM _) _);have aX:Hid (BB ((w5.setCell ⟨w.heap.size,4,none⟩ (.slice a5 H k5)).alloc (.cells #[.string ⟨#[123]⟩] 9)) (.slice (some ⟨w5.heap.size,0,none⟩) 1 1) [Rd.lbrc]):=by
    have h1:=Ap (w5.setCell ⟨w.heap.size,4,none⟩ (.slice a5 H k5)) Rd.lbrc ⟨#[123]⟩ 9 rfl;rw[AP]at h1;exact QA h1
   go_wp2_with fail;refine (Bn b g e.1 _ [Rd.lbrc] _ ((ag.out.below ac.out).rd) aX.out (by simp)).mono ?_;rintro r w6 ⟨rfl,hb6⟩;rw[show ([Rd.lbrc].any (Rd.isS e.1))=Rd.isS e.1 Rd.lbrc by simp];have G:=QA ((ag.out.below ac.out).below hb6);obtain⟨C,hC⟩:∃C,C=Rd.isS e.1 Rd.lbrc:=⟨_,rfl⟩
   have HC:=QA hC;rw[← hC];clear hC hb6 y4 Y;cases C
   ·have HZ:Hid (Qr.setIf f e.1=(e.1,[])):=by unfold Qr.setIf;rw[if_neg (by rw[← HC.out];simp)];exact QA rfl
    have n1:¬w.heap.size=w.heap.size+1:=by omega
    have n2:¬w.heap.size+1=w.heap.size:=by omega
    have HR:Hid (Qr.fieldOf f (n+1) a s=(e.1,(.mk 1 F o q.2 e.2 [] a))):=by
     refine QA ?_;unfold Qr.fieldOf
     dsimp only
     rw[J.out,← HQ.out,← HE.out,HZ.out]
    obtain⟨y0,ao,y1,aa,y2,K,y3,W,y4,Y,y5,aS,y6,aZ⟩:=cf7 G.out.b6 (.int .i64 1) (.string ⟨F.toArray⟩) (.string ⟨o.toArray⟩) (.slice a4 O k4) (.slice a5 H k5) (.slice none 0 0) (.int .i64 a);obtain⟨z0,aI,z1,aM,z2,aK,z3,aU,z4,aL,z5,aA,z6,aN⟩:=cf7 (G.out.cb _ (QB.2 rfl)) (.int .i64 0) (.string ⟨#[]⟩) (.string ⟨#[]⟩) (.slice none 0 0) (.slice none 0 0) (.slice none 0 0) (.int .i64 0);have E:=G.out.fin (r:=w.heap.size+1) (QB.2 rfl);simp only[putCells,QW,Nat.zero_add]at E;have T:=QA E;clear E;go_wp2_with fail;refine bodyPost_ret (v:=.agg #[.int .i64 1,.string ⟨F.toArray⟩,.string ⟨o.toArray⟩,.slice a4 O k4,.slice a5 H k5,.slice none 0 0,.int .i64 a]) (by simp[results,Tryz.results94,go_sem,z0,z1,z2,z3,z4,z5,z6,n1,n2]) rfl ?_;rw[HR.out];unfold Qr.Sel.d;rw[Qr.Sel.dl_map];exact⟨_,rfl,T.out⟩
   ·have HZ:Hid (Qr.setIf f e.1=Qr.selsOf f e.1):=by unfold Qr.setIf;rw[if_pos HC.out.symm];exact QA rfl
    have aP:Hid (e.1.err=0):=QA (by have:=HC.out.symm;unfold Rd.isS at this;simp only[ZB,decide_eq_true_eq]at this;exact this.1.1);have ai:Hid (s.err=0):=by
     refine QA ?_;by_cases h0:s.err=0
     ·exact h0
     ·have:=Q.out.err h0;have h2:=aP.out;rw[this]at h2;exact absurd h2 h0
    go_wp2_with fail;refine (HS.out e.1 w6 G.out.rd (QQ Q.out.len HN.out) al.out ai.out ?_).mono ?_
    ·rcases aR.out ai.out with hx|hx
     ·left;rw[I.out.err hx];exact hx
     ·right;exact Nat.lt_of_le_of_lt I.out.len hx
    rintro r w7 ⟨a6,k6,rfl,hrd,h7,f7⟩;obtain⟨z,hz⟩:∃x,x=Qr.selsOf f e.1:=⟨_,rfl⟩
    rw[← hz]at hrd h7 HZ ⊢;have D:=G.out.data hrd;obtain⟨l6,aj⟩:∃x,x=z.2.length:=⟨_,rfl⟩
    rw[QV,← aj]at D ⊢;have Z:=QA (G.out.step h7 f7);have aD:Hid (FJ w b g w.heap.size (w.heap.size+2) [(w.heap.size+1,Obj.cells #[.int .i64 0,.string ⟨#[]⟩,.string ⟨#[]⟩,.slice none 0 0,.slice none 0 0,.slice none 0 0,.int .i64 0] 34 (0,0))] 34 [.int 1,.str F,.str o,.seq 7 (q.2.map Rd.A.d),.seq 3 (e.2.map Qr.Dir.d),.seq 7 (z.2.map Qr.Sel.d),.int a] [.int .i64 1,.string ⟨F.toArray⟩,.string ⟨o.toArray⟩,.slice a4 O k4,.slice a5 H k5,.slice a6 l6 k6,.int .i64 a] z.1 (w7.setCell ⟨w.heap.size,5,none⟩ (.slice a6 l6 k6))):=QA (Z.out.put 5 D rfl);clear hrd h7 f7 hz D aj;have n1:¬w.heap.size=w.heap.size+1:=by omega
    have n2:¬w.heap.size+1=w.heap.size:=by omega
    have HR:Hid (Qr.fieldOf f (n+1) a s=(z.1,(.mk 1 F o q.2 e.2 z.2 a))):=by
     refine QA ?_;unfold Qr.fieldOf
     dsimp only
     rw[J.out,← HQ.out,← HE.out,HZ.out]
    obtain⟨y0,ao,y1,aa,y2,K,y3,W,y4,Y,y5,aS,y6,aZ⟩:=cf7 Z.out.b6 (.int .i64 1) (.string ⟨F.toArray⟩) (.string ⟨o.toArray⟩) (.slice a4 O k4) (.slice a5 H k5) (.slice none 0 0) (.int .i64 a);obtain⟨z0,aI,z1,aM,z2,aK,z3,aU,z4,aL,z5,aA,z6,aN⟩:=cf7 (Z.out.cb _ (QB.2 rfl)) (.int .i64 0) (.string ⟨#[]⟩) (.string ⟨#[]⟩) (.slice none 0 0) (.slice none 0 0) (.slice none 0 0) (.int .i64 0);have E:=aD.out.fin (r:=w.heap.size+1) (QB.2 rfl);simp only[putCells,QW,Nat.zero_add]at E;have T:=QA E;clear E;go_wp2_with fail;refine bodyPost_ret (v:=.agg #[.int .i64 1,.string ⟨F.toArray⟩,.string ⟨o.toArray⟩,.slice a4 O k4,.slice a5 H k5,.slice a6 l6 k6,.int .i64 a]) (by simp[results,Tryz.results94,go_sem,z0,z1,z2,z3,z4,z5,z6,n1,n2]) rfl ?_;rw[HR.out];unfold Qr.Sel.d;rw[Qr.Sel.dl_map];exact⟨_,rfl,T.out⟩
  ·clear y2;refine AB (by decide) (λK5 HK5=>?_);simp only[QE,QL,QF,QN];go_wp2_with fail;refine (Ac b g (Rd.next V) _ aq.out.rd).mono ?_;rintro r w3 ⟨rfl,h3,f3⟩;obtain⟨s3,ap⟩:∃x,x=(Rd.name (Rd.next V)).1:=⟨_,rfl⟩
   obtain⟨o,U⟩:∃x,x=(Rd.name (Rd.next V)).2:=⟨_,rfl⟩
   rw[← ap]at h3;rw[← U];have M:=QA (aq.out.step h3 f3);have bd:=QA ap;have aY:=QA U;clear h3 f3 ap U;go_wp2_with fail;refine HK5.out _ _ ⟨λ_=>trivial,?_⟩;clear HK5;refine TO (i:=1) ?_;refine AB (by decide) (λK1 HK1=>?_);simp only[QE,QL,QF,QN];obtain⟨y2,K⟩:=cf1 M.out.b6 2 (.string ⟨F.toArray⟩);go_wp2_with fail;refine HK1.out _ _ ⟨λ_=>trivial,?_⟩;clear HK1;clear y2 K;refine TK (i:=6) (v:=(.pointer (some ⟨w.heap.size,1,none⟩))) rfl (Or.inl ⟨by rfl,λw hSw=>by go_simp⟩) trivial ?_;simp only[Act.put,QD,QK,QI,QJ,QC,QH,QG];refine TO (i:=7) ?_;refine AB (by decide) (λK7 HK7=>?_);simp only[QE,QL,QF,QN];obtain⟨y1,aa⟩:=cf1 M.out.b6 1 (.string ⟨#[]⟩);obtain⟨y2,K⟩:=cf1 M.out.b6 2 (.string ⟨F.toArray⟩);go_wp2_with fail;refine HK7.out _ _ ⟨λ_=>trivial,?_⟩;clear HK7;refine TK (i:=8) (v:=(.pointer (some ⟨w.heap.size,2,none⟩))) rfl (Or.inl ⟨by rfl,λw hSw=>by go_simp⟩) trivial ?_;simp only[Act.put,QD,QK,QI,QJ,QC,QH,QG];refine TO (i:=9) ?_;refine AB (by decide) (λK9 HK9=>?_);simp only[QE,QL,QF,QN];go_wp2_with fail;refine HK9.out _ _ ⟨λ_=>trivial,?_⟩;clear HK9;refine AF (by kernel_rfl) ?_ _;have bc:=QA ((M.out.put 1 (.str F) rfl).put 2 (.str o) rfl);clear y1 aa y2 K;have HX:Hid (FJ w b g w.heap.size (w.heap.size+2) [(w.heap.size+1,Obj.cells #[.int .i64 0,.string ⟨#[]⟩,.string ⟨#[]⟩,.slice none 0 0,.slice none 0 0,.slice none 0 0,.int .i64 0] 34 (0,0))] 34 [.int 1,.str F,.str o,.seq 7 [],.seq 3 [],.seq 7 [],.int a] [.int .i64 1,.string ⟨F.toArray⟩,.string ⟨o.toArray⟩,.slice none 0 0,.slice none 0 0,.slice none 0 0,.int .i64 a] s3 ((w3.setCell ⟨w.heap.size,1,none⟩ (.string ⟨F.toArray⟩)).setCell ⟨w.heap.size,2,none⟩ (.string ⟨o.toArray⟩))):=bc;have J:Hid (Qr.aliasOf s=(s3,(F,o))):=by unfold Qr.aliasOf;rw[← be.out,← a8.out,if_pos HB.out.symm,← bd.out,← aY.out];exact QA rfl
   have N:Hid (Rd.Ok s s3):=by have:=Qr.ok_aliasOf s;rw[J.out]at this;exact QA this
   have P:Hid (s3.deep=s.deep):=by have:=Qr.aliasOf_deep s;rw[J.out]at this;exact QA this
   have aR:Hid (s.err=0→s3.err≠0∨s3.rest.length<s.rest.length):=by have:=@Qr.aliasOf_goes s;rw[J.out]at this;exact QA this
   go_wp2_with fail;refine (Cd b g false n hnb s3 _ HX.out.rd (QQ N.out.len HN.out) (by rw[P.out];omega)).mono ?_;rintro r w4 ⟨a4,k4,rfl,hrd,h4,f4⟩;obtain⟨q,hq⟩:∃x,x=Rd.args false (n+1) s3:=⟨_,rfl⟩
   rw[← hq]at hrd h4 ⊢;have HQ:=QA hq;have D:=HX.out.data hrd;obtain⟨O,af⟩:∃x,x=q.2.length:=⟨_,rfl⟩
   rw[QV,← af]at D ⊢;have ak:=QA (HX.out.step h4 f4);have X:Hid (FJ w b g w.heap.size (w.heap.size+2) [(w.heap.size+1,Obj.cells #[.int .i64 0,.string ⟨#[]⟩,.string ⟨#[]⟩,.slice none 0 0,.slice none 0 0,.slice none 0 0,.int .i64 0] 34 (0,0))] 34 [.int 1,.str F,.str o,.seq 7 (q.2.map Rd.A.d),.seq 3 [],.seq 7 [],.int a] [.int .i64 1,.string ⟨F.toArray⟩,.string ⟨o.toArray⟩,.slice a4 O k4,.slice none 0 0,.slice none 0 0,.int .i64 a] q.1 (w4.setCell ⟨w.heap.size,3,none⟩ (.slice a4 O k4))):=QA (ak.out.put 3 D rfl);have L:Hid (Rd.Ok s q.1):=by rw[HQ.out];exact QA (N.out.trans (Rd.ok_args false (n+1) _))
   have S:Hid (Rd.Ok s3 q.1):=by rw[HQ.out];exact QA (Rd.ok_args false (n+1) _)
   have R:Hid (q.1.deep=s.deep):=by rw[HQ.out,Rd.args_deep,P.out];exact QA rfl
   clear hrd h4 f4 hq D af;obtain⟨y3,W⟩:=cf1 ak.out.b6 3 (.slice none 0 0);go_wp2_with fail;refine (Aq b g n hnb q.1 _ X.out.rd (QQ L.out.len HN.out) (by rw[R.out];omega)).mono ?_;rintro r w5 ⟨a5,k5,rfl,hrd,h5,f5⟩;obtain⟨e,he⟩:∃x,x=Qr.dirs (n+1) q.1:=⟨_,rfl⟩
   rw[← he]at hrd h5 ⊢;have HE:=QA he;have D:=X.out.data hrd;obtain⟨H,ad⟩:∃x,x=e.2.length:=⟨_,rfl⟩
   rw[QV,← ad]at D ⊢;have ah:=QA (X.out.step h5 f5);have ag:Hid (FJ w b g w.heap.size (w.heap.size+2) [(w.heap.size+1,Obj.cells #[.int .i64 0,.string ⟨#[]⟩,.string ⟨#[]⟩,.slice none 0 0,.slice none 0 0,.slice none 0 0,.int .i64 0] 34 (0,0))] 34 [.int 1,.str F,.str o,.seq 7 (q.2.map Rd.A.d),.seq 3 (e.2.map Qr.Dir.d),.seq 7 [],.int a] [.int .i64 1,.string ⟨F.toArray⟩,.string ⟨o.toArray⟩,.slice a4 O k4,.slice a5 H k5,.slice none 0 0,.int .i64 a] e.1 (w5.setCell ⟨w.heap.size,4,none⟩ (.slice a5 H k5))):=QA (ah.out.put 4 D rfl);have Q:Hid (Rd.Ok s e.1):=by rw[HE.out];exact QA (L.out.trans (Qr.ok_dirs (n+1) _))
   have I:Hid (Rd.Ok s3 e.1):=by rw[HE.out];exact QA (S.out.trans (Qr.ok_dirs (n+1) _))
   have al:Hid (e.1.deep=s.deep):=by rw[HE.out,Qr.dirs_deep,R.out];exact QA rfl
   clear hrd h5 f5 he D ad y3 W;obtain⟨y4,Y⟩:=cf1 ah.out.b6 4 (.slice none 0 0);have ac:Hid (Below (w5.setCell ⟨w.heap.size,4,none⟩ (.slice a5 H k5)).heap.size (w5.setCell ⟨w.heap.size,4,none⟩ (.slice a5 H k5)) ((w5.setCell ⟨w.heap.size,4,none⟩ (.slice a5 H k5)).alloc (.cells #[.string ⟨#[123]⟩] 9))):=QA ((Below.refl _ _).alloc (QM _) _);have aX:Hid (BB ((w5.setCell ⟨w.heap.size,4,none⟩ (.slice a5 H k5)).alloc (.cells #[.string ⟨#[123]⟩] 9)) (.slice (some ⟨w5.heap.size,0,none⟩) 1 1) [Rd.lbrc]):=by
    have h1:=Ap (w5.setCell ⟨w.heap.size,4,none⟩ (.slice a5 H k5)) Rd.lbrc ⟨#[123]⟩ 9 rfl;rw[AP]at h1;exact QA h1
   go_wp2_with fail;refine (Bn b g e.1 _ [Rd.lbrc] _ ((ag.out.below ac.out).rd) aX.out (by simp)).mono ?_;rintro r w6 ⟨rfl,hb6⟩;rw[show ([Rd.lbrc].any (Rd.isS e.1))=Rd.isS e.1 Rd.lbrc by simp];have G:=QA ((ag.out.below ac.out).below hb6);obtain⟨C,hC⟩:∃C,C=Rd.isS e.1 Rd.lbrc:=⟨_,rfl⟩
   have HC:=QA hC;rw[← hC];clear hC hb6 y4 Y;cases C
   ·have HZ:Hid (Qr.setIf f e.1=(e.1,[])):=by unfold Qr.setIf;rw[if_neg (by rw[← HC.out];simp)];exact QA rfl
    have n1:¬w.heap.size=w.heap.size+1:=by omega
    have n2:¬w.heap.size+1=w.heap.size:=by omega
    have HR:Hid (Qr.fieldOf f (n+1) a s=(e.1,(.mk 1 F o q.2 e.2 [] a))):=by
     refine QA ?_;unfold Qr.fieldOf
     dsimp only
     rw[J.out,← HQ.out,← HE.out,HZ.out]
    obtain⟨y0,ao,y1,aa,y2,K,y3,W,y4,Y,y5,aS,y6,aZ⟩:=cf7 G.out.b6 (.int .i64 1) (.string ⟨F.toArray⟩) (.string ⟨o.toArray⟩) (.slice a4 O k4) (.slice a5 H k5) (.slice none 0 0) (.int .i64 a);obtain⟨z0,aI,z1,aM,z2,aK,z3,aU,z4,aL,z5,aA,z6,aN⟩:=cf7 (G.out.cb _ (QB.2 rfl)) (.int .i64 0) (.string ⟨#[]⟩) (.string ⟨#[]⟩) (.slice none 0 0) (.slice none 0 0) (.slice none 0 0) (.int .i64 0);have E:=G.out.fin (r:=w.heap.size+1) (QB.2 rfl);simp only[putCells,QW,Nat.zero_add]at E;have T:=QA E;clear E;go_wp2_with fail;refine bodyPost_ret (v:=.agg #[.int .i64 1,.string ⟨F.toArray⟩,.string ⟨o.toArray⟩,.slice a4 O k4,.slice a5 H k5,.slice none 0 0,.int .i64 a]) (by simp[results,Tryz.results94,go_sem,z0,z1,z2,z3,z4,z5,z6,n1,n2]) rfl ?_;rw[HR.out];unfold Qr.Sel.d;rw[Qr.Sel.dl_map];exact⟨_,rfl,T.out⟩
   ·have HZ:Hid (Qr.setIf f e.1=Qr.selsOf f e.1):=by unfold Qr.setIf;rw[if_pos HC.out.symm];exact QA rfl
    have aP:Hid (e.1.err=0):=QA (by have:=HC.out.symm;unfold Rd.isS at this;simp only[ZB,decide_eq_true_eq]at this;exact this.1.1);have ai:Hid (s.err=0):=by
     refine QA ?_;by_cases h0:s.err=0
     ·exact h0
     ·have:=Q.out.err h0;have h2:=aP.out;rw[this]at h2;exact absurd h2 h0
    go_wp2_with fail;refine (HS.out e.1 w6 G.out.rd (QQ Q.out.len HN.out) al.out ai.out ?_).mono ?_
    ·rcases aR.out ai.out with hx|hx
     ·left;rw[I.out.err hx];exact hx
     ·right;exact Nat.lt_of_le_of_lt I.out.len hx
    rintro r w7 ⟨a6,k6,rfl,hrd,h7,f7⟩;obtain⟨z,hz⟩:∃x,x=Qr.selsOf f e.1:=⟨_,rfl⟩
    rw[← hz]at hrd h7 HZ ⊢;have D:=G.out.data hrd;obtain⟨l6,aj⟩:∃x,x=z.2.length:=⟨_,rfl⟩
    rw[QV,← aj]at D ⊢;have Z:=QA (G.out.step h7 f7);have aD:Hid (FJ w b g w.heap.size (w.heap.size+2) [(w.heap.size+1,Obj.cells #[.int .i64 0,.string ⟨#[]⟩,.string ⟨#[]⟩,.slice none 0 0,.slice none 0 0,.slice none 0 0,.int .i64 0] 34 (0,0))] 34 [.int 1,.str F,.str o,.seq 7 (q.2.map Rd.A.d),.seq 3 (e.2.map Qr.Dir.d),.seq 7 (z.2.map Qr.Sel.d),.int a] [.int .i64 1,.string ⟨F.toArray⟩,.string ⟨o.toArray⟩,.slice a4 O k4,.slice a5 H k5,.slice a6 l6 k6,.int .i64 a] z.1 (w7.setCell ⟨w.heap.size,5,none⟩ (.slice a6 l6 k6))):=QA (Z.out.put 5 D rfl);clear hrd h7 f7 hz D aj;have n1:¬w.heap.size=w.heap.size+1:=by omega
    have n2:¬w.heap.size+1=w.heap.size:=by omega
    have HR:Hid (Qr.fieldOf f (n+1) a s=(z.1,(.mk 1 F o q.2 e.2 z.2 a))):=by
     refine QA ?_;unfold Qr.fieldOf
     dsimp only
     rw[J.out,← HQ.out,← HE.out,HZ.out]
    obtain⟨y0,ao,y1,aa,y2,K,y3,W,y4,Y,y5,aS,y6,aZ⟩:=cf7 Z.out.b6 (.int .i64 1) (.string ⟨F.toArray⟩) (.string ⟨o.toArray⟩) (.slice a4 O k4) (.slice a5 H k5) (.slice none 0 0) (.int .i64 a);obtain⟨z0,aI,z1,aM,z2,aK,z3,aU,z4,aL,z5,aA,z6,aN⟩:=cf7 (Z.out.cb _ (QB.2 rfl)) (.int .i64 0) (.string ⟨#[]⟩) (.string ⟨#[]⟩) (.slice none 0 0) (.slice none 0 0) (.slice none 0 0) (.int .i64 0);have E:=aD.out.fin (r:=w.heap.size+1) (QB.2 rfl);simp only[putCells,QW,Nat.zero_add]at E;have T:=QA E;clear E;go_wp2_with fail;refine bodyPost_ret (v:=.agg #[.int .i64 1,.string ⟨F.toArray⟩,.string ⟨o.toArray⟩,.slice a4 O k4,.slice a5 H k5,.slice a6 l6 k6,.int .i64 a]) (by simp[results,Tryz.results94,go_sem,z0,z1,z2,z3,z4,z5,z6,n1,n2]) rfl ?_;rw[HR.out];unfold Qr.Sel.d;rw[Qr.Sel.dl_map];exact⟨_,rfl,T.out⟩
end Go.Proofs.YtedeapbonbbacaaGreatDoor
