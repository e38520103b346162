/-
  The reader of documents: a field, walked, a selection set's walk being given.
-/
import Derived.Test.YtefjgpkpplkkgaaGreatDoorZo16
import Derived.Test.YtefjgpkpplkkgaaGreatDoorZo6
open Array renaming getInternal_eq_getElem → QD
open Bool renaming and_eq_true → ZF
open Go.Lib renaming hid → QA
open List renaming mem_singleton → QB, setIfInBounds_toArray → QC, drop_succ_cons → QE, take_succ_cons → QF, set_cons_succ → QG, set_cons_zero → QH, getElem_cons_zero → QI, getElem_cons_succ → QJ, getElem_toArray → QK, drop_zero → QL, take_zero → QN, length_map → QZ
open Nat renaming le_refl → QM, le_trans → QR, reduceAdd → ZB
namespace Go.Proofs.YtefjgpkpplkkgaaGreatDoor
set_option maxRecDepth 100000
set_option maxHeartbeats 4000000
set_option linter.unusedSimpArgs false
set_option linter.unusedVariables false
open Go Go.RowKit
def OO (b g n:Nat) (f:Rd.St→Rd.St×Qr.Sel) (s:Rd.St):Prop:=∀(s1:Rd.St) (w1:World),AL w1 b g s1→s1.rest.length≤n→s1.deep=s.deep→s.err=0→(s1.err≠0∨s1.rest.length<s.rest.length) →
 Calls Tryz.prog 175 #[.pointer (some ⟨b,0,none⟩)] w1 (MK b g w1 7 ((Qr.selsOf f s1).2.map Qr.Sel.d) (Qr.selsOf f s1).1)
theorem Iq (b g n a:Nat) (hnb:n≤1600) (f:Rd.St→Rd.St×Qr.Sel) (s:Rd.St) (hS:OO b g n f s) (w:World) (h:AL w b g s) (hn:s.rest.length≤n) (hd:0≤s.deep∧s.deep≤800000) :
  Calls Tryz.prog 230 #[.pointer (some ⟨b,0,none⟩),.agg #[.int .i64 0,.string ⟨#[]⟩,.string ⟨#[]⟩,.slice none 0 0,.slice none 0 0,.slice none 0 0,.int .i64 a]] w (Got b g w (Qr.fieldOf f (n+1) a s).2.d (Qr.fieldOf f (n+1) a s).1):=by
 have bm:=h.lt;have HS:=QA hS;have HN:=QA hn;obtain⟨d0,d1⟩:=hd;have bk:Hid (FJ w b g w.heap.size (w.heap.size+2) [(w.heap.size+1,Obj.cells #[.int .i64 0,.string ⟨#[]⟩,.string ⟨#[]⟩,.slice none 0 0,.slice none 0 0,.slice none 0 0,.int .i64 0] 174 (0,0))] 174 [.int 0,.str [],.str [],.seq 7 [],.seq 3 [],.seq 7 [],.int a] [.int .i64 0,.string ⟨#[]⟩,.string ⟨#[]⟩,.slice none 0 0,.slice none 0 0,.slice none 0 0,.int .i64 a] s ((w.alloc (.cells #[.int .i64 0,.string ⟨#[]⟩,.string ⟨#[]⟩,.slice none 0 0,.slice none 0 0,.slice none 0 0,.int .i64 a] 174)).alloc (.cells #[.int .i64 0,.string ⟨#[]⟩,.string ⟨#[]⟩,.slice none 0 0,.slice none 0 0,.slice none 0 0,.int .i64 0] 174))):=by
  have bj:Below w.heap.size w ((w.alloc (.cells #[.int .i64 0,.string ⟨#[]⟩,.string ⟨#[]⟩,.slice none 0 0,.slice none 0 0,.slice none 0 0,.int .i64 a] 174)).alloc (.cells #[.int .i64 0,.string ⟨#[]⟩,.string ⟨#[]⟩,.slice none 0 0,.slice none 0 0,.slice none 0 0,.int .i64 0] 174)):=((Below.refl _ _).alloc (QM _) _).alloc (by simp) _;refine QA ⟨h.below bj,λp hp=>?_,?_,But.of_below bj,bm.1,bm.2,λp hp=>?_,⟨QM _,by omega⟩,by simp,.cons (.int _) (.cons (.str []) (.cons (.str []) (.cons (.seq (cap:=0) .nil) (.cons (.seq (cap:=0) .nil) (.cons (.seq (cap:=0) .nil) (.cons (.int _) .nil))))))⟩
  ·rw[QB.1 hp];have:=AC (w.alloc (.cells #[.int .i64 0,.string ⟨#[]⟩,.string ⟨#[]⟩,.slice none 0 0,.slice none 0 0,.slice none 0 0,.int .i64 a] 174)) (.cells #[.int .i64 0,.string ⟨#[]⟩,.string ⟨#[]⟩,.slice none 0 0,.slice none 0 0,.slice none 0 0,.int .i64 0] 174);rw[show (w.alloc (.cells #[.int .i64 0,.string ⟨#[]⟩,.string ⟨#[]⟩,.slice none 0 0,.slice none 0 0,.slice none 0 0,.int .i64 a] 174)).heap.size=w.heap.size+1 by simp]at this;exact this
  ·rw[Lib.alloc_old _ _ _ (by simp)];exact AC _ _
  ·rw[QB.1 hp];simp only;omega
 clear h hS hn;go_enter Tryz.func230,Tryz.ntmps230;go_wp2_with fail;refine (Aa b g s _ bk.out.rd).mono ?_;rintro r w1 ⟨rfl,h1,f1⟩;obtain⟨Y,a9⟩:∃x,x=(Rd.name s).1:=⟨_,rfl⟩
 obtain⟨F,bb⟩:∃x,x=(Rd.name s).2:=⟨_,rfl⟩
 rw[← a9]at h1;rw[← bb];have bg:=QA (bk.out.step h1 f1);have bc:=QA a9;have bd:=QA bb;have bh:=QA ((bg.out.put 0 (.int 1) rfl).put 2 (.str F) rfl);clear h1 f1 a9 bb;obtain⟨y0,ap,y1,aa,y2,K⟩:=cf3 bg.out.b6 (.int .i64 0) (.string ⟨#[]⟩) (.string ⟨#[]⟩);go_wp2_with fail;refine (BO b g Y Rd.colon _ bh.out.rd).mono ?_;rintro r w2 ⟨rfl,h2,f2⟩;have a3:=QA (bh.out.step h2 f2);obtain⟨B,hB⟩:∃B,B=Rd.isS Y Rd.colon:=⟨_,rfl⟩
 have HB:=QA hB;rw[← hB];clear h2 f2 hB;clear y0 ap y1 aa y2 K;cases B
 ·have HT:Hid (Rd.take Rd.colon Y=Y):=by unfold Rd.take;rw[if_neg (by rw[← HB.out];simp)];exact QA rfl
  have HX:Hid (FJ w b g w.heap.size (w.heap.size+2) [(w.heap.size+1,Obj.cells #[.int .i64 0,.string ⟨#[]⟩,.string ⟨#[]⟩,.slice none 0 0,.slice none 0 0,.slice none 0 0,.int .i64 0] 174 (0,0))] 174 [.int 1,.str ([]:List UInt8),.str F,.seq 7 [],.seq 3 [],.seq 7 [],.int a] [.int .i64 1,.string ⟨([]:List UInt8).toArray⟩,.string ⟨F.toArray⟩,.slice none 0 0,.slice none 0 0,.slice none 0 0,.int .i64 a] Y (w2)):=by rw[HT.out]at a3;exact a3
  have J:Hid (Qr.aliasOf s=(Y,(([]:List UInt8),F))):=by unfold Qr.aliasOf;rw[← bc.out,← bd.out,if_neg (by rw[← HB.out];simp)];exact QA rfl
  have L:Hid (Rd.Ok s Y):=by have:=Qr.ok_aliasOf s;rw[J.out]at this;exact QA this
  have N:Hid (Y.deep=s.deep):=by have:=Qr.aliasOf_deep s;rw[J.out]at this;exact QA this
  have aM:Hid (s.err=0→Y.err≠0∨Y.rest.length<s.rest.length):=by have:=@Qr.aliasOf_goes s;rw[J.out]at this;exact QA this
  go_wp2_with fail;refine (C4 b g false n hnb Y _ HX.out.rd (QR L.out.len HN.out) (by rw[N.out];omega)).mono ?_;rintro r w4 ⟨a4,k4,rfl,hrd,h4,f4⟩;obtain⟨q,hq⟩:∃x,x=Rd.args false (n+1) Y:=⟨_,rfl⟩
  rw[← hq]at hrd h4 ⊢;have HQ:=QA hq;have E:=HX.out.data hrd;obtain⟨P,ac⟩:∃x,x=q.2.length:=⟨_,rfl⟩
  rw[QZ,← ac]at E ⊢;have ad:=QA (HX.out.step h4 f4);have U:Hid (FJ w b g w.heap.size (w.heap.size+2) [(w.heap.size+1,Obj.cells #[.int .i64 0,.string ⟨#[]⟩,.string ⟨#[]⟩,.slice none 0 0,.slice none 0 0,.slice none 0 0,.int .i64 0] 174 (0,0))] 174 [.int 1,.str ([]:List UInt8),.str F,.seq 7 (q.2.map Rd.A.d),.seq 3 [],.seq 7 [],.int a] [.int .i64 1,.string ⟨([]:List UInt8).toArray⟩,.string ⟨F.toArray⟩,.slice a4 P k4,.slice none 0 0,.slice none 0 0,.int .i64 a] q.1 (w4.setCell ⟨w.heap.size,3,none⟩ (.slice a4 P k4))):=QA (ad.out.put 3 E rfl);have M:Hid (Rd.Ok s q.1):=by rw[HQ.out];exact QA (L.out.trans (Rd.ok_args false (n+1) _))
  have X:Hid (Rd.Ok Y q.1):=by rw[HQ.out];exact QA (Rd.ok_args false (n+1) _)
  have Q:Hid (q.1.deep=s.deep):=by rw[HQ.out,Rd.args_deep,N.out];exact QA rfl
  clear hrd h4 f4 hq E ac;obtain⟨y3,S⟩:=cf1 ad.out.b6 3 (.slice none 0 0);go_wp2_with fail;refine (Av b g n hnb q.1 _ U.out.rd (QR M.out.len HN.out) (by rw[Q.out];omega)).mono ?_;rintro r w5 ⟨a5,k5,rfl,hrd,h5,f5⟩;obtain⟨e,he⟩:∃x,x=Qr.dirs (n+1) q.1:=⟨_,rfl⟩
  rw[← he]at hrd h5 ⊢;have HE:=QA he;have E:=U.out.data hrd;obtain⟨H,ah⟩:∃x,x=e.2.length:=⟨_,rfl⟩
  rw[QZ,← ah]at E ⊢;have ae:=QA (U.out.step h5 f5);have ak:Hid (FJ w b g w.heap.size (w.heap.size+2) [(w.heap.size+1,Obj.cells #[.int .i64 0,.string ⟨#[]⟩,.string ⟨#[]⟩,.slice none 0 0,.slice none 0 0,.slice none 0 0,.int .i64 0] 174 (0,0))] 174 [.int 1,.str ([]:List UInt8),.str F,.seq 7 (q.2.map Rd.A.d),.seq 3 (e.2.map Qr.Dir.d),.seq 7 [],.int a] [.int .i64 1,.string ⟨([]:List UInt8).toArray⟩,.string ⟨F.toArray⟩,.slice a4 P k4,.slice a5 H k5,.slice none 0 0,.int .i64 a] e.1 (w5.setCell ⟨w.heap.size,4,none⟩ (.slice a5 H k5))):=QA (ae.out.put 4 E rfl);have R:Hid (Rd.Ok s e.1):=by rw[HE.out];exact QA (M.out.trans (Qr.ok_dirs (n+1) _))
  have I:Hid (Rd.Ok Y e.1):=by rw[HE.out];exact QA (X.out.trans (Qr.ok_dirs (n+1) _))
  have am:Hid (e.1.deep=s.deep):=by rw[HE.out,Qr.dirs_deep,Q.out];exact QA rfl
  clear hrd h5 f5 he E ah y3 S;obtain⟨y4,W⟩:=cf1 ae.out.b6 4 (.slice none 0 0);have ai:Hid (Below (w5.setCell ⟨w.heap.size,4,none⟩ (.slice a5 H k5)).heap.size (w5.setCell ⟨w.heap.size,4,none⟩ (.slice a5 H k5)) ((w5.setCell ⟨w.heap.size,4,none⟩ (.slice a5 H k5)).alloc (.cells #[.string ⟨#[123]⟩] 9))):=QA ((Below.refl _ _).alloc (QM _) _);have aT:Hid (Bh ((w5.setCell ⟨w.heap.size,4,none⟩ (.slice a5 H k5)).alloc (.cells #[.string ⟨#[123]⟩] 9)) (.slice (some ⟨w5.heap.size,0,none⟩) 1 1) [Rd.lbrc]):=by
   have h1:=Aw (w5.setCell ⟨w.heap.size,4,none⟩ (.slice a5 H k5)) Rd.lbrc ⟨#[123]⟩ 9 rfl;rw[AU]at h1;exact QA h1
  go_wp2_with fail;refine (CG b g e.1 _ [Rd.lbrc] _ ((ak.out.below ai.out).rd) aT.out (by simp)).mono ?_;rintro r w6 ⟨rfl,hb6⟩;rw[show ([Rd.lbrc].any (Rd.isS e.1))=Rd.isS e.1 Rd.lbrc by simp];have G:=QA ((ak.out.below ai.out).below hb6);obtain⟨C,hC⟩:∃C,C=Rd.isS e.1 Rd.lbrc:=⟨_,rfl⟩
  have HC:=QA hC;rw[← hC];clear hC hb6 y4 W;cases C
  ·have HZ:Hid (Qr.setIf f e.1=(e.1,[])):=by unfold Qr.setIf;rw[if_neg (by rw[← HC.out];simp)];exact QA rfl
   have n1:¬w.heap.size=w.heap.size+1:=by omega
   have n2:¬w.heap.size+1=w.heap.size:=by omega
   have HR:Hid (Qr.fieldOf f (n+1) a s=(e.1,(.mk 1 ([]:List UInt8) F q.2 e.2 [] a))):=by
    refine QA ?_;unfold Qr.fieldOf
    dsimp only
    rw[J.out,← HQ.out,← HE.out,HZ.out]
   obtain⟨y0,ap,y1,aa,y2,K,y3,S,y4,W,y5,aX,y6,aL⟩:=cf7 G.out.b6 (.int .i64 1) (.string ⟨([]:List UInt8).toArray⟩) (.string ⟨F.toArray⟩) (.slice a4 P k4) (.slice a5 H k5) (.slice none 0 0) (.int .i64 a);obtain⟨z0,aP,z1,a1,z2,aS,z3,av,z4,aB,z5,aK,z6,aH⟩:=cf7 (G.out.cb _ (QB.2 rfl)) (.int .i64 0) (.string ⟨#[]⟩) (.string ⟨#[]⟩) (.slice none 0 0) (.slice none 0 0) (.slice none 0 0) (.int .i64 0);have D:=G.out.fin (r:=w.heap.size+1) (QB.2 rfl);simp only[putCells,ZB,Nat.zero_add]at D;have T:=QA D;clear D;go_wp2_with fail;refine bodyPost_ret (v:=.agg #[.int .i64 1,.string ⟨([]:List UInt8).toArray⟩,.string ⟨F.toArray⟩,.slice a4 P k4,.slice a5 H k5,.slice none 0 0,.int .i64 a]) (by simp[results,Tryz.results230,go_sem,z0,z1,z2,z3,z4,z5,z6,n1,n2]) rfl ?_;rw[HR.out];unfold Qr.Sel.d;rw[Qr.Sel.dl_map];exact⟨_,rfl,T.out⟩
  ·have HZ:Hid (Qr.setIf f e.1=Qr.selsOf f e.1):=by unfold Qr.setIf;rw[if_pos HC.out.symm];exact QA rfl
   have aV:Hid (e.1.err=0):=QA (by have:=HC.out.symm;unfold Rd.isS at this;simp only[ZF,decide_eq_true_eq]at this;exact this.1.1);have aj:Hid (s.err=0):=by
    refine QA ?_;by_cases h0:s.err=0
    ·exact h0
    ·have:=R.out.err h0;have h2:=aV.out;rw[this]at h2;exact absurd h2 h0
   go_wp2_with fail;refine (HS.out e.1 w6 G.out.rd (QR R.out.len HN.out) am.out aj.out ?_).mono ?_
   ·rcases aM.out aj.out with hx|hx
    ·left;rw[I.out.err hx];exact hx
    ·right;exact Nat.lt_of_le_of_lt I.out.len hx
   rintro r w7 ⟨a6,k6,rfl,hrd,h7,f7⟩;obtain⟨z,hz⟩:∃x,x=Qr.selsOf f e.1:=⟨_,rfl⟩
   rw[← hz]at hrd h7 HZ ⊢;have E:=G.out.data hrd;obtain⟨l6,al⟩:∃x,x=z.2.length:=⟨_,rfl⟩
   rw[QZ,← al]at E ⊢;have Z:=QA (G.out.step h7 f7);have aO:Hid (FJ w b g w.heap.size (w.heap.size+2) [(w.heap.size+1,Obj.cells #[.int .i64 0,.string ⟨#[]⟩,.string ⟨#[]⟩,.slice none 0 0,.slice none 0 0,.slice none 0 0,.int .i64 0] 174 (0,0))] 174 [.int 1,.str ([]:List UInt8),.str F,.seq 7 (q.2.map Rd.A.d),.seq 3 (e.2.map Qr.Dir.d),.seq 7 (z.2.map Qr.Sel.d),.int a] [.int .i64 1,.string ⟨([]:List UInt8).toArray⟩,.string ⟨F.toArray⟩,.slice a4 P k4,.slice a5 H k5,.slice a6 l6 k6,.int .i64 a] z.1 (w7.setCell ⟨w.heap.size,5,none⟩ (.slice a6 l6 k6))):=QA (Z.out.put 5 E rfl);clear hrd h7 f7 hz E al;have n1:¬w.heap.size=w.heap.size+1:=by omega
   have n2:¬w.heap.size+1=w.heap.size:=by omega
   have HR:Hid (Qr.fieldOf f (n+1) a s=(z.1,(.mk 1 ([]:List UInt8) F q.2 e.2 z.2 a))):=by
    refine QA ?_;unfold Qr.fieldOf
    dsimp only
    rw[J.out,← HQ.out,← HE.out,HZ.out]
   obtain⟨y0,ap,y1,aa,y2,K,y3,S,y4,W,y5,aX,y6,aL⟩:=cf7 Z.out.b6 (.int .i64 1) (.string ⟨([]:List UInt8).toArray⟩) (.string ⟨F.toArray⟩) (.slice a4 P k4) (.slice a5 H k5) (.slice none 0 0) (.int .i64 a);obtain⟨z0,aP,z1,a1,z2,aS,z3,av,z4,aB,z5,aK,z6,aH⟩:=cf7 (Z.out.cb _ (QB.2 rfl)) (.int .i64 0) (.string ⟨#[]⟩) (.string ⟨#[]⟩) (.slice none 0 0) (.slice none 0 0) (.slice none 0 0) (.int .i64 0);have D:=aO.out.fin (r:=w.heap.size+1) (QB.2 rfl);simp only[putCells,ZB,Nat.zero_add]at D;have T:=QA D;clear D;go_wp2_with fail;refine bodyPost_ret (v:=.agg #[.int .i64 1,.string ⟨([]:List UInt8).toArray⟩,.string ⟨F.toArray⟩,.slice a4 P k4,.slice a5 H k5,.slice a6 l6 k6,.int .i64 a]) (by simp[results,Tryz.results230,go_sem,z0,z1,z2,z3,z4,z5,z6,n1,n2]) rfl ?_;rw[HR.out];unfold Qr.Sel.d;rw[Qr.Sel.dl_map];exact⟨_,rfl,T.out⟩
 ·have HT:Hid (Rd.take Rd.colon Y=Rd.next Y):=by unfold Rd.take;rw[if_pos HB.out.symm];exact QA rfl
  have bf:Hid (FJ w b g w.heap.size (w.heap.size+2) [(w.heap.size+1,Obj.cells #[.int .i64 0,.string ⟨#[]⟩,.string ⟨#[]⟩,.slice none 0 0,.slice none 0 0,.slice none 0 0,.int .i64 0] 174 (0,0))] 174 [.int 1,.str [],.str F,.seq 7 [],.seq 3 [],.seq 7 [],.int a] [.int .i64 1,.string ⟨#[]⟩,.string ⟨F.toArray⟩,.slice none 0 0,.slice none 0 0,.slice none 0 0,.int .i64 a] (Rd.next Y) (w2)):=by rw[HT.out]at a3;exact a3
  have y2:=AA bf.out.b6 2 (.string ⟨F.toArray⟩) rfl;go_wp2_with fail;refine AM (λ_=>True) 10 (by kernel_rfl) ?_;have aq:=QA (bf.out.below ((Below.refl _ _).drew));refine TK (i:=0) (v:=(.pointer (some ⟨w.heap.size,2,none⟩))) rfl (Or.inl ⟨by rfl,λw hSw=>by go_simp⟩) trivial ?_;simp only[Act.put,QD,QK,QI,QJ,QC,QH,QG];refine TK (i:=2) (v:=(.pointer (some ⟨b,0,none⟩))) rfl (Or.inl ⟨by rfl,λw hSw=>by go_simp⟩) trivial ?_;simp only[Act.put,QD,QK,QI,QJ,QC,QH,QG];refine TK (i:=3) (v:=(.pointer (some ⟨b,0,none⟩))) rfl (Or.inl ⟨by rfl,λw hSw=>by go_simp⟩) trivial ?_;simp only[Act.put,QD,QK,QI,QJ,QC,QH,QG];refine TK (i:=4) (v:=(.pointer (some ⟨b,0,none⟩))) rfl (Or.inl ⟨by rfl,λw hSw=>by go_simp⟩) trivial ?_;simp only[Act.put,QD,QK,QI,QJ,QC,QH,QG];refine Ag (i:=1) (k:=5) (by kernel_rfl) ?_ ?_
  ·refine AB (by decide) (λK1 HK1=>?_);simp only[QE,QL,QF,QN];go_wp2_with fail;refine HK1.out _ _ ⟨λ_=>trivial,?_⟩;clear HK1;refine TK (i:=6) (v:=(.pointer (some ⟨w.heap.size,1,none⟩))) rfl (Or.inl ⟨by rfl,λw hSw=>by go_simp⟩) trivial ?_;simp only[Act.put,QD,QK,QI,QJ,QC,QH,QG];refine TO (i:=5) ?_;clear y2;refine AB (by decide) (λK5 HK5=>?_);simp only[QE,QL,QF,QN];go_wp2_with fail;refine (Aa b g (Rd.next Y) _ aq.out.rd).mono ?_;rintro r w3 ⟨rfl,h3,f3⟩;obtain⟨s3,ao⟩:∃x,x=(Rd.name (Rd.next Y)).1:=⟨_,rfl⟩
   obtain⟨o,V⟩:∃x,x=(Rd.name (Rd.next Y)).2:=⟨_,rfl⟩
   rw[← ao]at h3;rw[← V];have O:=QA (aq.out.step h3 f3);have be:=QA ao;have aD:=QA V;clear h3 f3 ao V;go_wp2_with fail;refine HK5.out _ _ ⟨λ_=>trivial,?_⟩;clear HK5;refine TO (i:=7) ?_;refine AB (by decide) (λK7 HK7=>?_);simp only[QE,QL,QF,QN];obtain⟨y1,aa⟩:=cf1 O.out.b6 1 (.string ⟨#[]⟩);obtain⟨y2,K⟩:=cf1 O.out.b6 2 (.string ⟨F.toArray⟩);go_wp2_with fail;refine HK7.out _ _ ⟨λ_=>trivial,?_⟩;clear HK7;refine TK (i:=8) (v:=(.pointer (some ⟨w.heap.size,2,none⟩))) rfl (Or.inl ⟨by rfl,λw hSw=>by go_simp⟩) trivial ?_;simp only[Act.put,QD,QK,QI,QJ,QC,QH,QG];refine TO (i:=9) ?_;refine AB (by decide) (λK9 HK9=>?_);simp only[QE,QL,QF,QN];go_wp2_with fail;refine HK9.out _ _ ⟨λ_=>trivial,?_⟩;clear HK9;refine AH (by kernel_rfl) ?_ _;have a8:=QA ((O.out.put 1 (.str F) rfl).put 2 (.str o) rfl);clear y1 aa y2 K;have HX:Hid (FJ w b g w.heap.size (w.heap.size+2) [(w.heap.size+1,Obj.cells #[.int .i64 0,.string ⟨#[]⟩,.string ⟨#[]⟩,.slice none 0 0,.slice none 0 0,.slice none 0 0,.int .i64 0] 174 (0,0))] 174 [.int 1,.str F,.str o,.seq 7 [],.seq 3 [],.seq 7 [],.int a] [.int .i64 1,.string ⟨F.toArray⟩,.string ⟨o.toArray⟩,.slice none 0 0,.slice none 0 0,.slice none 0 0,.int .i64 a] s3 ((w3.setCell ⟨w.heap.size,1,none⟩ (.string ⟨F.toArray⟩)).setCell ⟨w.heap.size,2,none⟩ (.string ⟨o.toArray⟩))):=a8;have J:Hid (Qr.aliasOf s=(s3,(F,o))):=by unfold Qr.aliasOf;rw[← bc.out,← bd.out,if_pos HB.out.symm,← be.out,← aD.out];exact QA rfl
   have L:Hid (Rd.Ok s s3):=by have:=Qr.ok_aliasOf s;rw[J.out]at this;exact QA this
   have N:Hid (s3.deep=s.deep):=by have:=Qr.aliasOf_deep s;rw[J.out]at this;exact QA this
   have aM:Hid (s.err=0→s3.err≠0∨s3.rest.length<s.rest.length):=by have:=@Qr.aliasOf_goes s;rw[J.out]at this;exact QA this
   go_wp2_with fail;refine (C4 b g false n hnb s3 _ HX.out.rd (QR L.out.len HN.out) (by rw[N.out];omega)).mono ?_;rintro r w4 ⟨a4,k4,rfl,hrd,h4,f4⟩;obtain⟨q,hq⟩:∃x,x=Rd.args false (n+1) s3:=⟨_,rfl⟩
   rw[← hq]at hrd h4 ⊢;have HQ:=QA hq;have E:=HX.out.data hrd;obtain⟨P,ac⟩:∃x,x=q.2.length:=⟨_,rfl⟩
   rw[QZ,← ac]at E ⊢;have ad:=QA (HX.out.step h4 f4);have U:Hid (FJ w b g w.heap.size (w.heap.size+2) [(w.heap.size+1,Obj.cells #[.int .i64 0,.string ⟨#[]⟩,.string ⟨#[]⟩,.slice none 0 0,.slice none 0 0,.slice none 0 0,.int .i64 0] 174 (0,0))] 174 [.int 1,.str F,.str o,.seq 7 (q.2.map Rd.A.d),.seq 3 [],.seq 7 [],.int a] [.int .i64 1,.string ⟨F.toArray⟩,.string ⟨o.toArray⟩,.slice a4 P k4,.slice none 0 0,.slice none 0 0,.int .i64 a] q.1 (w4.setCell ⟨w.heap.size,3,none⟩ (.slice a4 P k4))):=QA (ad.out.put 3 E rfl);have M:Hid (Rd.Ok s q.1):=by rw[HQ.out];exact QA (L.out.trans (Rd.ok_args false (n+1) _))
   have X:Hid (Rd.Ok s3 q.1):=by rw[HQ.out];exact QA (Rd.ok_args false (n+1) _)
   have Q:Hid (q.1.deep=s.deep):=by rw[HQ.out,Rd.args_deep,N.out];exact QA rfl
   clear hrd h4 f4 hq E ac;obtain⟨y3,S⟩:=cf1 ad.out.b6 3 (.slice none 0 0);go_wp2_with fail;refine (Av b g n hnb q.1 _ U.out.rd (QR M.out.len HN.out) (by rw[Q.out];omega)).mono ?_;rintro r w5 ⟨a5,k5,rfl,hrd,h5,f5⟩;obtain⟨e,he⟩:∃x,x=Qr.dirs (n+1) q.1:=⟨_,rfl⟩
   rw[← he]at hrd h5 ⊢;have HE:=QA he;have E:=U.out.data hrd;obtain⟨H,ah⟩:∃x,x=e.2.length:=⟨_,rfl⟩
   rw[QZ,← ah]at E ⊢;have ae:=QA (U.out.step h5 f5);have ak:Hid (FJ w b g w.heap.size (w.heap.size+2) [(w.heap.size+1,Obj.cells #[.int .i64 0,.string ⟨#[]⟩,.string ⟨#[]⟩,.slice none 0 0,.slice none 0 0,.slice none 0 0,.int .i64 0] 174 (0,0))] 174 [.int 1,.str F,.str o,.seq 7 (q.2.map Rd.A.d),.seq 3 (e.2.map Qr.Dir.d),.seq 7 [],.int a] [.int .i64 1,.string ⟨F.toArray⟩,.string ⟨o.toArray⟩,.slice a4 P k4,.slice a5 H k5,.slice none 0 0,.int .i64 a] e.1 (w5.setCell ⟨w.heap.size,4,none⟩ (.slice a5 H k5))):=QA (ae.out.put 4 E rfl);have R:Hid (Rd.Ok s e.1):=by rw[HE.out];exact QA (M.out.trans (Qr.ok_dirs (n+1) _))
   have I:Hid (Rd.Ok s3 e.1):=by rw[HE.out];exact QA (X.out.trans (Qr.ok_dirs (n+1) _))
   have am:Hid (e.1.deep=s.deep):=by rw[HE.out,Qr.dirs_deep,Q.out];exact QA rfl
   clear hrd h5 f5 he E ah y3 S;obtain⟨y4,W⟩:=cf1 ae.out.b6 4 (.slice none 0 0);have ai:Hid (Below (w5.setCell ⟨w.heap.size,4,none⟩ (.slice a5 H k5)).heap.size (w5.setCell ⟨w.heap.size,4,none⟩ (.slice a5 H k5)) ((w5.setCell ⟨w.heap.size,4,none⟩ (.slice a5 H k5)).alloc (.cells #[.string ⟨#[123]⟩] 9))):=QA ((Below.refl _ _).alloc (QM _) _);have aT:Hid (Bh ((w5.setCell ⟨w.heap.size,4,none⟩ (.slice a5 H k5)).alloc (.cells #[.string ⟨#[123]⟩] 9)) (.slice (some ⟨w5.heap.size,0,none⟩) 1 1) [Rd.lbrc]):=by
    have h1:=Aw (w5.setCell ⟨w.heap.size,4,none⟩ (.slice a5 H k5)) Rd.lbrc ⟨#[123]⟩ 9 rfl;rw[AU]at h1;exact QA h1
   go_wp2_with fail;refine (CG b g e.1 _ [Rd.lbrc] _ ((ak.out.below ai.out).rd) aT.out (by simp)).mono ?_;rintro r w6 ⟨rfl,hb6⟩;rw[show ([Rd.lbrc].any (Rd.isS e.1))=Rd.isS e.1 Rd.lbrc by simp];have G:=QA ((ak.out.below ai.out).below hb6);obtain⟨C,hC⟩:∃C,C=Rd.isS e.1 Rd.lbrc:=⟨_,rfl⟩
   have HC:=QA hC;rw[← hC];clear hC hb6 y4 W;cases C
   ·have HZ:Hid (Qr.setIf f e.1=(e.1,[])):=by unfold Qr.setIf;rw[if_neg (by rw[← HC.out];simp)];exact QA rfl
    have n1:¬w.heap.size=w.heap.size+1:=by omega
    have n2:¬w.heap.size+1=w.heap.size:=by omega
    have HR:Hid (Qr.fieldOf f (n+1) a s=(e.1,(.mk 1 F o q.2 e.2 [] a))):=by
     refine QA ?_;unfold Qr.fieldOf
     dsimp only
     rw[J.out,← HQ.out,← HE.out,HZ.out]
    obtain⟨y0,ap,y1,aa,y2,K,y3,S,y4,W,y5,aX,y6,aL⟩:=cf7 G.out.b6 (.int .i64 1) (.string ⟨F.toArray⟩) (.string ⟨o.toArray⟩) (.slice a4 P k4) (.slice a5 H k5) (.slice none 0 0) (.int .i64 a);obtain⟨z0,aP,z1,a1,z2,aS,z3,av,z4,aB,z5,aK,z6,aH⟩:=cf7 (G.out.cb _ (QB.2 rfl)) (.int .i64 0) (.string ⟨#[]⟩) (.string ⟨#[]⟩) (.slice none 0 0) (.slice none 0 0) (.slice none 0 0) (.int .i64 0);have D:=G.out.fin (r:=w.heap.size+1) (QB.2 rfl);simp only[putCells,ZB,Nat.zero_add]at D;have T:=QA D;clear D;go_wp2_with fail;refine bodyPost_ret (v:=.agg #[.int .i64 1,.string ⟨F.toArray⟩,.string ⟨o.toArray⟩,.slice a4 P k4,.slice a5 H k5,.slice none 0 0,.int .i64 a]) (by simp[results,Tryz.results230,go_sem,z0,z1,z2,z3,z4,z5,z6,n1,n2]) rfl ?_;rw[HR.out];unfold Qr.Sel.d;rw[Qr.Sel.dl_map];exact⟨_,rfl,T.out⟩
   ·have HZ:Hid (Qr.setIf f e.1=Qr.selsOf f e.1):=by unfold Qr.setIf;rw[if_pos HC.out.symm];exact QA rfl
    have aV:Hid (e.1.err=0):=QA (by have:=HC.out.symm;unfold Rd.isS at this;simp only[ZF,decide_eq_true_eq]at this;exact this.1.1);have aj:Hid (s.err=0):=by
     refine QA ?_;by_cases h0:s.err=0
     ·exact h0
     ·have:=R.out.err h0;have h2:=aV.out;rw[this]at h2;exact absurd h2 h0
    go_wp2_with fail;refine (HS.out e.1 w6 G.out.rd (QR R.out.len HN.out) am.out aj.out ?_).mono ?_
    ·rcases aM.out aj.out with hx|hx
     ·left;rw[I.out.err hx];exact hx
     ·right;exact Nat.lt_of_le_of_lt I.out.len hx
    rintro r w7 ⟨a6,k6,rfl,hrd,h7,f7⟩;obtain⟨z,hz⟩:∃x,x=Qr.selsOf f e.1:=⟨_,rfl⟩
    rw[← hz]at hrd h7 HZ ⊢;have E:=G.out.data hrd;obtain⟨l6,al⟩:∃x,x=z.2.length:=⟨_,rfl⟩
    rw[QZ,← al]at E ⊢;have Z:=QA (G.out.step h7 f7);have aO:Hid (FJ w b g w.heap.size (w.heap.size+2) [(w.heap.size+1,Obj.cells #[.int .i64 0,.string ⟨#[]⟩,.string ⟨#[]⟩,.slice none 0 0,.slice none 0 0,.slice none 0 0,.int .i64 0] 174 (0,0))] 174 [.int 1,.str F,.str o,.seq 7 (q.2.map Rd.A.d),.seq 3 (e.2.map Qr.Dir.d),.seq 7 (z.2.map Qr.Sel.d),.int a] [.int .i64 1,.string ⟨F.toArray⟩,.string ⟨o.toArray⟩,.slice a4 P k4,.slice a5 H k5,.slice a6 l6 k6,.int .i64 a] z.1 (w7.setCell ⟨w.heap.size,5,none⟩ (.slice a6 l6 k6))):=QA (Z.out.put 5 E rfl);clear hrd h7 f7 hz E al;have n1:¬w.heap.size=w.heap.size+1:=by omega
    have n2:¬w.heap.size+1=w.heap.size:=by omega
    have HR:Hid (Qr.fieldOf f (n+1) a s=(z.1,(.mk 1 F o q.2 e.2 z.2 a))):=by
     refine QA ?_;unfold Qr.fieldOf
     dsimp only
     rw[J.out,← HQ.out,← HE.out,HZ.out]
    obtain⟨y0,ap,y1,aa,y2,K,y3,S,y4,W,y5,aX,y6,aL⟩:=cf7 Z.out.b6 (.int .i64 1) (.string ⟨F.toArray⟩) (.string ⟨o.toArray⟩) (.slice a4 P k4) (.slice a5 H k5) (.slice none 0 0) (.int .i64 a);obtain⟨z0,aP,z1,a1,z2,aS,z3,av,z4,aB,z5,aK,z6,aH⟩:=cf7 (Z.out.cb _ (QB.2 rfl)) (.int .i64 0) (.string ⟨#[]⟩) (.string ⟨#[]⟩) (.slice none 0 0) (.slice none 0 0) (.slice none 0 0) (.int .i64 0);have D:=aO.out.fin (r:=w.heap.size+1) (QB.2 rfl);simp only[putCells,ZB,Nat.zero_add]at D;have T:=QA D;clear D;go_wp2_with fail;refine bodyPost_ret (v:=.agg #[.int .i64 1,.string ⟨F.toArray⟩,.string ⟨o.toArray⟩,.slice a4 P k4,.slice a5 H k5,.slice a6 l6 k6,.int .i64 a]) (by simp[results,Tryz.results230,go_sem,z0,z1,z2,z3,z4,z5,z6,n1,n2]) rfl ?_;rw[HR.out];unfold Qr.Sel.d;rw[Qr.Sel.dl_map];exact⟨_,rfl,T.out⟩
  ·clear y2;refine AB (by decide) (λK5 HK5=>?_);simp only[QE,QL,QF,QN];go_wp2_with fail;refine (Aa b g (Rd.next Y) _ aq.out.rd).mono ?_;rintro r w3 ⟨rfl,h3,f3⟩;obtain⟨s3,ao⟩:∃x,x=(Rd.name (Rd.next Y)).1:=⟨_,rfl⟩
   obtain⟨o,V⟩:∃x,x=(Rd.name (Rd.next Y)).2:=⟨_,rfl⟩
   rw[← ao]at h3;rw[← V];have O:=QA (aq.out.step h3 f3);have be:=QA ao;have aD:=QA V;clear h3 f3 ao V;go_wp2_with fail;refine HK5.out _ _ ⟨λ_=>trivial,?_⟩;clear HK5;refine TO (i:=1) ?_;refine AB (by decide) (λK1 HK1=>?_);simp only[QE,QL,QF,QN];obtain⟨y2,K⟩:=cf1 O.out.b6 2 (.string ⟨F.toArray⟩);go_wp2_with fail;refine HK1.out _ _ ⟨λ_=>trivial,?_⟩;clear HK1;clear y2 K;refine TK (i:=6) (v:=(.pointer (some ⟨w.heap.size,1,none⟩))) rfl (Or.inl ⟨by rfl,λw hSw=>by go_simp⟩) trivial ?_;simp only[Act.put,QD,QK,QI,QJ,QC,QH,QG];refine TO (i:=7) ?_;refine AB (by decide) (λK7 HK7=>?_);simp only[QE,QL,QF,QN];obtain⟨y1,aa⟩:=cf1 O.out.b6 1 (.string ⟨#[]⟩);obtain⟨y2,K⟩:=cf1 O.out.b6 2 (.string ⟨F.toArray⟩);go_wp2_with fail;refine HK7.out _ _ ⟨λ_=>trivial,?_⟩;clear HK7;refine TK (i:=8) (v:=(.pointer (some ⟨w.heap.size,2,none⟩))) rfl (Or.inl ⟨by rfl,λw hSw=>by go_simp⟩) trivial ?_;simp only[Act.put,QD,QK,QI,QJ,QC,QH,QG];refine TO (i:=9) ?_;refine AB (by decide) (λK9 HK9=>?_);simp only[QE,QL,QF,QN];go_wp2_with fail;refine HK9.out _ _ ⟨λ_=>trivial,?_⟩;clear HK9;refine AH (by kernel_rfl) ?_ _;have a8:=QA ((O.out.put 1 (.str F) rfl).put 2 (.str o) rfl);clear y1 aa y2 K;have HX:Hid (FJ w b g w.heap.size (w.heap.size+2) [(w.heap.size+1,Obj.cells #[.int .i64 0,.string ⟨#[]⟩,.string ⟨#[]⟩,.slice none 0 0,.slice none 0 0,.slice none 0 0,.int .i64 0] 174 (0,0))] 174 [.int 1,.str F,.str o,.seq 7 [],.seq 3 [],.seq 7 [],.int a] [.int .i64 1,.string ⟨F.toArray⟩,.string ⟨o.toArray⟩,.slice none 0 0,.slice none 0 0,.slice none 0 0,.int .i64 a] s3 ((w3.setCell ⟨w.heap.size,1,none⟩ (.string ⟨F.toArray⟩)).setCell ⟨w.heap.size,2,none⟩ (.string ⟨o.toArray⟩))):=a8;have J:Hid (Qr.aliasOf s=(s3,(F,o))):=by unfold Qr.aliasOf;rw[← bc.out,← bd.out,if_pos HB.out.symm,← be.out,← aD.out];exact QA rfl
   have L:Hid (Rd.Ok s s3):=by have:=Qr.ok_aliasOf s;rw[J.out]at this;exact QA this
   have N:Hid (s3.deep=s.deep):=by have:=Qr.aliasOf_deep s;rw[J.out]at this;exact QA this
   have aM:Hid (s.err=0→s3.err≠0∨s3.rest.length<s.rest.length):=by have:=@Qr.aliasOf_goes s;rw[J.out]at this;exact QA this
   go_wp2_with fail;refine (C4 b g false n hnb s3 _ HX.out.rd (QR L.out.len HN.out) (by rw[N.out];omega)).mono ?_;rintro r w4 ⟨a4,k4,rfl,hrd,h4,f4⟩;obtain⟨q,hq⟩:∃x,x=Rd.args false (n+1) s3:=⟨_,rfl⟩
   rw[← hq]at hrd h4 ⊢;have HQ:=QA hq;have E:=HX.out.data hrd;obtain⟨P,ac⟩:∃x,x=q.2.length:=⟨_,rfl⟩
   rw[QZ,← ac]at E ⊢;have ad:=QA (HX.out.step h4 f4);have U:Hid (FJ w b g w.heap.size (w.heap.size+2) [(w.heap.size+1,Obj.cells #[.int .i64 0,.string ⟨#[]⟩,.string ⟨#[]⟩,.slice none 0 0,.slice none 0 0,.slice none 0 0,.int .i64 0] 174 (0,0))] 174 [.int 1,.str F,.str o,.seq 7 (q.2.map Rd.A.d),.seq 3 [],.seq 7 [],.int a] [.int .i64 1,.string ⟨F.toArray⟩,.string ⟨o.toArray⟩,.slice a4 P k4,.slice none 0 0,.slice none 0 0,.int .i64 a] q.1 (w4.setCell ⟨w.heap.size,3,none⟩ (.slice a4 P k4))):=QA (ad.out.put 3 E rfl);have M:Hid (Rd.Ok s q.1):=by rw[HQ.out];exact QA (L.out.trans (Rd.ok_args false (n+1) _))
   have X:Hid (Rd.Ok s3 q.1):=by rw[HQ.out];exact QA (Rd.ok_args false (n+1) _)
   have Q:Hid (q.1.deep=s.deep):=by rw[HQ.out,Rd.args_deep,N.out];exact QA rfl
   clear hrd h4 f4 hq E ac;obtain⟨y3,S⟩:=cf1 ad.out.b6 3 (.slice none 0 0);go_wp2_with fail;refine (Av b g n hnb q.1 _ U.out.rd (QR M.out.len HN.out) (by rw[Q.out];omega)).mono ?_;rintro r w5 ⟨a5,k5,rfl,hrd,h5,f5⟩;obtain⟨e,he⟩:∃x,x=Qr.dirs (n+1) q.1:=⟨_,rfl⟩
   rw[← he]at hrd h5 ⊢;have HE:=QA he;have E:=U.out.data hrd;obtain⟨H,ah⟩:∃x,x=e.2.length:=⟨_,rfl⟩
   rw[QZ,← ah]at E ⊢;have ae:=QA (U.out.step h5 f5);have ak:Hid (FJ w b g w.heap.size (w.heap.size+2) [(w.heap.size+1,Obj.cells #[.int .i64 0,.string ⟨#[]⟩,.string ⟨#[]⟩,.slice none 0 0,.slice none 0 0,.slice none 0 0,.int .i64 0] 174 (0,0))] 174 [.int 1,.str F,.str o,.seq 7 (q.2.map Rd.A.d),.seq 3 (e.2.map Qr.Dir.d),.seq 7 [],.int a] [.int .i64 1,.string ⟨F.toArray⟩,.string ⟨o.toArray⟩,.slice a4 P k4,.slice a5 H k5,.slice none 0 0,.int .i64 a] e.1 (w5.setCell ⟨w.heap.size,4,none⟩ (.slice a5 H k5))):=QA (ae.out.put 4 E rfl);have R:Hid (Rd.Ok s e.1):=by rw[HE.out];exact QA (M.out.trans (Qr.ok_dirs (n+1) _))
   have I:Hid (Rd.Ok s3 e.1):=by rw[HE.out];exact QA (X.out.trans (Qr.ok_dirs (n+1) _))
   have am:Hid (e.1.deep=s.deep):=by rw[HE.out,Qr.dirs_deep,Q.out];exact QA rfl
   clear hrd h5 f5 he E ah y3 S;obtain⟨y4,W⟩:=cf1 ae.out.b6 4 (.slice none 0 0);have ai:Hid (Below (w5.setCell ⟨w.heap.size,4,none⟩ (.slice a5 H k5)).heap.size (w5.setCell ⟨w.heap.size,4,none⟩ (.slice a5 H k5)) ((w5.setCell ⟨w.heap.size,4,none⟩ (.slice a5 H k5)).alloc (.cells #[.string ⟨#[123]⟩] 9))):=QA ((Below.refl _ _).alloc (QM _) _);have aT:Hid (Bh ((w5.setCell ⟨w.heap.size,4,none⟩ (.slice a5 H k5)).alloc (.cells #[.string ⟨#[123]⟩] 9)) (.slice (some ⟨w5.heap.size,0,none⟩) 1 1) [Rd.lbrc]):=by
    have h1:=Aw (w5.setCell ⟨w.heap.size,4,none⟩ (.slice a5 H k5)) Rd.lbrc ⟨#[123]⟩ 9 rfl;rw[AU]at h1;exact QA h1
   go_wp2_with fail;refine (CG b g e.1 _ [Rd.lbrc] _ ((ak.out.below ai.out).rd) aT.out (by simp)).mono ?_;rintro r w6 ⟨rfl,hb6⟩;rw[show ([Rd.lbrc].any (Rd.isS e.1))=Rd.isS e.1 Rd.lbrc by simp];have G:=QA ((ak.out.below ai.out).below hb6);obtain⟨C,hC⟩:∃C,C=Rd.isS e.1 Rd.lbrc:=⟨_,rfl⟩
   have HC:=QA hC;rw[← hC];clear hC hb6 y4 W;cases C
   ·have HZ:Hid (Qr.setIf f e.1=(e.1,[])):=by unfold Qr.setIf;rw[if_neg (by rw[← HC.out];simp)];exact QA rfl
    have n1:¬w.heap.size=w.heap.size+1:=by omega
    have n2:¬w.heap.size+1=w.heap.size:=by omega
    have HR:Hid (Qr.fieldOf f (n+1) a s=(e.1,(.mk 1 F o q.2 e.2 [] a))):=by
     refine QA ?_;unfold Qr.fieldOf
     dsimp only
     rw[J.out,← HQ.out,← HE.out,HZ.out]
    obtain⟨y0,ap,y1,aa,y2,K,y3,S,y4,W,y5,aX,y6,aL⟩:=cf7 G.out.b6 (.int .i64 1) (.string ⟨F.toArray⟩) (.string ⟨o.toArray⟩) (.slice a4 P k4) (.slice a5 H k5) (.slice none 0 0) (.int .i64 a);obtain⟨z0,aP,z1,a1,z2,aS,z3,av,z4,aB,z5,aK,z6,aH⟩:=cf7 (G.out.cb _ (QB.2 rfl)) (.int .i64 0) (.string ⟨#[]⟩) (.string ⟨#[]⟩) (.slice none 0 0) (.slice none 0 0) (.slice none 0 0) (.int .i64 0);have D:=G.out.fin (r:=w.heap.size+1) (QB.2 rfl);simp only[putCells,ZB,Nat.zero_add]at D;have T:=QA D;clear D;go_wp2_with fail;refine bodyPost_ret (v:=.agg #[.int .i64 1,.string ⟨F.toArray⟩,.string ⟨o.toArray⟩,.slice a4 P k4,.slice a5 H k5,.slice none 0 0,.int .i64 a]) (by simp[results,Tryz.results230,go_sem,z0,z1,z2,z3,z4,z5,z6,n1,n2]) rfl ?_;rw[HR.out];unfold Qr.Sel.d;rw[Qr.Sel.dl_map];exact⟨_,rfl,T.out⟩
   ·have HZ:Hid (Qr.setIf f e.1=Qr.selsOf f e.1):=by unfold Qr.setIf;rw[if_pos HC.out.symm];exact QA rfl
    have aV:Hid (e.1.err=0):=QA (by have:=HC.out.symm;unfold Rd.isS at this;simp only[ZF,decide_eq_true_eq]at this;exact this.1.1);have aj:Hid (s.err=0):=by
     refine QA ?_;by_cases h0:s.err=0
     ·exact h0
     ·have:=R.out.err h0;have h2:=aV.out;rw[this]at h2;exact absurd h2 h0
    go_wp2_with fail;refine (HS.out e.1 w6 G.out.rd (QR R.out.len HN.out) am.out aj.out ?_).mono ?_
    ·rcases aM.out aj.out with hx|hx
     ·left;rw[I.out.err hx];exact hx
     ·right;exact Nat.lt_of_le_of_lt I.out.len hx
    rintro r w7 ⟨a6,k6,rfl,hrd,h7,f7⟩;obtain⟨z,hz⟩:∃x,x=Qr.selsOf f e.1:=⟨_,rfl⟩
    rw[← hz]at hrd h7 HZ ⊢;have E:=G.out.data hrd;obtain⟨l6,al⟩:∃x,x=z.2.length:=⟨_,rfl⟩
    rw[QZ,← al]at E ⊢;have Z:=QA (G.out.step h7 f7);have aO:Hid (FJ w b g w.heap.size (w.heap.size+2) [(w.heap.size+1,Obj.cells #[.int .i64 0,.string ⟨#[]⟩,.string ⟨#[]⟩,.slice none 0 0,.slice none 0 0,.slice none 0 0,.int .i64 0] 174 (0,0))] 174 [.int 1,.str F,.str o,.seq 7 (q.2.map Rd.A.d),.seq 3 (e.2.map Qr.Dir.d),.seq 7 (z.2.map Qr.Sel.d),.int a] [.int .i64 1,.string ⟨F.toArray⟩,.string ⟨o.toArray⟩,.slice a4 P k4,.slice a5 H k5,.slice a6 l6 k6,.int .i64 a] z.1 (w7.setCell ⟨w.heap.size,5,none⟩ (.slice a6 l6 k6))):=QA (Z.out.put 5 E rfl);clear hrd h7 f7 hz E al;have n1:¬w.heap.size=w.heap.size+1:=by omega
    have n2:¬w.heap.size+1=w.heap.size:=by omega
    have HR:Hid (Qr.fieldOf f (n+1) a s=(z.1,(.mk 1 F o q.2 e.2 z.2 a))):=by
     refine QA ?_;unfold Qr.fieldOf
     dsimp only
     rw[J.out,← HQ.out,← HE.out,HZ.out]
    obtain⟨y0,ap,y1,aa,y2,K,y3,S,y4,W,y5,aX,y6,aL⟩:=cf7 Z.out.b6 (.int .i64 1) (.string ⟨F.toArray⟩) (.string ⟨o.toArray⟩) (.slice a4 P k4) (.slice a5 H k5) (.slice none 0 0) (.int .i64 a);obtain⟨z0,aP,z1,a1,z2,aS,z3,av,z4,aB,z5,aK,z6,aH⟩:=cf7 (Z.out.cb _ (QB.2 rfl)) (.int .i64 0) (.string ⟨#[]⟩) (.string ⟨#[]⟩) (.slice none 0 0) (.slice none 0 0) (.slice none 0 0) (.int .i64 0);have D:=aO.out.fin (r:=w.heap.size+1) (QB.2 rfl);simp only[putCells,ZB,Nat.zero_add]at D;have T:=QA D;clear D;go_wp2_with fail;refine bodyPost_ret (v:=.agg #[.int .i64 1,.string ⟨F.toArray⟩,.string ⟨o.toArray⟩,.slice a4 P k4,.slice a5 H k5,.slice a6 l6 k6,.int .i64 a]) (by simp[results,Tryz.results230,go_sem,z0,z1,z2,z3,z4,z5,z6,n1,n2]) rfl ?_;rw[HR.out];unfold Qr.Sel.d;rw[Qr.Sel.dl_map];exact⟨_,rfl,T.out⟩
end Go.Proofs.YtefjgpkpplkkgaaGreatDoor
