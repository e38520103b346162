/-
  The writer of documents: a selection, walked.
-/
import Derived.Test.YtefjgpkpplkkgaaGreatDoorZo28
open Go.Lib renaming hid → QA
open List renaming length_cons → QO, length_nil → QS
open Nat renaming le_trans → QR, add_zero → ZC
namespace Go.Proofs.YtefjgpkpplkkgaaGreatDoor
set_option maxRecDepth 100000
set_option maxHeartbeats 4000000
set_option linter.unusedSimpArgs false
set_option linter.unusedVariables false
open Go Go.RowKit
theorem B8:∀l:List Dq.Dir,l.length≤Dq.dirsC l
 | []=>Nat.zero_le _
 | x::r=>by
  have:=B8 r;unfold Dq.dirsC at this ⊢;have o:Dq.dirC x=2+x.name.length+Dq.argsC x.args:=rfl;rw[Vl.sumC,QO];omega
theorem Pz (w0:World) (b:Nat) (hE:Env w0) (h3:3≤w0.heap.size) (at_:Nat) (hat:at_≤16) (IH:Eo w0 b at_) (x:Dq.Sel) (hk:x.kind=1) (a1 a2 a4:Option Addr) (n1 n2 n4:Nat) (hR:Reads w0 (λ_=>True) x.d [.int .i64 x.kind,.string ⟨x.nick.toArray⟩,.string ⟨x.name.toArray⟩,.slice a1 x.args.length n1,.slice a2 x.dirs.length n2,.slice a4 x.sels.length n4,.int .i64 x.at_]) (hc:x.cost≤1000000000) (s:Vl.Sh) (w:World) (h:WW w0 b s w) (hl:s.out.length+x.cost≤1000000000000) :
  Calls Tryz.prog 121 #[.pointer (some ⟨b,0,none⟩),.agg #[.int .i64 x.kind,.string ⟨x.nick.toArray⟩,.string ⟨x.name.toArray⟩,.slice a1 x.args.length n1,.slice a2 x.dirs.length n2,.slice a4 x.sels.length n4,.int .i64 x.at_],.int .i64 at_] w (BE w0 b s w (x.good at_) x.txt x.cost):=by
 have bX:=Dq.Sel.cost_eq x;have b0:=B8 x.dirs;obtain⟨y1,y2,y3,v1,v2,v3,ex,aS,aT,a3⟩:=Dq.Sel.opened hR;obtain⟨rfl,rfl,rfl,rfl,rfl,rfl⟩:a1=y1∧n1=v1∧a2=y2∧n2=v2∧a4=y3∧n4=v3:=by simpa [and_assoc] using ex
 clear ex hR;obtain⟨wb,E⟩:∃q,q=(w.alloc (.cells #[.int .i64 x.kind,.string ⟨x.nick.toArray⟩,.string ⟨x.name.toArray⟩,.slice a1 x.args.length n1,.slice a2 x.dirs.length n2,.slice a4 x.sels.length n4,.int .i64 x.at_] 174)):=⟨_,rfl⟩
 have H0:Hid (WW w0 b s wb):=by rw[E];exact QA (h.alloc (.cells #[.int .i64 x.kind,.string ⟨x.nick.toArray⟩,.string ⟨x.name.toArray⟩,.slice a1 x.args.length n1,.slice a2 x.dirs.length n2,.slice a4 x.sels.length n4,.int .i64 x.at_] 174))
 have O0:Hid (OK8 b w wb):=by rw[E];exact QA ((Lib.OthersKept.refl 5 (some b) w).alloc _)
 have Z0:Hid (w.heap.size≤wb.heap.size):=by rw[E];exact QA (by simp)
 have E0:=QA (Vl.Eff.refl s);have Z:Hid (wb.heap[w.heap.size]?=some (.cells #[.int .i64 x.kind,.string ⟨x.nick.toArray⟩,.string ⟨x.name.toArray⟩,.slice a1 x.args.length n1,.slice a2 x.dirs.length n2,.slice a4 x.sels.length n4,.int .i64 x.at_] 174 (0,0))):=by rw[E];exact QA (Bf w _ _)
 have F:w.heap.size≠b:=by have:=h.lt;omega
 have b1:w.heap.size+1=wb.heap.size:=by rw[E];simp
 have aV:=QA E;clear h E;have a9:=QA aS;have bj:=QA aT;have bA:=QA a3;have HE:=QA hE;have a8:=QA IH;have q1:(x.kind==1)=true:=by rw[beq_iff_eq];exact hk
 have q2:(x.kind==2)=false:=by rw[beq_eq_false_iff_ne];omega
 have q3:(x.kind==3)=false:=by rw[beq_eq_false_iff_ne];omega
 have HG:Hid (x.good at_=(Dq.nmG x.nick&&(Lx.isName x.name&&(Dq.argsG at_ x.args&&(Dq.dirsG at_ x.dirs&&(decide (x.sels.length=0)||(decide (at_<16)&&Dq.Sel.goods (at_+1) x.sels))))))):=QA (by rw[Dq.Sel.good_eq,if_pos hk]);have HT:Hid (x.txt=Dq.nmT x.nick [] [58,32]++(x.name++(Dq.argsT x.args++(Dq.dirsT x.dirs++(if x.sels.length=0 then [] else [32]++Dq.selsT x.sels))))):=QA (by rw[Dq.Sel.txt_eq,if_pos hk]);obtain⟨bn,bq⟩:∃q,x.nick.isEmpty=q:=⟨_,rfl⟩
 obtain⟨bm,bz⟩:∃q,x.name.isEmpty=q:=⟨_,rfl⟩
 have B:Hid (decide (x.nick=[])=bn∧(bn=true↔x.nick=[])):=QA (by rw[← bq];cases x.nick<;>simp);have bZ:Hid (decide (x.name=[])=bm∧(bm=true↔x.name=[])):=QA (by rw[← bz];cases x.name<;>simp);obtain⟨ba,bo⟩:∃q,((x.args.length:Int)==0)=q:=⟨_,rfl⟩
 have cb:Hid (decide (x.args.length=0)=ba):=QA (by rw[← bo];by_cases h:x.args.length=0<;>simp[h]);obtain⟨bl,bv⟩:∃q,decide ((0:Int)<(x.sels.length:Int))=q:=⟨_,rfl⟩
 have C:decide (0<x.sels.length)=bl:=by rw[← bv,decide_eq_decide];omega
 have U:Hid (decide (x.sels.length=0)=!bl∧(bl=true↔x.sels.length≠0)):=QA (by rw[← C];by_cases h:x.sels.length=0<;>simp[h];omega);have bM:((x.sels.length:Int)==0)=!bl:=by
  by_cases h:x.sels.length=0
  ·rw[← C,h];rfl
  ·rw[← C,eqF (by omega),decide_eq_true (by omega)];rfl
 have bP:(x.sels.length==0)=!bl:=by
  by_cases h:x.sels.length=0
  ·rw[← C,h];rfl
  ·rw[← C,beq_eq_false_iff_ne.2 h,decide_eq_true (by omega)];rfl
 clear aS aT a3 hE IH hk;go_enter Tryz.func121,Tryz.ntmps121;cases bn
 focus
  obtain⟨G,D,H,L,J,I,K⟩:=BW Z.out rfl rfl rfl rfl rfl rfl rfl;go_wp2_with fail;rw[← aV.out];refine (A1 w0 b s _ H0.out x.nick (by omega)).mono ?_;rintro e w1 ⟨rfl,s1,h,e,o,z⟩;have bb:=e.len
  try simp only[QO,QS,ZC]at bb
  have H1:=QA h;have E1:=QA (E0.out.comp e);have O1:=QA (O0.out.trans o);have Z1:=QA (QR Z0.out z);have a6:=QA (AD o Z.out F (by decide));clear G D H L J I K;clear h e o z;obtain⟨aE,aC,aN,aK,az,aB,aL⟩:=BW a6.out rfl rfl rfl rfl rfl rfl rfl;go_wp2_with fail;refine (A8 w0 b s1 _ H1.out [58,32] (by show _+2≤_;omega)).mono ?_;rintro e w2 ⟨rfl,s2,h,e,o,z⟩;have bB:=e.len
  try simp only[QO,QS,ZC]at bB
  have H2:=QA h;have E2:=QA (E1.out.comp e);have O2:=QA (O1.out.trans o);have Z2:=QA (QR Z1.out z);have bw:=QA (AD o a6.out F (by decide));clear aE aC aN aK az aB aL;clear h e o z;obtain⟨w9,T⟩:∃q,q=w2:=⟨_,rfl⟩
  obtain⟨s9,hs⟩:∃q,q=s2:=⟨_,rfl⟩
  have H9:Hid (WW w0 b s9 w9):=by rw[hs,T];exact QA H2.out
  have E9:Hid (Vl.Eff s (Dq.nmG x.nick) (Dq.nmT x.nick [] [58,32]) (x.nick.length+2) s9):=by rw[hs];exact QA (E2.out.to (by first|(rw[Dq.nmG,B.out.1];simp)|(rw[Dq.nmT,if_neg (λe=>absurd (B.out.2.2 e) (by simp))];simp)) (λ_=>by first|(rw[Dq.nmG,B.out.1];simp)|(rw[Dq.nmT,if_neg (λe=>absurd (B.out.2.2 e) (by simp))];simp)) (by first|omega|(simp;done)|(simp;omega)))
  have O9:Hid (OK8 b w w9):=by rw[T];exact QA O2.out
  have Z9:Hid (w.heap.size≤w9.heap.size):=by rw[T];exact QA Z2.out
  have bE:s9.out.length≤s.out.length+(x.nick.length+2):=by rw[hs];omega
  have aJ:Hid (w9.heap[w.heap.size]?=some (.cells #[.int .i64 x.kind,.string ⟨x.nick.toArray⟩,.string ⟨x.name.toArray⟩,.slice a1 x.args.length n1,.slice a2 x.dirs.length n2,.slice a4 x.sels.length n4,.int .i64 x.at_] 174 (0,0))):=by rw[T];exact QA bw.out
  rw[← T];clear T hs
 rotate_left
 focus
  obtain⟨G,D,H,L,J,I,K⟩:=BW Z.out rfl rfl rfl rfl rfl rfl rfl;go_wp2_with fail;rw[← aV.out];clear G D H L J I K;obtain⟨w9,T⟩:∃q,q=wb:=⟨_,rfl⟩
  obtain⟨s9,hs⟩:∃q,q=s:=⟨_,rfl⟩
  have H9:Hid (WW w0 b s9 w9):=by rw[hs,T];exact QA H0.out
  have E9:Hid (Vl.Eff s (Dq.nmG x.nick) (Dq.nmT x.nick [] [58,32]) (x.nick.length+2) s9):=by rw[hs];exact QA (E0.out.to (by first|(rw[Dq.nmG,B.out.1];rfl)|(rw[Dq.nmT,if_pos (B.out.2.1 (by trivial))])) (λ_=>by first|(rw[Dq.nmG,B.out.1];rfl)|(rw[Dq.nmT,if_pos (B.out.2.1 (by trivial))])) (by first|omega|(simp;done)|(simp;omega)))
  have O9:Hid (OK8 b w w9):=by rw[T];exact QA O0.out
  have Z9:Hid (w.heap.size≤w9.heap.size):=by rw[T];exact QA Z0.out
  have bE:s9.out.length≤s.out.length+(x.nick.length+2):=by rw[hs];omega
  have aJ:Hid (w9.heap[w.heap.size]?=some (.cells #[.int .i64 x.kind,.string ⟨x.nick.toArray⟩,.string ⟨x.name.toArray⟩,.slice a1 x.args.length n1,.slice a2 x.dirs.length n2,.slice a4 x.sels.length n4,.int .i64 x.at_] 174 (0,0))):=by rw[T];exact QA Z.out
  rw[← T];clear T hs
 all_goals
  obtain⟨aF,aA,aG,aI,aH,aM,aD⟩:=BW aJ.out rfl rfl rfl rfl rfl rfl rfl;go_wp2_with fail;refine (A1 w0 b s9 _ H9.out x.name (by omega)).mono ?_;rintro e w10 ⟨rfl,s10,h,e,o,z⟩;have aW:=e.len
  try simp only[QO,QS,ZC]at aW
  have bp:=QA h;have bC:=QA (E9.out.comp e);have bd:=QA (O9.out.trans o);have bk:=QA (QR Z9.out z);have ax:=QA (AD o aJ.out F (by decide));clear aF aA aG aI aH aM aD;clear h e o z;obtain⟨aa,af,am,ae,an,W,ai⟩:=BW ax.out rfl rfl rfl rfl rfl rfl rfl;go_wp2_with fail;refine (GP w0 b HE.out h3 x.args at_ (by omega) a1 n1 a9.out (by omega) s10 _ bp.out (by omega)).mono ?_;rintro e w11 ⟨rfl,s11,h,e,o,z⟩;have a5:=e.len
  try simp only[QO,QS,ZC]at a5
  have bi:=QA h;have bD:=QA (bC.out.comp e);have bg:=QA (bd.out.trans o);have be:=QA (QR bk.out z);have aw:=QA (AD o ax.out F (by decide));clear aa af am ae an W ai;clear h e o z;obtain⟨V,X,ac,ab,aj,al,ao⟩:=BW aw.out rfl rfl rfl rfl rfl rfl rfl;go_wp2_with fail;refine (CQ w0 b HE.out h3 x.dirs at_ (by omega) a2 n2 bj.out (by omega) (by omega) s11 _ bi.out (by omega)).mono ?_;rintro e w12 ⟨rfl,s12,h,e,o,z⟩;have a0:=e.len
  try simp only[QO,QS,ZC]at a0
  have aY:=QA h;have aX:=QA (bD.out.comp e);have aU:=QA (bg.out.trans o);have aZ:=QA (QR be.out z);have A:=QA (AD o aw.out F (by decide));clear V X ac ab aj al ao;clear h e o z;cases bl
  ·have O:=AA A.out 0 (.int .i64 x.kind) rfl;have R:=AA A.out 1 (.string ⟨x.nick.toArray⟩) rfl;have N:=AA A.out 2 (.string ⟨x.name.toArray⟩) rfl;have S:=AA A.out 3 (.slice a1 x.args.length n1) rfl;have Q:=AA A.out 4 (.slice a2 x.dirs.length n2) rfl;have P:=AA A.out 5 (.slice a4 x.sels.length n4) rfl;have M:=AA A.out 6 (.int .i64 x.at_) rfl;go_wp2_with fail;go_end0;exact⟨rfl,s12,aY.out,aX.out.to (by rw[HG.out,U.out.1];simp[Bool.and_assoc]) (λ_=>by rw[HT.out,if_pos (by have:=U.out.1;simpa using this)];simp) (by omega),aU.out,aZ.out⟩
  ·have O:=AA A.out 0 (.int .i64 x.kind) rfl;have R:=AA A.out 1 (.string ⟨x.nick.toArray⟩) rfl;have N:=AA A.out 2 (.string ⟨x.name.toArray⟩) rfl;have S:=AA A.out 3 (.slice a1 x.args.length n1) rfl;have Q:=AA A.out 4 (.slice a2 x.dirs.length n2) rfl;have P:=AA A.out 5 (.slice a4 x.sels.length n4) rfl;have M:=AA A.out 6 (.int .i64 x.at_) rfl;go_wp2_with fail;refine (A8 w0 b s12 _ aY.out [32] (by show _+1≤_;omega)).mono ?_;rintro e w13 ⟨rfl,s13,h,e,o,z⟩;have aR:=e.len
   try simp only[QO,QS,ZC]at aR
   have bc:=QA h;have bs:=QA (aX.out.comp e);have bt:=QA (aU.out.trans o);have bf:=QA (QR aZ.out z);have ay:=QA (AD o A.out F (by decide));clear O R N S Q P M;clear h e o z;obtain⟨au,aq,ar,Y,ap,ah,ag⟩:=BW ay.out rfl rfl rfl rfl rfl rfl rfl;go_wp2_with fail;refine (a8.out x.sels a4 n4 bA.out (by omega) s13 _ bc.out (by omega)).mono ?_;rintro e w14 ⟨rfl,s14,h,e,o,z⟩;have aQ:=e.len
   try simp only[QO,QS,ZC]at aQ
   have bh:=QA h;have br:=QA (bs.out.comp e);have bu:=QA (bt.out.trans o);have bx:=QA (QR bf.out z);have bS:=QA (AD o ay.out F (by decide));clear au aq ar Y ap ah ag;clear h e o z;go_wp2_with fail;go_end0;exact⟨rfl,s14,bh.out,br.out.to (by rw[HG.out,U.out.1];unfold Dq.selsG;rw[decide_eq_true (show 0<x.sels.length by have:=U.out.2.1 (by trivial);omega)];simp[Bool.and_assoc]) (λ_=>by rw[HT.out,if_neg (U.out.2.1 (by trivial))];simp) (by simp;omega),bu.out,bx.out⟩
theorem Pv (w0:World) (b:Nat) (hE:Env w0) (h3:3≤w0.heap.size) (at_:Nat) (hat:at_≤16) (IH:Eo w0 b at_) (x:Dq.Sel) (hk:x.kind=2) (a1 a2 a4:Option Addr) (n1 n2 n4:Nat) (hR:Reads w0 (λ_=>True) x.d [.int .i64 x.kind,.string ⟨x.nick.toArray⟩,.string ⟨x.name.toArray⟩,.slice a1 x.args.length n1,.slice a2 x.dirs.length n2,.slice a4 x.sels.length n4,.int .i64 x.at_]) (hc:x.cost≤1000000000) (s:Vl.Sh) (w:World) (h:WW w0 b s w) (hl:s.out.length+x.cost≤1000000000000) :
  Calls Tryz.prog 121 #[.pointer (some ⟨b,0,none⟩),.agg #[.int .i64 x.kind,.string ⟨x.nick.toArray⟩,.string ⟨x.name.toArray⟩,.slice a1 x.args.length n1,.slice a2 x.dirs.length n2,.slice a4 x.sels.length n4,.int .i64 x.at_],.int .i64 at_] w (BE w0 b s w (x.good at_) x.txt x.cost):=by
 have a0:=Dq.Sel.cost_eq x;have a8:=B8 x.dirs;obtain⟨y1,y2,y3,v1,v2,v3,ex,ah,ai,ak⟩:=Dq.Sel.opened hR;obtain⟨rfl,rfl,rfl,rfl,rfl,rfl⟩:a1=y1∧n1=v1∧a2=y2∧n2=v2∧a4=y3∧n4=v3:=by simpa [and_assoc] using ex
 clear ex hR;obtain⟨wb,B⟩:∃q,q=(w.alloc (.cells #[.int .i64 x.kind,.string ⟨x.nick.toArray⟩,.string ⟨x.name.toArray⟩,.slice a1 x.args.length n1,.slice a2 x.dirs.length n2,.slice a4 x.sels.length n4,.int .i64 x.at_] 174)):=⟨_,rfl⟩
 have H0:Hid (WW w0 b s wb):=by rw[B];exact QA (h.alloc (.cells #[.int .i64 x.kind,.string ⟨x.nick.toArray⟩,.string ⟨x.name.toArray⟩,.slice a1 x.args.length n1,.slice a2 x.dirs.length n2,.slice a4 x.sels.length n4,.int .i64 x.at_] 174))
 have O0:Hid (OK8 b w wb):=by rw[B];exact QA ((Lib.OthersKept.refl 5 (some b) w).alloc _)
 have Z0:Hid (w.heap.size≤wb.heap.size):=by rw[B];exact QA (by simp)
 have E0:=QA (Vl.Eff.refl s);have ag:Hid (wb.heap[w.heap.size]?=some (.cells #[.int .i64 x.kind,.string ⟨x.nick.toArray⟩,.string ⟨x.name.toArray⟩,.slice a1 x.args.length n1,.slice a2 x.dirs.length n2,.slice a4 x.sels.length n4,.int .i64 x.at_] 174 (0,0))):=by rw[B];exact QA (Bf w _ _)
 have C:w.heap.size≠b:=by have:=h.lt;omega
 have bd:w.heap.size+1=wb.heap.size:=by rw[B];simp
 have ay:=QA B;clear h B;have aX:=QA ah;have aD:=QA ai;have bB:=QA ak;have HE:=QA hE;have aT:=QA IH;have q1:(x.kind==1)=false:=by rw[beq_eq_false_iff_ne];omega
 have q2:(x.kind==2)=true:=by rw[beq_iff_eq];exact hk
 have q3:(x.kind==3)=false:=by rw[beq_eq_false_iff_ne];omega
 have HG:Hid (x.good at_=((Lx.isName x.name&&((decide (x.name≠[111,110])&&decide (x.sels.length=0))&&Dq.dirsG at_ x.dirs))&&(decide (x.nick=[])&&decide (x.args.length=0)))):=QA (by rw[Dq.Sel.good_eq,if_neg (by omega),if_pos hk]);have HT:Hid (x.txt=[46,46,46]++(x.name++Dq.dirsT x.dirs)):=QA (by rw[Dq.Sel.txt_eq,if_neg (by omega),if_pos hk]);obtain⟨bn,aF⟩:∃q,x.nick.isEmpty=q:=⟨_,rfl⟩
 obtain⟨bm,aI⟩:∃q,x.name.isEmpty=q:=⟨_,rfl⟩
 have aA:Hid (decide (x.nick=[])=bn∧(bn=true↔x.nick=[])):=QA (by rw[← aF];cases x.nick<;>simp);have a6:Hid (decide (x.name=[])=bm∧(bm=true↔x.name=[])):=QA (by rw[← aI];cases x.name<;>simp);obtain⟨ba,aE⟩:∃q,((x.args.length:Int)==0)=q:=⟨_,rfl⟩
 have aM:Hid (decide (x.args.length=0)=ba):=QA (by rw[← aE];by_cases h:x.args.length=0<;>simp[h]);obtain⟨bl,aG⟩:∃q,decide ((0:Int)<(x.sels.length:Int))=q:=⟨_,rfl⟩
 have A:decide (0<x.sels.length)=bl:=by rw[← aG,decide_eq_decide];omega
 have ap:Hid (decide (x.sels.length=0)=!bl∧(bl=true↔x.sels.length≠0)):=QA (by rw[← A];by_cases h:x.sels.length=0<;>simp[h];omega);have aQ:((x.sels.length:Int)==0)=!bl:=by
  by_cases h:x.sels.length=0
  ·rw[← A,h];rfl
  ·rw[← A,eqF (by omega),decide_eq_true (by omega)];rfl
 have aR:(x.sels.length==0)=!bl:=by
  by_cases h:x.sels.length=0
  ·rw[← A,h];rfl
  ·rw[← A,beq_eq_false_iff_ne.2 h,decide_eq_true (by omega)];rfl
 clear ah ai ak hE IH hk;obtain⟨bo,aK⟩:∃q,(x.name==[111,110])=q:=⟨_,rfl⟩
 have az:Hid (decide (x.name≠[111,110])=!bo):=QA (by rw[← aK];by_cases h:x.name=[111,110]<;>simp[h]);go_enter Tryz.func121,Tryz.ntmps121;obtain⟨L,D,M,ac,R,Q,aa⟩:=BW ag.out rfl rfl rfl rfl rfl rfl rfl;go_wp2_with fail;rw[← ay.out];refine (A8 w0 b s _ H0.out [46,46,46] (by show _+3≤_;omega)).mono ?_;rintro e w1 ⟨rfl,s1,h,e,o,z⟩;have aw:=e.len
 try simp only[QO,QS,ZC]at aw
 have H1:=QA h;have E1:=QA (E0.out.comp e);have O1:=QA (O0.out.trans o);have Z1:=QA (QR Z0.out z);have an:=QA (AD o ag.out C (by decide));clear L D M ac R Q aa;clear h e o z;obtain⟨N,J,ab,T,E,I,V⟩:=BW an.out rfl rfl rfl rfl rfl rfl rfl;go_wp2_with fail;refine (A1 w0 b s1 _ H1.out x.name (by omega)).mono ?_;rintro e w2 ⟨rfl,s2,h,e,o,z⟩;have aJ:=e.len
 try simp only[QO,QS,ZC]at aJ
 have H2:=QA h;have E2:=QA (E1.out.comp e);have O2:=QA (O1.out.trans o);have Z2:=QA (QR Z1.out z);have al:=QA (AD o an.out C (by decide));clear N J ab T E I V;clear h e o z;obtain⟨P,K,ae,H,F,Y,X⟩:=BW al.out rfl rfl rfl rfl rfl rfl rfl;cases bo<;>cases bl
 all_goals
  go_wp2_with fail;refine (H2.out.need _).mono ?_;rintro e w3 ⟨rfl,s3,h,e,o,z⟩;have a5:=e.len;have H3:=QA h;have E3:Hid (Vl.Eff s (Lx.isName x.name&&(decide (x.name≠[111,110])&&decide (x.sels.length=0))) ([46,46,46]++x.name) (3+x.name.length) s3):=QA ((E2.out.comp e).to (by rw[az.out,ap.out.1];simp) (λ_=>by simp) (by simp));have O3:=QA (O2.out.trans o);have Z3:=QA (QR Z2.out z);have aj:=QA (AD o al.out C (by decide));clear P K ae H F Y X;clear h e o z;obtain⟨U,ad,Z,S,O,W,G⟩:=BW aj.out rfl rfl rfl rfl rfl rfl rfl;go_wp2_with fail;refine (CQ w0 b HE.out h3 x.dirs at_ (by omega) a2 n2 aD.out (by omega) (by omega) s3 _ H3.out (by omega)).mono ?_;rintro e w4 ⟨rfl,s4,h,e,o,z⟩;have aC:=e.len
  try simp only[QO,QS,ZC]at aC
  have H4:=QA h;have E4:=QA (E3.out.comp e);have O4:=QA (O3.out.trans o);have Z4:=QA (QR Z3.out z);have aq:=QA (AD o aj.out C (by decide));clear U ad Z S O W G;clear h e o z;obtain⟨ar,au,ax,aH,aB,ao,aL⟩:=BW aq.out rfl rfl rfl rfl rfl rfl rfl;cases bn<;>cases ba
  all_goals
   go_wp2_with fail;refine (H4.out.need _).mono ?_;rintro e w5 ⟨rfl,s5,h,e,o,z⟩;have H5:=QA h;have E5:=QA (E4.out.comp e);have O5:=QA (O4.out.trans o);have Z5:=QA (QR Z4.out z);clear h e o z;go_wp2_with fail;go_end0;exact⟨rfl,s5,H5.out,E5.out.to (by first|(rw[HG.out,aA.out.1,aM.out];simp[Bool.and_assoc];done)|(rw[HG.out];rfl)) (λhgg=>by rw[HT.out];first|done|simp) (by first|(simp;done)|(simp;omega)),O5.out,Z5.out⟩
theorem Ph (w0:World) (b:Nat) (hE:Env w0) (h3:3≤w0.heap.size) (at_:Nat) (hat:at_≤16) (IH:Eo w0 b at_) (x:Dq.Sel) (hk:x.kind=3) (a1 a2 a4:Option Addr) (n1 n2 n4:Nat) (hR:Reads w0 (λ_=>True) x.d [.int .i64 x.kind,.string ⟨x.nick.toArray⟩,.string ⟨x.name.toArray⟩,.slice a1 x.args.length n1,.slice a2 x.dirs.length n2,.slice a4 x.sels.length n4,.int .i64 x.at_]) (hc:x.cost≤1000000000) (s:Vl.Sh) (w:World) (h:WW w0 b s w) (hl:s.out.length+x.cost≤1000000000000) :
  Calls Tryz.prog 121 #[.pointer (some ⟨b,0,none⟩),.agg #[.int .i64 x.kind,.string ⟨x.nick.toArray⟩,.string ⟨x.name.toArray⟩,.slice a1 x.args.length n1,.slice a2 x.dirs.length n2,.slice a4 x.sels.length n4,.int .i64 x.at_],.int .i64 at_] w (BE w0 b s w (x.good at_) x.txt x.cost):=by
 have bT:=Dq.Sel.cost_eq x;have bW:=B8 x.dirs;obtain⟨y1,y2,y3,v1,v2,v3,ex,aG,aH,aL⟩:=Dq.Sel.opened hR;obtain⟨rfl,rfl,rfl,rfl,rfl,rfl⟩:a1=y1∧n1=v1∧a2=y2∧n2=v2∧a4=y3∧n4=v3:=by simpa [and_assoc] using ex
 clear ex hR;obtain⟨wb,D⟩:∃q,q=(w.alloc (.cells #[.int .i64 x.kind,.string ⟨x.nick.toArray⟩,.string ⟨x.name.toArray⟩,.slice a1 x.args.length n1,.slice a2 x.dirs.length n2,.slice a4 x.sels.length n4,.int .i64 x.at_] 174)):=⟨_,rfl⟩
 have H0:Hid (WW w0 b s wb):=by rw[D];exact QA (h.alloc (.cells #[.int .i64 x.kind,.string ⟨x.nick.toArray⟩,.string ⟨x.name.toArray⟩,.slice a1 x.args.length n1,.slice a2 x.dirs.length n2,.slice a4 x.sels.length n4,.int .i64 x.at_] 174))
 have O0:Hid (OK8 b w wb):=by rw[D];exact QA ((Lib.OthersKept.refl 5 (some b) w).alloc _)
 have Z0:Hid (w.heap.size≤wb.heap.size):=by rw[D];exact QA (by simp)
 have E0:=QA (Vl.Eff.refl s);have aE:Hid (wb.heap[w.heap.size]?=some (.cells #[.int .i64 x.kind,.string ⟨x.nick.toArray⟩,.string ⟨x.name.toArray⟩,.slice a1 x.args.length n1,.slice a2 x.dirs.length n2,.slice a4 x.sels.length n4,.int .i64 x.at_] 174 (0,0))):=by rw[D];exact QA (Bf w _ _)
 have K:w.heap.size≠b:=by have:=h.lt;omega
 have bZ:w.heap.size+1=wb.heap.size:=by rw[D];simp
 have a6:=QA D;clear h D;have bQ:=QA aG;have bh:=QA aH;have bu:=QA aL;have HE:=QA hE;have aX:=QA IH;have q1:(x.kind==1)=false:=by rw[beq_eq_false_iff_ne];omega
 have q2:(x.kind==2)=false:=by rw[beq_eq_false_iff_ne];omega
 have q3:(x.kind==3)=true:=by rw[beq_iff_eq];exact hk
 have HG:Hid (x.good at_=((Dq.nmG x.name&&(Dq.dirsG at_ x.dirs&&Dq.selsG at_ x.sels))&&(decide (x.nick=[])&&decide (x.args.length=0)))):=QA (by rw[Dq.Sel.good_eq,if_neg (by omega),if_neg (by omega),if_pos hk]);have HT:Hid (x.txt=[46,46,46]++(Dq.nmT x.name [32,111,110,32] []++(Dq.dirsT x.dirs++([32]++Dq.selsT x.sels)))):=QA (by rw[Dq.Sel.txt_eq,if_neg (by omega),if_neg (by omega),if_pos hk]);obtain⟨bn,bo⟩:∃q,x.nick.isEmpty=q:=⟨_,rfl⟩
 obtain⟨bm,bt⟩:∃q,x.name.isEmpty=q:=⟨_,rfl⟩
 have be:Hid (decide (x.nick=[])=bn∧(bn=true↔x.nick=[])):=QA (by rw[← bo];cases x.nick<;>simp);have A:Hid (decide (x.name=[])=bm∧(bm=true↔x.name=[])):=QA (by rw[← bt];cases x.name<;>simp);obtain⟨ba,bj⟩:∃q,((x.args.length:Int)==0)=q:=⟨_,rfl⟩
 have bw:Hid (decide (x.args.length=0)=ba):=QA (by rw[← bj];by_cases h:x.args.length=0<;>simp[h]);obtain⟨bl,bs⟩:∃q,decide ((0:Int)<(x.sels.length:Int))=q:=⟨_,rfl⟩
 have B:decide (0<x.sels.length)=bl:=by rw[← bs,decide_eq_decide];omega
 have bN:Hid (decide (x.sels.length=0)=!bl∧(bl=true↔x.sels.length≠0)):=QA (by rw[← B];by_cases h:x.sels.length=0<;>simp[h];omega);have bH:((x.sels.length:Int)==0)=!bl:=by
  by_cases h:x.sels.length=0
  ·rw[← B,h];rfl
  ·rw[← B,eqF (by omega),decide_eq_true (by omega)];rfl
 have bJ:(x.sels.length==0)=!bl:=by
  by_cases h:x.sels.length=0
  ·rw[← B,h];rfl
  ·rw[← B,beq_eq_false_iff_ne.2 h,decide_eq_true (by omega)];rfl
 clear aG aH aL hE IH hk;go_enter Tryz.func121,Tryz.ntmps121;obtain⟨am,ag,an,aC,ax,ar,aB⟩:=BW aE.out rfl rfl rfl rfl rfl rfl rfl;go_wp2_with fail;rw[← a6.out];refine (A8 w0 b s _ H0.out [46,46,46] (by show _+3≤_;omega)).mono ?_;rintro e w1 ⟨rfl,s1,h,e,o,z⟩;have aY:=e.len
 try simp only[QO,QS,ZC]at aY
 have H1:=QA h;have E1:=QA (E0.out.comp e);have O1:=QA (O0.out.trans o);have Z1:=QA (QR Z0.out z);have ac:=QA (AD o aE.out K (by decide));clear am ag an aC ax ar aB;clear h e o z;cases bm
 focus
  obtain⟨G,F,J,H,C,E,I⟩:=BW ac.out rfl rfl rfl rfl rfl rfl rfl;go_wp2_with fail;refine (A8 w0 b s1 _ H1.out [32,111,110,32] (by show _+4≤_;omega)).mono ?_;rintro e w2 ⟨rfl,s2,h,e,o,z⟩;have bv:=e.len
  try simp only[QO,QS,ZC]at bv
  have H2:=QA h;have E2:=QA (E1.out.comp e);have O2:=QA (O1.out.trans o);have Z2:=QA (QR Z1.out z);have aM:=QA (AD o ac.out K (by decide));clear G F J H C E I;clear h e o z;obtain⟨aq,ak,aD,aj,ai,aA,ay⟩:=BW aM.out rfl rfl rfl rfl rfl rfl rfl;go_wp2_with fail;refine (A1 w0 b s2 _ H2.out x.name (by omega)).mono ?_;rintro e w3 ⟨rfl,s3,h,e,o,z⟩;have aZ:=e.len
  try simp only[QO,QS,ZC]at aZ
  have H3:=QA h;have E3:=QA (E2.out.comp e);have O3:=QA (O2.out.trans o);have Z3:=QA (QR Z2.out z);have a8:=QA (AD o aM.out K (by decide));clear aq ak aD aj ai aA ay;clear h e o z;obtain⟨X,L⟩:∃q,q=w3:=⟨_,rfl⟩
  obtain⟨s9,S⟩:∃q,q=s3:=⟨_,rfl⟩
  have H9:Hid (WW w0 b s9 X):=by rw[S,L];exact QA H3.out
  have E9:Hid (Vl.Eff s (Dq.nmG x.name) ([46,46,46]++Dq.nmT x.name [32,111,110,32] []) (7+x.name.length) s9):=by rw[S];exact QA (E3.out.to (by first|(rw[Dq.nmG,A.out.1];simp)|(rw[Dq.nmT,if_neg (λe=>absurd (A.out.2.2 e) (by simp))];simp)) (λ_=>by first|(rw[Dq.nmG,A.out.1];simp)|(rw[Dq.nmT,if_neg (λe=>absurd (A.out.2.2 e) (by simp))];simp)) (by first|omega|(simp;done)|(simp;omega)))
  have O9:Hid (OK8 b w X):=by rw[L];exact QA O3.out
  have Z9:Hid (w.heap.size≤X.heap.size):=by rw[L];exact QA Z3.out
  have bA:s9.out.length≤s.out.length+(7+x.name.length):=by rw[S];omega
  have aw:Hid (X.heap[w.heap.size]?=some (.cells #[.int .i64 x.kind,.string ⟨x.nick.toArray⟩,.string ⟨x.name.toArray⟩,.slice a1 x.args.length n1,.slice a2 x.dirs.length n2,.slice a4 x.sels.length n4,.int .i64 x.at_] 174 (0,0))):=by rw[L];exact QA a8.out
  rw[← L];clear L S
 rotate_left
 focus
  obtain⟨G,F,J,H,C,E,I⟩:=BW ac.out rfl rfl rfl rfl rfl rfl rfl;go_wp2_with fail;clear G F J H C E I;obtain⟨X,L⟩:∃q,q=w1:=⟨_,rfl⟩
  obtain⟨s9,S⟩:∃q,q=s1:=⟨_,rfl⟩
  have H9:Hid (WW w0 b s9 X):=by rw[S,L];exact QA H1.out
  have E9:Hid (Vl.Eff s (Dq.nmG x.name) ([46,46,46]++Dq.nmT x.name [32,111,110,32] []) (7+x.name.length) s9):=by rw[S];exact QA (E1.out.to (by first|(rw[Dq.nmG,A.out.1];rfl)|(rw[Dq.nmT,if_pos (A.out.2.1 (by trivial))];simp)) (λ_=>by first|(rw[Dq.nmG,A.out.1];rfl)|(rw[Dq.nmT,if_pos (A.out.2.1 (by trivial))];simp)) (by first|omega|(simp;done)|(simp;omega)))
  have O9:Hid (OK8 b w X):=by rw[L];exact QA O1.out
  have Z9:Hid (w.heap.size≤X.heap.size):=by rw[L];exact QA Z1.out
  have bA:s9.out.length≤s.out.length+(7+x.name.length):=by rw[S];omega
  have aw:Hid (X.heap[w.heap.size]?=some (.cells #[.int .i64 x.kind,.string ⟨x.nick.toArray⟩,.string ⟨x.name.toArray⟩,.slice a1 x.args.length n1,.slice a2 x.dirs.length n2,.slice a4 x.sels.length n4,.int .i64 x.at_] 174 (0,0))):=by rw[L];exact QA ac.out
  rw[← L];clear L S
 all_goals
  obtain⟨ao,ah,ap,av,au,az,al⟩:=BW aw.out rfl rfl rfl rfl rfl rfl rfl;go_wp2_with fail;refine (CQ w0 b HE.out h3 x.dirs at_ (by omega) a2 n2 bh.out (by omega) (by omega) s9 _ H9.out (by omega)).mono ?_;rintro e w10 ⟨rfl,s10,h,e,o,z⟩;have aI:=e.len
  try simp only[QO,QS,ZC]at aI
  have bk:=QA h;have bx:=QA (E9.out.comp e);have a3:=QA (O9.out.trans o);have bi:=QA (QR Z9.out z);have af:=QA (AD o aw.out K (by decide));clear ao ah ap av au az al;clear h e o z;obtain⟨P,U,Z,T,aa,N,V⟩:=BW af.out rfl rfl rfl rfl rfl rfl rfl;go_wp2_with fail;refine (A8 w0 b s10 _ bk.out [32] (by show _+1≤_;omega)).mono ?_;rintro e w11 ⟨rfl,s11,h,e,o,z⟩;have aN:=e.len
  try simp only[QO,QS,ZC]at aN
  have bg:=QA h;have bz:=QA (bx.out.comp e);have bc:=QA (a3.out.trans o);have a7:=QA (QR bi.out z);have ae:=QA (AD o af.out K (by decide));clear P U Z T aa N V;clear h e o z;obtain⟨M,O,R,Q,W,Y,ab⟩:=BW ae.out rfl rfl rfl rfl rfl rfl rfl;go_wp2_with fail;refine (aX.out x.sels a4 n4 bu.out (by omega) s11 _ bg.out (by omega)).mono ?_;rintro e w12 ⟨rfl,s12,h,e,o,z⟩;have aK:=e.len
  try simp only[QO,QS,ZC]at aK
  have bd:=QA h;have a9:=QA (bz.out.comp e);have a5:=QA (bc.out.trans o);have bf:=QA (QR a7.out z);have aF:=QA (AD o ae.out K (by decide));clear M O R Q W Y ab;clear h e o z;obtain⟨aS,aV,aQ,aR,aU,aT,aP⟩:=BW aF.out rfl rfl rfl rfl rfl rfl rfl;cases bn<;>cases ba
  all_goals
   go_wp2_with fail;refine (bd.out.need _).mono ?_;rintro e w13 ⟨rfl,s13,h,e,o,z⟩;have a0:=QA h;have bq:=QA (a9.out.comp e);have br:=QA (a5.out.trans o);have bb:=QA (QR bf.out z);clear h e o z;go_wp2_with fail;go_end0;exact⟨rfl,s13,a0.out,bq.out.to (by first|(rw[HG.out,be.out.1,bw.out];simp[Bool.and_assoc];done)|(rw[HG.out];rfl)) (λhgg=>by rw[HT.out];first|done|simp) (by first|(simp;done)|(simp;omega)),br.out,bb.out⟩
theorem Po (w0:World) (b:Nat) (hE:Env w0) (h3:3≤w0.heap.size) (at_:Nat) (hat:at_≤16) (IH:Eo w0 b at_) (x:Dq.Sel) (hk:¬(x.kind=1∨x.kind=2∨x.kind=3)) (a1 a2 a4:Option Addr) (n1 n2 n4:Nat) (hR:Reads w0 (λ_=>True) x.d [.int .i64 x.kind,.string ⟨x.nick.toArray⟩,.string ⟨x.name.toArray⟩,.slice a1 x.args.length n1,.slice a2 x.dirs.length n2,.slice a4 x.sels.length n4,.int .i64 x.at_]) (hc:x.cost≤1000000000) (s:Vl.Sh) (w:World) (h:WW w0 b s w) (hl:s.out.length+x.cost≤1000000000000) :
  Calls Tryz.prog 121 #[.pointer (some ⟨b,0,none⟩),.agg #[.int .i64 x.kind,.string ⟨x.nick.toArray⟩,.string ⟨x.name.toArray⟩,.slice a1 x.args.length n1,.slice a2 x.dirs.length n2,.slice a4 x.sels.length n4,.int .i64 x.at_],.int .i64 at_] w (BE w0 b s w (x.good at_) x.txt x.cost):=by
 have aI:=Dq.Sel.cost_eq x;have aP:=B8 x.dirs;obtain⟨y1,y2,y3,v1,v2,v3,ex,N,O,J⟩:=Dq.Sel.opened hR;obtain⟨rfl,rfl,rfl,rfl,rfl,rfl⟩:a1=y1∧n1=v1∧a2=y2∧n2=v2∧a4=y3∧n4=v3:=by simpa [and_assoc] using ex
 clear ex hR;obtain⟨K,B⟩:∃q,q=(w.alloc (.cells #[.int .i64 x.kind,.string ⟨x.nick.toArray⟩,.string ⟨x.name.toArray⟩,.slice a1 x.args.length n1,.slice a2 x.dirs.length n2,.slice a4 x.sels.length n4,.int .i64 x.at_] 174)):=⟨_,rfl⟩
 have H0:Hid (WW w0 b s K):=by rw[B];exact QA (h.alloc (.cells #[.int .i64 x.kind,.string ⟨x.nick.toArray⟩,.string ⟨x.name.toArray⟩,.slice a1 x.args.length n1,.slice a2 x.dirs.length n2,.slice a4 x.sels.length n4,.int .i64 x.at_] 174))
 have O0:Hid (OK8 b w K):=by rw[B];exact QA ((Lib.OthersKept.refl 5 (some b) w).alloc _)
 have Z0:Hid (w.heap.size≤K.heap.size):=by rw[B];exact QA (by simp)
 have E0:=QA (Vl.Eff.refl s);have M:Hid (K.heap[w.heap.size]?=some (.cells #[.int .i64 x.kind,.string ⟨x.nick.toArray⟩,.string ⟨x.name.toArray⟩,.slice a1 x.args.length n1,.slice a2 x.dirs.length n2,.slice a4 x.sels.length n4,.int .i64 x.at_] 174 (0,0))):=by rw[B];exact QA (Bf w _ _)
 have Q:w.heap.size≠b:=by have:=h.lt;omega
 have ax:w.heap.size+1=K.heap.size:=by rw[B];simp
 have S:=QA B;clear h B;have aA:=QA N;have aq:=QA O;have ay:=QA J;have HE:=QA hE;have ar:=QA IH;have q1:(x.kind==1)=false:=by rw[beq_eq_false_iff_ne];omega
 have q2:(x.kind==2)=false:=by rw[beq_eq_false_iff_ne];omega
 have q3:(x.kind==3)=false:=by rw[beq_eq_false_iff_ne];omega
 have HG:Hid (x.good at_=(false)):=QA (by rw[Dq.Sel.good_eq,if_neg (by omega),if_neg (by omega),if_neg (by omega)]);have HT:Hid (x.txt=[]):=QA (by rw[Dq.Sel.txt_eq,if_neg (by omega),if_neg (by omega),if_neg (by omega)]);obtain⟨R,X⟩:∃q,x.nick.isEmpty=q:=⟨_,rfl⟩
 obtain⟨bm,T⟩:∃q,x.name.isEmpty=q:=⟨_,rfl⟩
 have ae:Hid (decide (x.nick=[])=R∧(R=true↔x.nick=[])):=QA (by rw[← X];cases x.nick<;>simp);have aN:Hid (decide (x.name=[])=bm∧(bm=true↔x.name=[])):=QA (by rw[← T];cases x.name<;>simp);obtain⟨ba,U⟩:∃q,((x.args.length:Int)==0)=q:=⟨_,rfl⟩
 have Z:Hid (decide (x.args.length=0)=ba):=QA (by rw[← U];by_cases h:x.args.length=0<;>simp[h]);obtain⟨L,ag⟩:∃q,decide ((0:Int)<(x.sels.length:Int))=q:=⟨_,rfl⟩
 have A:decide (0<x.sels.length)=L:=by rw[← ag,decide_eq_decide];omega
 have an:Hid (decide (x.sels.length=0)=!L∧(L=true↔x.sels.length≠0)):=QA (by rw[← A];by_cases h:x.sels.length=0<;>simp[h];omega);have al:((x.sels.length:Int)==0)=!L:=by
  by_cases h:x.sels.length=0
  ·rw[← A,h];rfl
  ·rw[← A,eqF (by omega),decide_eq_true (by omega)];rfl
 have ah:(x.sels.length==0)=!L:=by
  by_cases h:x.sels.length=0
  ·rw[← A,h];rfl
  ·rw[← A,beq_eq_false_iff_ne.2 h,decide_eq_true (by omega)];rfl
 clear N O J hE IH hk;go_enter Tryz.func121,Tryz.ntmps121;obtain⟨E,C,F,I,D,H,G⟩:=BW M.out rfl rfl rfl rfl rfl rfl rfl;go_wp2_with fail;rw[← S.out];refine (H0.out.need (false)).mono ?_;rintro e w1 ⟨rfl,s1,h,e,o,z⟩;have W:=e.len
 try simp only[QO,QS,ZC]at W
 have H1:=QA h;have E1:=QA (E0.out.comp e);have O1:=QA (O0.out.trans o);have Z1:=QA (QR Z0.out z);have aa:=QA (AD o M.out Q (by decide));clear E C F I D H G;clear h e o z;obtain⟨V,af,ab,Y,P,ac,ad⟩:=BW aa.out rfl rfl rfl rfl rfl rfl rfl;cases R<;>cases ba
 all_goals
  go_wp2_with fail;refine (H1.out.need _).mono ?_;rintro e w2 ⟨rfl,s2,h,e,o,z⟩;have H2:=QA h;have E2:=QA (E1.out.comp e);have O2:=QA (O1.out.trans o);have Z2:=QA (QR Z1.out z);clear h e o z;go_wp2_with fail;go_end0;exact⟨rfl,s2,H2.out,E2.out.to (by first|(rw[HG.out,ae.out.1,Z.out];simp[Bool.and_assoc];done)|(rw[HG.out];rfl)) (λhgg=>by rw[HT.out];first|done|simp) (by first|(simp;done)|(simp;omega)),O2.out,Z2.out⟩
theorem Lm (w0:World) (b:Nat) (hE:Env w0) (h3:3≤w0.heap.size) (at_:Nat) (hat:at_≤16) (IH:Eo w0 b at_):Ol w0 b at_:=by
 intro x a1 a2 a4 n1 n2 n4 hR hc s w h hl D hD;subst hD;by_cases h1:x.kind=1
 ·exact Pz w0 b hE h3 at_ hat IH x h1 a1 a2 a4 n1 n2 n4 hR hc s w h hl
 by_cases h2:x.kind=2
 ·exact Pv w0 b hE h3 at_ hat IH x h2 a1 a2 a4 n1 n2 n4 hR hc s w h hl
 by_cases h4:x.kind=3
 ·exact Ph w0 b hE h3 at_ hat IH x h4 a1 a2 a4 n1 n2 n4 hR hc s w h hl
 ·exact Po w0 b hE h3 at_ hat IH x (by omega) a1 a2 a4 n1 n2 n4 hR hc s w h hl
theorem EB (w0:World) (b:Nat) (hE:Env w0) (h3:3≤w0.heap.size):∀(n at_:Nat),at_+n=16→Eo w0 b at_
 | 0,at_,h=>Ez w0 b hE h3 at_ (by omega) (λh=>absurd h (by omega))
 | n+1,at_,h=>Ez w0 b hE h3 at_ (by omega) (λh2=>Lm w0 b hE h3 (at_+1) (by omega) (EB w0 b hE h3 n (at_+1) (by omega)))
end Go.Proofs.YtefjgpkpplkkgaaGreatDoor
