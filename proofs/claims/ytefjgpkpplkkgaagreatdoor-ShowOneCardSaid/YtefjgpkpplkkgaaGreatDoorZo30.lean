/-
  The writer of documents: variables, operations, walked.
-/
import Derived.Test.YtefjgpkpplkkgaaGreatDoorZo29
open Array renaming getInternal_eq_getElem → QD
open Go.Lib renaming hid → QA
open List renaming setIfInBounds_toArray → QC, drop_succ_cons → QE, take_succ_cons → QF, set_cons_succ → QG, set_cons_zero → QH, getElem_cons_zero → QI, getElem_cons_succ → QJ, getElem_toArray → QK, drop_zero → QL, take_zero → QN, length_cons → QO, length_nil → QS, take_length → ZI
open Nat renaming le_refl → QM, le_trans → QR, reduceAdd → ZB, add_zero → ZC
namespace Go.Proofs.YtefjgpkpplkkgaaGreatDoor
set_option maxRecDepth 100000
set_option maxHeartbeats 4000000
set_option linter.unusedSimpArgs false
set_option linter.unusedVariables false
open Go Go.RowKit
theorem Ld (cap:Array Value) (w:World) (i:Int):Sem.run Tryz.prog (callFunc 116 (#[.int .i64 i]++cap)) w=.ok (.enter 116 (#[.int .i64 i]++cap)) w:=by kernel_rfl
theorem MU (w0:World) (b:Nat) (hE:Env w0) (h3:3≤w0.heap.size) (y:Dq.Op) (v1 v2 v4:Option Addr) (m1 m2 m4:Nat) (hR:Reads w0 (λ_=>True) (.seq 9 (y.vars.map Dq.Var.d)) [.slice v1 y.vars.length m1]) (t1 t2:Nat) (n1':t1≠b) (n2':t2≠b)
  (i:Nat) (x:Dq.Var) (hx:y.vars[i]?=some x) (hc:Dq.varC x≤1000000000) (hll:y.vars.length≤1000000000) (s:Vl.Sh) (w:World) (h:WW w0 b s w) (h1':w.heap[t1]?=some (.cells #[.pointer (some ⟨b,0,none⟩)] 175 (0,0))) (h2':w.heap[t2]?=some (.cells #[.int .i64 y.kind,.string ⟨y.name.toArray⟩,.slice v1 y.vars.length m1,.slice v2 y.dirs.length m2,.slice v4 y.sels.length m4,.int .i64 y.at_] 96 (0,0)))
  (hl:s.out.length+Dq.varC x≤1000000000000) :
  Calls Tryz.prog 116 (#[.int .i64 i]++#[.pointer (some ⟨t1,0,none⟩),.pointer (some ⟨t2,0,none⟩)]) w (BE w0 b s w (Dq.varG x) (Dq.varT x) (Dq.varC x)):=by
 have bc:i<y.vars.length:=by
  rcases Nat.lt_or_ge i y.vars.length with h'|h'
  ·exact h'
  ·rw[List.getElem?_eq_none h']at hx;cases hx
 have br:Dq.varC x=6+x.name.length+x.type.length+x.dflt.cost:=rfl;obtain⟨g,C,cs,ha,-,B,aT,A,hd⟩:=hR.el i x.d (by rw[List.getElem?_map,hx];rfl);obtain⟨a1,a2,n1,n2,rfl,aM⟩:=Dq.Var.opened hd;subst ha;have D:Hid (∀(w':World),Below w0.heap.size w0 w'→(w'.cell? ⟨g,C+i*9,none⟩=some (.string ⟨x.name.toArray⟩)∧w'.cell? ⟨g,C+i*9+1,none⟩=some (.string ⟨x.type.toArray⟩)∧w'.cell? ⟨g,C+i*9+2,none⟩=some (.bool x.has)∧w'.cell? ⟨g,C+i*9+3,none⟩=some (.int .i64 x.dflt.kind)∧w'.cell? ⟨g,C+i*9+4,none⟩=some (.string ⟨x.dflt.text.toArray⟩)∧w'.cell? ⟨g,C+i*9+5,none⟩=some (.slice a1 x.dflt.items.length n1)∧w'.cell? ⟨g,C+i*9+6,none⟩=some (.slice a2 x.dflt.fields.length n2)∧w'.cell? ⟨g,C+i*9+7,none⟩=some (.int .i64 x.dflt.at_))):=QA (λw' hb =>
  ⟨(hb.cell (p:=⟨g,C+i*9,none⟩) B).trans (A 0 _ rfl),(hb.cell (p:=⟨g,C+i*9+1,none⟩) B).trans (A 1 _ rfl),(hb.cell (p:=⟨g,C+i*9+2,none⟩) B).trans (A 2 _ rfl),(hb.cell (p:=⟨g,C+i*9+3,none⟩) B).trans (A 3 _ rfl),(hb.cell (p:=⟨g,C+i*9+4,none⟩) B).trans (A 4 _ rfl),(hb.cell (p:=⟨g,C+i*9+5,none⟩) B).trans (A 5 _ rfl),(hb.cell (p:=⟨g,C+i*9+6,none⟩) B).trans (A 6 _ rfl),(hb.cell (p:=⟨g,C+i*9+7,none⟩) B).trans (A 7 _ rfl)⟩)
 have HR:=QA aM;have e9:decide (i<y.vars.length)=true:=decide_eq_true bc;have H0:=QA h;have E0:=QA (Vl.Eff.refl s);have O0:=QA (Lib.OthersKept.refl 5 (some b) w);have Z0:=QA (QM w.heap.size);have aP:=QA h1';have aO:=QA h2';have HE:=QA hE;clear h h1' h2' hd aM A aT hR hE hx B;show Calls Tryz.prog 116 #[.int .i64 i,.pointer (some ⟨t1,0,none⟩),.pointer (some ⟨t2,0,none⟩)] w _;go_enter Tryz.func116,Tryz.ntmps116;have P:=AA aP.out 0 (.pointer (some ⟨b,0,none⟩)) rfl;obtain⟨Z,ak,az,ay,ao,ar⟩:=BQ aO.out rfl rfl rfl rfl rfl rfl;go_wp2_with fail;refine (A8 w0 b s _ H0.out [36] (by show _+1≤_;omega)).mono ?_;rintro e w1 ⟨rfl,s1,h,e,o,z⟩;have ba:=e.len
 try simp only[QO,QS,ZC]at ba
 have H1:=QA h;have E1:=QA (E0.out.comp e);have O1:=QA (O0.out.trans o);have Z1:=QA (QR Z0.out z);have aS:=QA (AD o aP.out n1' (by decide));have aU:=QA (AD o aO.out n2' (by decide));clear P Z ak az ay ao ar;clear h e o z;obtain⟨k0,k1,k2,k3,k4,k5,k6,k7⟩:=D.out w1 H1.out.bel;have U:=AA aS.out 0 (.pointer (some ⟨b,0,none⟩)) rfl;obtain⟨aF,aH,aB,au,al,W⟩:=BQ aU.out rfl rfl rfl rfl rfl rfl;go_wp2_with fail;refine AF [7] (by kernel_rfl) (by kernel_rfl) ?_;simp only[Ae,QF,QN,QE,QL,Nat.sub_zero,Nat.reduceSub,ZB]
 repeat (go_big_quiet_step (fail))
 refine wpQuiet_nil ?_;rintro _ ⟨nq,rfl⟩;go_wp2_with fail;refine (A1 w0 b s1 _ (H1.out.drewN nq) x.name (by omega)).mono ?_;rintro e w2 ⟨rfl,s2,h,e,o,z⟩;have o:OK8 b w1 w2:=o;have z:(w1).heap.size≤w2.heap.size:=z;have be:=e.len
 try simp only[QO,QS,ZC]at be
 have H2:=QA h;have E2:=QA (E1.out.comp e);have O2:=QA (O1.out.trans o);have Z2:=QA (QR Z1.out z);have I:=QA (AD o aS.out n1' (by decide));have N:=QA (AD o aU.out n2' (by decide));clear U aF aH aB au al W;clear h e o z;go_wp2_with fail;refine wpQuiet_nil ?_;rintro _ ⟨nr,rfl⟩;obtain⟨bp,O⟩:∃q,q=w2.drewN nr:=⟨_,rfl⟩
 have Y:=H2.out.drewN nr;have X:OK8 b w (w2.drewN nr):=O2.out;have an:w.heap.size≤(w2.drewN nr).heap.size:=Z2.out;have E:(w2.drewN nr).heap[t1]?=_:=I.out;have J:(w2.drewN nr).heap[t2]?=_:=N.out;rw[← O]at Y X an E J ⊢;clear H2 O2 Z2 I N;have H2:=QA Y;have O2:=QA X;have Z2:=QA an;have I:=QA E;have N:=QA J;clear O Y X an E J;clear k0 k1 k2 k3 k4 k5 k6 k7;have R:=AA I.out 0 (.pointer (some ⟨b,0,none⟩)) rfl;obtain⟨ah,aG,Q,aJ,aC,ai⟩:=BQ N.out rfl rfl rfl rfl rfl rfl;go_wp2_with fail;refine (A8 w0 b s2 _ H2.out [58,32] (by show _+2≤_;omega)).mono ?_;rintro e w3 ⟨rfl,s3,h,e,o,z⟩;have bb:=e.len
 try simp only[QO,QS,ZC]at bb
 have H3:=QA h;have E3:=QA (E2.out.comp e);have O3:=QA (O2.out.trans o);have Z3:=QA (QR Z2.out z);have aQ:=QA (AD o I.out n1' (by decide));have aN:=QA (AD o N.out n2' (by decide));clear R ah aG Q aJ aC ai;clear h e o z;obtain⟨k0,k1,k2,k3,k4,k5,k6,k7⟩:=D.out w3 H3.out.bel;have ap:=AA aQ.out 0 (.pointer (some ⟨b,0,none⟩)) rfl;obtain⟨aq,av,aj,ax,S,aw⟩:=BQ aN.out rfl rfl rfl rfl rfl rfl;go_wp2_with fail;refine AF [7] (by kernel_rfl) (by kernel_rfl) ?_;simp only[Ae,QF,QN,QE,QL,Nat.sub_zero,Nat.reduceSub,ZB]
 repeat (go_big_quiet_step (fail))
 refine wpQuiet_nil ?_;rintro _ ⟨nq,rfl⟩;go_wp2_with fail;refine (Lj w0 b s3 _ (H3.out.drewN nq) HE.out h3 x.type (by omega) (by omega)).mono ?_;rintro e w4 ⟨rfl,s4,h,e,o,z⟩;have o:OK8 b w3 w4:=o;have z:(w3).heap.size≤w4.heap.size:=z;have bd:=e.len
 try simp only[QO,QS,ZC]at bd
 have H4:=QA h;have E4:=QA (E3.out.comp e);have O4:=QA (O3.out.trans o);have Z4:=QA (QR Z3.out z);have F:=QA (AD o aQ.out n1' (by decide));have M:=QA (AD o aN.out n2' (by decide));clear ap aq av aj ax S aw;clear h e o z;go_wp2_with fail;refine wpQuiet_nil ?_;rintro _ ⟨nr,rfl⟩;obtain⟨am,O⟩:∃q,q=w4.drewN nr:=⟨_,rfl⟩
 have af:=H4.out.drewN nr;have ag:OK8 b w (w4.drewN nr):=O4.out;have aI:w.heap.size≤(w4.drewN nr).heap.size:=Z4.out;have K:(w4.drewN nr).heap[t1]?=_:=F.out;have H:(w4.drewN nr).heap[t2]?=_:=M.out;rw[← O]at af ag aI K H ⊢;clear H4 O4 Z4 F M;have H4:=QA af;have O4:=QA ag;have Z4:=QA aI;have F:=QA K;have M:=QA H;clear O af ag aI K H;clear k0 k1 k2 k3 k4 k5 k6 k7;obtain⟨k0,k1,k2,k3,k4,k5,k6,k7⟩:=D.out am H4.out.bel;have ad:=AA F.out 0 (.pointer (some ⟨b,0,none⟩)) rfl;obtain⟨aD,aE,T,V,aK,aa⟩:=BQ M.out rfl rfl rfl rfl rfl rfl;go_wp2_with fail;refine AF [13] (by kernel_rfl) (by kernel_rfl) ?_;simp only[Ae,QF,QN,QE,QL,Nat.sub_zero,Nat.reduceSub,ZB]
 repeat (go_big_quiet_step (fail))
 refine wpQuiet_nil ?_;rintro _ ⟨nq,rfl⟩;go_wp2_with fail;refine (JO w0 b HE.out h3 s4 _ (H4.out.drewN nq) x.has x.dflt (by omega) a1 a2 n1 n2 HR.out (by omega)).mono ?_;rintro e w5 ⟨rfl,s5,h,e,o,z⟩;have o:OK8 b am w5:=o;have z:(am).heap.size≤w5.heap.size:=z;have bf:=e.len
 try simp only[QO,QS,ZC]at bf
 have H5:=QA h;have E5:=QA (E4.out.comp e);have O5:=QA (O4.out.trans o);have Z5:=QA (QR Z4.out z);have aL:=QA (AD o F.out n1' (by decide));have ae:=QA (AD o M.out n2' (by decide));clear ad aD aE T V aK aa;clear h e o z;go_wp2_with fail;refine wpQuiet_nil ?_;rintro _ ⟨nr,rfl⟩;obtain⟨bD,O⟩:∃q,q=w5.drewN nr:=⟨_,rfl⟩
 have aA:=H5.out.drewN nr;have ab:OK8 b w (w5.drewN nr):=O5.out;have ac:w.heap.size≤(w5.drewN nr).heap.size:=Z5.out;have L:(w5.drewN nr).heap[t1]?=_:=aL.out;have G:(w5.drewN nr).heap[t2]?=_:=ae.out;rw[← O]at aA ab ac L G ⊢;clear H5 O5 Z5 aL ae;have H5:=QA aA;have O5:=QA ab;have Z5:=QA ac;have aL:=QA L;have ae:=QA G;clear O aA ab ac L G;clear k0 k1 k2 k3 k4 k5 k6 k7;go_wp2_with fail;go_end0;exact⟨rfl,s5,H5.out,E5.out.to (by unfold Dq.varG;simp[Bool.and_assoc]) (λ_=>by unfold Dq.varT;simp) (by simp;omega),O5.out,Z5.out⟩
theorem Mf (l:List Dq.Var):l.length≤Vl.sumC Dq.varC 2 l∧∀x∈l,Dq.varC x≤Vl.sumC Dq.varC 2 l:=by
 refine⟨?_,λx hx=>by have:=Vl.sumC_mem Dq.varC 2 hx;omega⟩
 induction l with
 | nil=>exact Nat.zero_le _
 | cons x r ih=>rw[Vl.sumC,QO];omega
theorem N5 (w0:World) (b:Nat) (hE:Env w0) (h3:3≤w0.heap.size) (y:Dq.Op) (v1 v2 v4:Option Addr) (m1 m2 m4:Nat) (hR:Reads w0 (λ_=>True) y.d [.int .i64 y.kind,.string ⟨y.name.toArray⟩,.slice v1 y.vars.length m1,.slice v2 y.dirs.length m2,.slice v4 y.sels.length m4,.int .i64 y.at_]) (hc:Dq.opC y≤1000000000000) (hvc:Vl.sumC Dq.varC 2 y.vars≤1000000000∧Dq.dirsC y.dirs≤1000000000∧Dq.Sel.costs y.sels≤1000000000) (s:Vl.Sh) (w:World) (h:WW w0 b s w) (hl:s.out.length+Dq.opC y≤1000000000000) :
  Calls Tryz.prog 51 #[.pointer (some ⟨b,0,none⟩),.agg #[.int .i64 y.kind,.string ⟨y.name.toArray⟩,.slice v1 y.vars.length m1,.slice v2 y.dirs.length m2,.slice v4 y.sels.length m4,.int .i64 y.at_]] w (BE w0 b s w (Dq.opG y) (Dq.opT y) (Dq.opC y)):=by
 obtain⟨dt,dr,dv⟩:=hvc;have dx:Dq.opC y=20+y.name.length+Vl.sumC Dq.varC 2 y.vars+Dq.dirsC y.dirs+Dq.Sel.costs y.sels:=rfl;have dz:=B8 y.dirs;obtain⟨dC,co⟩:=Mf y.vars;have di:=QA co;obtain⟨y1,y2,y3,u1,u2,u3,ex,cv,cp,cA⟩:=Dq.Op.opened hR;obtain⟨rfl,rfl,rfl,rfl,rfl,rfl⟩:v1=y1∧m1=u1∧v2=y2∧m2=u2∧v4=y3∧m4=u3:=by simpa [and_assoc] using ex
 clear ex hR co;obtain⟨wb,aC⟩:∃q,q=((w.alloc (.cells #[.pointer (some ⟨b,0,none⟩)] 175)).alloc (.cells #[.int .i64 y.kind,.string ⟨y.name.toArray⟩,.slice v1 y.vars.length m1,.slice v2 y.dirs.length m2,.slice v4 y.sels.length m4,.int .i64 y.at_] 96)):=⟨_,rfl⟩
 have H0:Hid (WW w0 b s wb):=by rw[aC];exact QA ((h.alloc (.cells #[.pointer (some ⟨b,0,none⟩)] 175)).alloc (.cells #[.int .i64 y.kind,.string ⟨y.name.toArray⟩,.slice v1 y.vars.length m1,.slice v2 y.dirs.length m2,.slice v4 y.sels.length m4,.int .i64 y.at_] 96))
 have O0:Hid (OK8 b w wb):=by rw[aC];exact QA (((Lib.OthersKept.refl 5 (some b) w).alloc _).alloc _)
 have Z0:Hid (w.heap.size≤wb.heap.size):=by rw[aC];exact QA (by simp;omega)
 have E0:=QA (Vl.Eff.refl s);have aO:Hid (wb.heap[w.heap.size]?=some (.cells #[.pointer (some ⟨b,0,none⟩)] 175 (0,0))):=by rw[aC];exact QA (EC w _ _ _ _)
 have E:w.heap.size≠b:=by have:=h.lt;omega
 have aN:Hid (wb.heap[w.heap.size+1]?=some (.cells #[.int .i64 y.kind,.string ⟨y.name.toArray⟩,.slice v1 y.vars.length m1,.slice v2 y.dirs.length m2,.slice v4 y.sels.length m4,.int .i64 y.at_] 96 (0,0))):=by rw[aC];exact QA (B0 w _ _ _ _)
 have D:w.heap.size+1≠b:=by have:=h.lt;omega
 have dA:w.heap.size+2=wb.heap.size:=by rw[aC];simp
 have b4:=QA aC;clear h aC;have df:=QA cv;have c5:=QA cp;have dn:=QA cA;have HE:=QA hE;obtain⟨bm,dk⟩:∃q,y.name.isEmpty=q:=⟨_,rfl⟩
 have aD:Hid (decide (y.name=[])=bm∧(bm=true↔y.name=[])):=QA (by rw[← dk];cases y.name<;>simp);obtain⟨bl,de⟩:∃q,decide ((0:Int)<(y.vars.length:Int))=q:=⟨_,rfl⟩
 have cw:decide (0<y.vars.length)=bl:=by rw[← de,decide_eq_decide];omega
 have b1:Hid (bl=true↔y.vars.length≠0):=QA (by rw[← cw,decide_eq_true_iff];omega);clear cv cp cA hE;by_cases hq:1≤y.kind;rotate_left
 ·have f1:decide ((1:Int)≤y.kind)=false:=decide_eq_false hq;have HG:Hid (Dq.opG y=false):=QA (by unfold Dq.opG;rw[f1];rfl);clear hq;go_enter Tryz.func51,Tryz.ntmps51;have Y:=AA aO.out 0 (.pointer (some ⟨b,0,none⟩)) rfl;obtain⟨Z,ab,ag,af,ad,ae⟩:=BQ aN.out rfl rfl rfl rfl rfl rfl;go_wp2_with fail;rw[← b4.out];refine (H0.out.need (false)).mono ?_;rintro e w1 ⟨rfl,X,h,e,o,z⟩;have aQ:=e.len
  try simp only[QO,QS,ZC]at aQ
  have H1:=QA h;have E1:=QA (E0.out.comp e);have O1:=QA (O0.out.trans o);have Z1:=QA (QR Z0.out z);have I:=QA (AD o aO.out E (by decide));have M:=QA (AD o aN.out D (by decide));clear Y Z ab ag af ad ae;clear h e o z;have av:=H1.out.badCell;rw[C5 E1.out]at av;have F:=AA I.out 0 (.pointer (some ⟨b,0,none⟩)) rfl;obtain⟨O,P,N,L,J,G⟩:=BQ M.out rfl rfl rfl rfl rfl rfl;go_wp2_with fail;go_end0;exact⟨rfl,X,H1.out,E1.out.to (by rw[HG.out];rfl) (λe=>by rw[HG.out]at e;cases e) (by omega),O1.out,Z1.out⟩
 have f1:decide ((1:Int)≤y.kind)=true:=decide_eq_true hq;have g1:=hq;clear hq;by_cases hq:y.kind≤3;rotate_left
 ·have f2:decide (y.kind≤(3:Int))=false:=decide_eq_false hq;have HG:Hid (Dq.opG y=false):=QA (by unfold Dq.opG;rw[f2];simp);clear hq;go_enter Tryz.func51,Tryz.ntmps51;have Y:=AA aO.out 0 (.pointer (some ⟨b,0,none⟩)) rfl;obtain⟨Z,ab,ag,af,ad,ae⟩:=BQ aN.out rfl rfl rfl rfl rfl rfl;go_wp2_with fail;rw[← b4.out];refine (H0.out.need (false)).mono ?_;rintro e w1 ⟨rfl,X,h,e,o,z⟩;have aQ:=e.len
  try simp only[QO,QS,ZC]at aQ
  have H1:=QA h;have E1:=QA (E0.out.comp e);have O1:=QA (O0.out.trans o);have Z1:=QA (QR Z0.out z);have I:=QA (AD o aO.out E (by decide));have M:=QA (AD o aN.out D (by decide));clear Y Z ab ag af ad ae;clear h e o z;have av:=H1.out.badCell;rw[C5 E1.out]at av;have F:=AA I.out 0 (.pointer (some ⟨b,0,none⟩)) rfl;obtain⟨O,P,N,L,J,G⟩:=BQ M.out rfl rfl rfl rfl rfl rfl;go_wp2_with fail;go_end0;exact⟨rfl,X,H1.out,E1.out.to (by rw[HG.out];rfl) (λe=>by rw[HG.out]at e;cases e) (by omega),O1.out,Z1.out⟩
 have f2:decide (y.kind≤(3:Int))=true:=decide_eq_true hq;have g2:=hq;clear hq;have c4:Hid (y.kind=1∨y.kind=2∨y.kind=3):=QA (by omega);have HG:Hid (Dq.opG y=(Dq.nmG y.name&&(y.vars.all Dq.varG&&(Dq.dirsG 0 y.dirs&&Dq.selsG 0 y.sels)))):=QA (by unfold Dq.opG;rw[f1,f2];rfl);clear g1 g2;go_enter Tryz.func51,Tryz.ntmps51;have Y:=AA aO.out 0 (.pointer (some ⟨b,0,none⟩)) rfl;obtain⟨Z,ab,ag,af,ad,ae⟩:=BQ aN.out rfl rfl rfl rfl rfl rfl;go_wp2_with fail;rw[← b4.out];refine (H0.out.need (true)).mono ?_;rintro e w1 ⟨rfl,X,h,e,o,z⟩;have aQ:=e.len
 try simp only[QO,QS,ZC]at aQ
 have H1:=QA h;have E1:=QA (E0.out.comp e);have O1:=QA (O0.out.trans o);have Z1:=QA (QR Z0.out z);have I:=QA (AD o aO.out E (by decide));have M:=QA (AD o aN.out D (by decide));clear Y Z ab ag af ad ae;clear h e o z;have av:=H1.out.badCell;cases hbd:X.bad;rotate_left
 ·rw[hbd]at av;have dp:=QA hbd;clear hbd;have F:=AA I.out 0 (.pointer (some ⟨b,0,none⟩)) rfl;obtain⟨O,P,N,L,J,G⟩:=BQ M.out rfl rfl rfl rfl rfl rfl;go_wp2_with fail;go_end0;exact⟨rfl,X,H1.out,(E1.out.comp (Vl.Eff.skip dp.out (Dq.opG y) (Dq.opT y))).to (by simp) (λ_=>by simp) (by omega),O1.out,Z1.out⟩
 rw[hbd]at av;clear hbd;rcases c4.out with hk|hk|hk
 focus
  have K:Hid (∀w':World,Below w1.heap.size w1 w'→w'.cell? ⟨w.heap.size,0,none⟩=some (.pointer (some ⟨b,0,none⟩))∧w'.cell? ⟨w.heap.size+1,0,none⟩=some (.int .i64 1)):=QA (λw' hb=>⟨AA ((hb.block _ (block_lt I.out)).trans I.out) 0 (.pointer (some ⟨b,0,none⟩)) rfl,AA ((hb.block _ (block_lt M.out)).trans M.out) 0 (.int .i64 1) (by rw[hk];rfl)⟩);have aI:=QA hk;clear hk;have F:=AA I.out 0 (.pointer (some ⟨b,0,none⟩)) rfl;obtain⟨O,P,N,L,J,G⟩:=BQ M.out rfl rfl rfl rfl rfl rfl;go_wp2_with fail;clear F O P N L J G;clear av;refine AM (λw'=>w'.cell? ⟨w.heap.size,0,none⟩=some (.pointer (some ⟨b,0,none⟩))∧w'.cell? ⟨w.heap.size+1,0,none⟩=some (.int .i64 1)) 9 (by kernel_rfl) ?_;have hS:=K.out _ (Below.drew (Below.refl w1.heap.size w1));refine TK (i:=0) (v:=(.pointer (some ⟨b,0,none⟩))) rfl (Or.inl ⟨by rfl,λw hSw=>by obtain⟨s0,X⟩:=hSw;go_simp;first|done|rfl|decide⟩) hS ?_;simp only[Act.put,QD,QK,QI,QJ,QC,QH,QG];refine TK (i:=2) (v:=(.pointer (some ⟨w.heap.size+1,0,none⟩))) rfl (Or.inl ⟨by rfl,λw hSw=>by obtain⟨s0,X⟩:=hSw;go_simp;first|done|rfl|decide⟩) hS ?_;simp only[Act.put,QD,QK,QI,QJ,QC,QH,QG];refine TK (i:=3) (v:=(.int .i64 1)) rfl (Or.inl ⟨by rfl,λw hSw=>by obtain⟨s0,X⟩:=hSw;go_simp;first|done|rfl|decide⟩) hS ?_;simp only[Act.put,QD,QK,QI,QJ,QC,QH,QG];refine TK (i:=4) (v:=(.int .i64 0)) rfl (Or.inl ⟨by rfl,λw hSw=>by obtain⟨s0,X⟩:=hSw;go_simp;first|done|rfl|decide⟩) hS ?_;simp only[Act.put,QD,QK,QI,QJ,QC,QH,QG];clear hS;refine TO (i:=1) ?_;refine AB (by decide) (λK1 HK1=>?_);simp only[QE,QL,QF,QN];go_wp2_with fail;refine HK1.out _ _ ⟨λ_=>K.out _ (Below.drew ((Below.refl _ _).alloc (QM _) _)),?_⟩;clear HK1;refine TO (i:=5) ?_;refine AB (by decide) (λK5 HK5=>?_);simp only[QE,QL,QF,QN];go_wp2_with fail;refine HK5.out _ _ ⟨λ_=>K.out _ (Below.drew ((Below.refl _ _).alloc (QM _) _)),?_⟩;clear HK5;refine TO (i:=6) ?_;refine AB (by decide) (λK6 HK6=>?_);simp only[QE,QL,QF,QN];go_wp2_with fail;refine HK6.out _ _ ⟨λ_=>K.out _ (Below.drew ((Below.refl _ _).alloc (QM _) _)),?_⟩;clear HK6;refine TO (i:=7) ?_;refine AB (by decide) (λK7 HK7=>?_);simp only[QE,QL,QF,QN];go_wp2_with fail;refine HK7.out _ _ ⟨λ_=>K.out _ (Below.drew (((Below.refl _ _).alloc (QM _) _).alloc (by simp) _)),?_⟩;clear HK7;refine TO (i:=8) ?_;refine AB (by decide) (λK8 HK8=>?_);simp only[QE,QL,QF,QN];go_wp2_with fail;refine (BV w0 b X _ (show WW w0 b X (World.drewN _ 1) from ((H1.out.alloc _).alloc _).drewN 1) (w1.heap.size+1) [113,117,101,114,121] _ (B0 w1 _ _ _ _) (by have:=H1.out.lt;omega) (by decide) (by show _+5≤_;omega)).mono ?_;rintro e w2 ⟨rfl,s2,h,e,o,z⟩;have o:OK8 b w1 w2:=Bb (Bb (show OK8 b ((w1.alloc _).alloc _) w2 from o));have z:w1.heap.size≤w2.heap.size:=by have:((w1.alloc _).alloc _).heap.size≤w2.heap.size:=z;simp at this;omega
  have a0:=e.len
  try simp only[QO,QS,ZC]at a0
  have H2:=QA h;have E2:=QA (E1.out.comp e);have O2:=QA (O1.out.trans o);have Z2:=QA (QR Z1.out z);have aH:=QA (AD o I.out E (by decide));have aL:=QA (AD o M.out D (by decide));clear h e o z;go_wp2_with fail;refine HK8.out _ _ ⟨λ_=>⟨AA aH.out 0 (.pointer (some ⟨b,0,none⟩)) rfl,AA aL.out 0 (.int .i64 1) (by rw[aI.out];rfl)⟩,?_⟩;clear HK8;refine AH (by kernel_rfl) ?_ _;obtain⟨w9,A⟩:∃q,q=w2:=⟨_,rfl⟩
  obtain⟨s9,C⟩:∃q,q=s2:=⟨_,rfl⟩
  have H9:Hid (WW w0 b s9 w9):=by rw[C,A];exact QA H2.out
  have E9:Hid (Vl.Eff s (true) (Dq.word y.kind) (12) s9):=by rw[C];exact QA (E2.out.to (by rfl) (λ_=>by rw[aI.out];rfl) (by first|omega|(simp;done)|(simp;omega)))
  have O9:Hid (OK8 b w w9):=by rw[A];exact QA O2.out
  have Z9:Hid (w.heap.size≤w9.heap.size):=by rw[A];exact QA Z2.out
  have cE:s9.out.length≤s.out.length+(12):=by rw[C];omega
  have ak:Hid (w9.heap[w.heap.size]?=some (.cells #[.pointer (some ⟨b,0,none⟩)] 175 (0,0))):=by rw[A];exact QA aH.out
  have ai:Hid (w9.heap[w.heap.size+1]?=some (.cells #[.int .i64 y.kind,.string ⟨y.name.toArray⟩,.slice v1 y.vars.length m1,.slice v2 y.dirs.length m2,.slice v4 y.sels.length m4,.int .i64 y.at_] 96 (0,0))):=by rw[A];exact QA aL.out
  rw[← A];clear A C
 rotate_left
 focus
  have K:Hid (∀w':World,Below w1.heap.size w1 w'→w'.cell? ⟨w.heap.size,0,none⟩=some (.pointer (some ⟨b,0,none⟩))∧w'.cell? ⟨w.heap.size+1,0,none⟩=some (.int .i64 2)):=QA (λw' hb=>⟨AA ((hb.block _ (block_lt I.out)).trans I.out) 0 (.pointer (some ⟨b,0,none⟩)) rfl,AA ((hb.block _ (block_lt M.out)).trans M.out) 0 (.int .i64 2) (by rw[hk];rfl)⟩);have aI:=QA hk;clear hk;have F:=AA I.out 0 (.pointer (some ⟨b,0,none⟩)) rfl;obtain⟨O,P,N,L,J,G⟩:=BQ M.out rfl rfl rfl rfl rfl rfl;go_wp2_with fail;clear F O P N L J G;clear av;refine AM (λw'=>w'.cell? ⟨w.heap.size,0,none⟩=some (.pointer (some ⟨b,0,none⟩))∧w'.cell? ⟨w.heap.size+1,0,none⟩=some (.int .i64 2)) 9 (by kernel_rfl) ?_;have hS:=K.out _ (Below.drew (Below.refl w1.heap.size w1));refine TK (i:=0) (v:=(.pointer (some ⟨b,0,none⟩))) rfl (Or.inl ⟨by rfl,λw hSw=>by obtain⟨s0,X⟩:=hSw;go_simp;first|done|rfl|decide⟩) hS ?_;simp only[Act.put,QD,QK,QI,QJ,QC,QH,QG];refine TK (i:=2) (v:=(.pointer (some ⟨w.heap.size+1,0,none⟩))) rfl (Or.inl ⟨by rfl,λw hSw=>by obtain⟨s0,X⟩:=hSw;go_simp;first|done|rfl|decide⟩) hS ?_;simp only[Act.put,QD,QK,QI,QJ,QC,QH,QG];refine TK (i:=3) (v:=(.int .i64 2)) rfl (Or.inl ⟨by rfl,λw hSw=>by obtain⟨s0,X⟩:=hSw;go_simp;first|done|rfl|decide⟩) hS ?_;simp only[Act.put,QD,QK,QI,QJ,QC,QH,QG];refine TK (i:=4) (v:=(.int .i64 1)) rfl (Or.inl ⟨by rfl,λw hSw=>by obtain⟨s0,X⟩:=hSw;go_simp;first|done|rfl|decide⟩) hS ?_;simp only[Act.put,QD,QK,QI,QJ,QC,QH,QG];clear hS;refine TO (i:=1) ?_;refine AB (by decide) (λK1 HK1=>?_);simp only[QE,QL,QF,QN];go_wp2_with fail;refine HK1.out _ _ ⟨λ_=>K.out _ (Below.drew ((Below.refl _ _).alloc (QM _) _)),?_⟩;clear HK1;refine TO (i:=5) ?_;refine AB (by decide) (λK5 HK5=>?_);simp only[QE,QL,QF,QN];go_wp2_with fail;refine HK5.out _ _ ⟨λ_=>K.out _ (Below.drew ((Below.refl _ _).alloc (QM _) _)),?_⟩;clear HK5;refine TO (i:=6) ?_;refine AB (by decide) (λK6 HK6=>?_);simp only[QE,QL,QF,QN];go_wp2_with fail;refine HK6.out _ _ ⟨λ_=>K.out _ (Below.drew ((Below.refl _ _).alloc (QM _) _)),?_⟩;clear HK6;refine TO (i:=7) ?_;refine AB (by decide) (λK7 HK7=>?_);simp only[QE,QL,QF,QN];go_wp2_with fail;refine HK7.out _ _ ⟨λ_=>K.out _ (Below.drew (((Below.refl _ _).alloc (QM _) _).alloc (by simp) _)),?_⟩;clear HK7;refine TO (i:=8) ?_;refine AB (by decide) (λK8 HK8=>?_);simp only[QE,QL,QF,QN];go_wp2_with fail;refine (BV w0 b X _ (show WW w0 b X (World.drewN _ 1) from ((H1.out.alloc _).alloc _).drewN 1) (w1.heap.size+1) [109,117,116,97,116,105,111,110] _ (B0 w1 _ _ _ _) (by have:=H1.out.lt;omega) (by decide) (by show _+8≤_;omega)).mono ?_;rintro e w2 ⟨rfl,s2,h,e,o,z⟩;have o:OK8 b w1 w2:=Bb (Bb (show OK8 b ((w1.alloc _).alloc _) w2 from o));have z:w1.heap.size≤w2.heap.size:=by have:((w1.alloc _).alloc _).heap.size≤w2.heap.size:=z;simp at this;omega
  have a0:=e.len
  try simp only[QO,QS,ZC]at a0
  have H2:=QA h;have E2:=QA (E1.out.comp e);have O2:=QA (O1.out.trans o);have Z2:=QA (QR Z1.out z);have aH:=QA (AD o I.out E (by decide));have aL:=QA (AD o M.out D (by decide));clear h e o z;go_wp2_with fail;refine HK8.out _ _ ⟨λ_=>⟨AA aH.out 0 (.pointer (some ⟨b,0,none⟩)) rfl,AA aL.out 0 (.int .i64 2) (by rw[aI.out];rfl)⟩,?_⟩;clear HK8;refine AH (by kernel_rfl) ?_ _;obtain⟨w9,A⟩:∃q,q=w2:=⟨_,rfl⟩
  obtain⟨s9,C⟩:∃q,q=s2:=⟨_,rfl⟩
  have H9:Hid (WW w0 b s9 w9):=by rw[C,A];exact QA H2.out
  have E9:Hid (Vl.Eff s (true) (Dq.word y.kind) (12) s9):=by rw[C];exact QA (E2.out.to (by rfl) (λ_=>by rw[aI.out];rfl) (by first|omega|(simp;done)|(simp;omega)))
  have O9:Hid (OK8 b w w9):=by rw[A];exact QA O2.out
  have Z9:Hid (w.heap.size≤w9.heap.size):=by rw[A];exact QA Z2.out
  have cE:s9.out.length≤s.out.length+(12):=by rw[C];omega
  have ak:Hid (w9.heap[w.heap.size]?=some (.cells #[.pointer (some ⟨b,0,none⟩)] 175 (0,0))):=by rw[A];exact QA aH.out
  have ai:Hid (w9.heap[w.heap.size+1]?=some (.cells #[.int .i64 y.kind,.string ⟨y.name.toArray⟩,.slice v1 y.vars.length m1,.slice v2 y.dirs.length m2,.slice v4 y.sels.length m4,.int .i64 y.at_] 96 (0,0))):=by rw[A];exact QA aL.out
  rw[← A];clear A C
 rotate_left
 focus
  have K:Hid (∀w':World,Below w1.heap.size w1 w'→w'.cell? ⟨w.heap.size,0,none⟩=some (.pointer (some ⟨b,0,none⟩))∧w'.cell? ⟨w.heap.size+1,0,none⟩=some (.int .i64 3)):=QA (λw' hb=>⟨AA ((hb.block _ (block_lt I.out)).trans I.out) 0 (.pointer (some ⟨b,0,none⟩)) rfl,AA ((hb.block _ (block_lt M.out)).trans M.out) 0 (.int .i64 3) (by rw[hk];rfl)⟩);have aI:=QA hk;clear hk;have F:=AA I.out 0 (.pointer (some ⟨b,0,none⟩)) rfl;obtain⟨O,P,N,L,J,G⟩:=BQ M.out rfl rfl rfl rfl rfl rfl;go_wp2_with fail;clear F O P N L J G;clear av;refine AM (λw'=>w'.cell? ⟨w.heap.size,0,none⟩=some (.pointer (some ⟨b,0,none⟩))∧w'.cell? ⟨w.heap.size+1,0,none⟩=some (.int .i64 3)) 9 (by kernel_rfl) ?_;have hS:=K.out _ (Below.drew (Below.refl w1.heap.size w1));refine TK (i:=0) (v:=(.pointer (some ⟨b,0,none⟩))) rfl (Or.inl ⟨by rfl,λw hSw=>by obtain⟨s0,X⟩:=hSw;go_simp;first|done|rfl|decide⟩) hS ?_;simp only[Act.put,QD,QK,QI,QJ,QC,QH,QG];refine TK (i:=2) (v:=(.pointer (some ⟨w.heap.size+1,0,none⟩))) rfl (Or.inl ⟨by rfl,λw hSw=>by obtain⟨s0,X⟩:=hSw;go_simp;first|done|rfl|decide⟩) hS ?_;simp only[Act.put,QD,QK,QI,QJ,QC,QH,QG];refine TK (i:=3) (v:=(.int .i64 3)) rfl (Or.inl ⟨by rfl,λw hSw=>by obtain⟨s0,X⟩:=hSw;go_simp;first|done|rfl|decide⟩) hS ?_;simp only[Act.put,QD,QK,QI,QJ,QC,QH,QG];refine TK (i:=4) (v:=(.int .i64 2)) rfl (Or.inl ⟨by rfl,λw hSw=>by obtain⟨s0,X⟩:=hSw;go_simp;first|done|rfl|decide⟩) hS ?_;simp only[Act.put,QD,QK,QI,QJ,QC,QH,QG];clear hS;refine TO (i:=1) ?_;refine AB (by decide) (λK1 HK1=>?_);simp only[QE,QL,QF,QN];go_wp2_with fail;refine HK1.out _ _ ⟨λ_=>K.out _ (Below.drew ((Below.refl _ _).alloc (QM _) _)),?_⟩;clear HK1;refine TO (i:=5) ?_;refine AB (by decide) (λK5 HK5=>?_);simp only[QE,QL,QF,QN];go_wp2_with fail;refine HK5.out _ _ ⟨λ_=>K.out _ (Below.drew ((Below.refl _ _).alloc (QM _) _)),?_⟩;clear HK5;refine TO (i:=6) ?_;refine AB (by decide) (λK6 HK6=>?_);simp only[QE,QL,QF,QN];go_wp2_with fail;refine HK6.out _ _ ⟨λ_=>K.out _ (Below.drew ((Below.refl _ _).alloc (QM _) _)),?_⟩;clear HK6;refine TO (i:=7) ?_;refine AB (by decide) (λK7 HK7=>?_);simp only[QE,QL,QF,QN];go_wp2_with fail;refine HK7.out _ _ ⟨λ_=>K.out _ (Below.drew (((Below.refl _ _).alloc (QM _) _).alloc (by simp) _)),?_⟩;clear HK7;refine TO (i:=8) ?_;refine AB (by decide) (λK8 HK8=>?_);simp only[QE,QL,QF,QN];go_wp2_with fail;refine (BV w0 b X _ (show WW w0 b X (World.drewN _ 1) from ((H1.out.alloc _).alloc _).drewN 1) (w1.heap.size+1) [115,117,98,115,99,114,105,112,116,105,111,110] _ (B0 w1 _ _ _ _) (by have:=H1.out.lt;omega) (by decide) (by show _+12≤_;omega)).mono ?_;rintro e w2 ⟨rfl,s2,h,e,o,z⟩;have o:OK8 b w1 w2:=Bb (Bb (show OK8 b ((w1.alloc _).alloc _) w2 from o));have z:w1.heap.size≤w2.heap.size:=by have:((w1.alloc _).alloc _).heap.size≤w2.heap.size:=z;simp at this;omega
  have a0:=e.len
  try simp only[QO,QS,ZC]at a0
  have H2:=QA h;have E2:=QA (E1.out.comp e);have O2:=QA (O1.out.trans o);have Z2:=QA (QR Z1.out z);have aH:=QA (AD o I.out E (by decide));have aL:=QA (AD o M.out D (by decide));clear h e o z;go_wp2_with fail;refine HK8.out _ _ ⟨λ_=>⟨AA aH.out 0 (.pointer (some ⟨b,0,none⟩)) rfl,AA aL.out 0 (.int .i64 3) (by rw[aI.out];rfl)⟩,?_⟩;clear HK8;refine AH (by kernel_rfl) ?_ _;obtain⟨w9,A⟩:∃q,q=w2:=⟨_,rfl⟩
  obtain⟨s9,C⟩:∃q,q=s2:=⟨_,rfl⟩
  have H9:Hid (WW w0 b s9 w9):=by rw[C,A];exact QA H2.out
  have E9:Hid (Vl.Eff s (true) (Dq.word y.kind) (12) s9):=by rw[C];exact QA (E2.out.to (by rfl) (λ_=>by rw[aI.out];rfl) (by first|omega|(simp;done)|(simp;omega)))
  have O9:Hid (OK8 b w w9):=by rw[A];exact QA O2.out
  have Z9:Hid (w.heap.size≤w9.heap.size):=by rw[A];exact QA Z2.out
  have cE:s9.out.length≤s.out.length+(12):=by rw[C];omega
  have ak:Hid (w9.heap[w.heap.size]?=some (.cells #[.pointer (some ⟨b,0,none⟩)] 175 (0,0))):=by rw[A];exact QA aH.out
  have ai:Hid (w9.heap[w.heap.size+1]?=some (.cells #[.int .i64 y.kind,.string ⟨y.name.toArray⟩,.slice v1 y.vars.length m1,.slice v2 y.dirs.length m2,.slice v4 y.sels.length m4,.int .i64 y.at_] 96 (0,0))):=by rw[A];exact QA aL.out
  rw[← A];clear A C
 rotate_left
 all_goals
  cases bl
  focus
   cases bm
   focus
    have W:=AA ak.out 0 (.pointer (some ⟨b,0,none⟩)) rfl;obtain⟨T,S,V,R,U,Q⟩:=BQ ai.out rfl rfl rfl rfl rfl rfl;go_wp2_with fail;refine (A8 w0 b s9 _ H9.out [32] (by show _+1≤_;omega)).mono ?_;rintro e w10 ⟨rfl,s10,h,e,o,z⟩;have aU:=e.len
    try simp only[QO,QS,ZC]at aU
    have b9:=QA h;have ca:=QA (E9.out.comp e);have b3:=QA (O9.out.trans o);have b8:=QA (QR Z9.out z);have aJ:=QA (AD o ak.out E (by decide));have aG:=QA (AD o ai.out D (by decide));clear W T S V R U Q;clear h e o z;have al:=AA aJ.out 0 (.pointer (some ⟨b,0,none⟩)) rfl;obtain⟨ay,az,am,aw,ap,aB⟩:=BQ aG.out rfl rfl rfl rfl rfl rfl;go_wp2_with fail;refine (A1 w0 b s10 _ b9.out y.name (by omega)).mono ?_;rintro e w11 ⟨rfl,s11,h,e,o,z⟩;have aZ:=e.len
    try simp only[QO,QS,ZC]at aZ
    have b7:=QA h;have cb:=QA (ca.out.comp e);have b6:=QA (b3.out.trans o);have b5:=QA (QR b8.out z);have aX:=QA (AD o aJ.out E (by decide));have a4:=QA (AD o aG.out D (by decide));clear al ay az am aw ap aB;clear h e o z;obtain⟨B,A⟩:∃q,q=w11:=⟨_,rfl⟩
    obtain⟨H,C⟩:∃q,q=s11:=⟨_,rfl⟩
    have aS:Hid (WW w0 b H B):=by rw[C,A];exact QA b7.out
    have a3:Hid (Vl.Eff s (Dq.nmG y.name) (Dq.word y.kind++Dq.nmT y.name [32] []) (13+y.name.length) H):=by rw[C];exact QA (cb.out.to (by rw[Dq.nmG,aD.out.1];simp) (λ_=>by rw[Dq.nmT,if_neg (λe=>absurd (aD.out.2.2 e) (by simp))];simp) (by first|omega|(simp;done)|(simp;omega)))
    have a2:Hid (OK8 b w B):=by rw[A];exact QA b6.out
    have a1:Hid (w.heap.size≤B.heap.size):=by rw[A];exact QA b5.out
    have aW:H.out.length≤s.out.length+(13+y.name.length):=by rw[C];omega
    have ah:Hid (B.heap[w.heap.size]?=some (.cells #[.pointer (some ⟨b,0,none⟩)] 175 (0,0))):=by rw[A];exact QA aX.out
    have aa:Hid (B.heap[w.heap.size+1]?=some (.cells #[.int .i64 y.kind,.string ⟨y.name.toArray⟩,.slice v1 y.vars.length m1,.slice v2 y.dirs.length m2,.slice v4 y.sels.length m4,.int .i64 y.at_] 96 (0,0))):=by rw[A];exact QA a4.out
    rw[← A];clear A C
   rotate_left
   focus
    have W:=AA ak.out 0 (.pointer (some ⟨b,0,none⟩)) rfl;obtain⟨T,S,V,R,U,Q⟩:=BQ ai.out rfl rfl rfl rfl rfl rfl;go_wp2_with fail;clear W T S V R U Q;obtain⟨B,A⟩:∃q,q=w9:=⟨_,rfl⟩
    obtain⟨H,C⟩:∃q,q=s9:=⟨_,rfl⟩
    have aS:Hid (WW w0 b H B):=by rw[C,A];exact QA H9.out
    have a3:Hid (Vl.Eff s (Dq.nmG y.name) (Dq.word y.kind++Dq.nmT y.name [32] []) (13+y.name.length) H):=by rw[C];exact QA (E9.out.to (by rw[Dq.nmG,aD.out.1];rfl) (λ_=>by rw[Dq.nmT,if_pos (aD.out.2.1 (by trivial))];simp) (by first|omega|(simp;done)|(simp;omega)))
    have a2:Hid (OK8 b w B):=by rw[A];exact QA O9.out
    have a1:Hid (w.heap.size≤B.heap.size):=by rw[A];exact QA Z9.out
    have aW:H.out.length≤s.out.length+(13+y.name.length):=by rw[C];omega
    have ah:Hid (B.heap[w.heap.size]?=some (.cells #[.pointer (some ⟨b,0,none⟩)] 175 (0,0))):=by rw[A];exact QA ak.out
    have aa:Hid (B.heap[w.heap.size+1]?=some (.cells #[.int .i64 y.kind,.string ⟨y.name.toArray⟩,.slice v1 y.vars.length m1,.slice v2 y.dirs.length m2,.slice v4 y.sels.length m4,.int .i64 y.at_] 96 (0,0))):=by rw[A];exact QA ai.out
    rw[← A];clear A C
   all_goals
    have aA:=AA ah.out 0 (.pointer (some ⟨b,0,none⟩)) rfl;obtain⟨aq,au,ax,ar,ao,an⟩:=BQ aa.out rfl rfl rfl rfl rfl rfl;go_wp2_with fail;clear aA aq au ax ar ao an;obtain⟨ac,A⟩:∃q,q=B:=⟨_,rfl⟩
    obtain⟨aK,C⟩:∃q,q=H:=⟨_,rfl⟩
    have cs:Hid (WW w0 b aK ac):=by rw[C,A];exact QA aS.out
    have cx:Hid (Vl.Eff s (Dq.nmG y.name&&y.vars.all Dq.varG) ((Dq.word y.kind++Dq.nmT y.name [32] [])++Dq.varsT y.vars) (15+y.name.length+Vl.sumC Dq.varC 2 y.vars) aK):=by rw[C];exact QA (a3.out.to (by rw[show y.vars=[] from List.length_eq_zero_iff.1 (Classical.byContradiction λh=>absurd (b1.out.2 h) (by simp))];simp) (λ_=>by rw[show y.vars=[] from List.length_eq_zero_iff.1 (Classical.byContradiction λh=>absurd (b1.out.2 h) (by simp))];simp[Dq.varsT]) (by first|omega|(simp;done)|(simp;omega)))
    have cD:Hid (OK8 b w ac):=by rw[A];exact QA a2.out
    have cn:Hid (w.heap.size≤ac.heap.size):=by rw[A];exact QA a1.out
    have ci:aK.out.length≤s.out.length+(15+y.name.length+Vl.sumC Dq.varC 2 y.vars):=by rw[C];omega
    have aV:Hid (ac.heap[w.heap.size]?=some (.cells #[.pointer (some ⟨b,0,none⟩)] 175 (0,0))):=by rw[A];exact QA ah.out
    have a5:Hid (ac.heap[w.heap.size+1]?=some (.cells #[.int .i64 y.kind,.string ⟨y.name.toArray⟩,.slice v1 y.vars.length m1,.slice v2 y.dirs.length m2,.slice v4 y.sels.length m4,.int .i64 y.at_] 96 (0,0))):=by rw[A];exact QA aa.out
    rw[← A];clear A C
  rotate_left 2
  focus
   cases bm
   focus
    have W:=AA ak.out 0 (.pointer (some ⟨b,0,none⟩)) rfl;obtain⟨T,S,V,R,U,Q⟩:=BQ ai.out rfl rfl rfl rfl rfl rfl;go_wp2_with fail;refine (A8 w0 b s9 _ H9.out [32] (by show _+1≤_;omega)).mono ?_;rintro e w10 ⟨rfl,s10,h,e,o,z⟩;have aU:=e.len
    try simp only[QO,QS,ZC]at aU
    have b9:=QA h;have ca:=QA (E9.out.comp e);have b3:=QA (O9.out.trans o);have b8:=QA (QR Z9.out z);have aJ:=QA (AD o ak.out E (by decide));have aG:=QA (AD o ai.out D (by decide));clear W T S V R U Q;clear h e o z;have al:=AA aJ.out 0 (.pointer (some ⟨b,0,none⟩)) rfl;obtain⟨ay,az,am,aw,ap,aB⟩:=BQ aG.out rfl rfl rfl rfl rfl rfl;go_wp2_with fail;refine (A1 w0 b s10 _ b9.out y.name (by omega)).mono ?_;rintro e w11 ⟨rfl,s11,h,e,o,z⟩;have aZ:=e.len
    try simp only[QO,QS,ZC]at aZ
    have b7:=QA h;have cb:=QA (ca.out.comp e);have b6:=QA (b3.out.trans o);have b5:=QA (QR b8.out z);have aX:=QA (AD o aJ.out E (by decide));have a4:=QA (AD o aG.out D (by decide));clear al ay az am aw ap aB;clear h e o z;obtain⟨B,A⟩:∃q,q=w11:=⟨_,rfl⟩
    obtain⟨H,C⟩:∃q,q=s11:=⟨_,rfl⟩
    have aS:Hid (WW w0 b H B):=by rw[C,A];exact QA b7.out
    have a3:Hid (Vl.Eff s (Dq.nmG y.name) (Dq.word y.kind++Dq.nmT y.name [32] []) (13+y.name.length) H):=by rw[C];exact QA (cb.out.to (by rw[Dq.nmG,aD.out.1];simp) (λ_=>by rw[Dq.nmT,if_neg (λe=>absurd (aD.out.2.2 e) (by simp))];simp) (by first|omega|(simp;done)|(simp;omega)))
    have a2:Hid (OK8 b w B):=by rw[A];exact QA b6.out
    have a1:Hid (w.heap.size≤B.heap.size):=by rw[A];exact QA b5.out
    have aW:H.out.length≤s.out.length+(13+y.name.length):=by rw[C];omega
    have ah:Hid (B.heap[w.heap.size]?=some (.cells #[.pointer (some ⟨b,0,none⟩)] 175 (0,0))):=by rw[A];exact QA aX.out
    have aa:Hid (B.heap[w.heap.size+1]?=some (.cells #[.int .i64 y.kind,.string ⟨y.name.toArray⟩,.slice v1 y.vars.length m1,.slice v2 y.dirs.length m2,.slice v4 y.sels.length m4,.int .i64 y.at_] 96 (0,0))):=by rw[A];exact QA a4.out
    rw[← A];clear A C
   rotate_left
   focus
    have W:=AA ak.out 0 (.pointer (some ⟨b,0,none⟩)) rfl;obtain⟨T,S,V,R,U,Q⟩:=BQ ai.out rfl rfl rfl rfl rfl rfl;go_wp2_with fail;clear W T S V R U Q;obtain⟨B,A⟩:∃q,q=w9:=⟨_,rfl⟩
    obtain⟨H,C⟩:∃q,q=s9:=⟨_,rfl⟩
    have aS:Hid (WW w0 b H B):=by rw[C,A];exact QA H9.out
    have a3:Hid (Vl.Eff s (Dq.nmG y.name) (Dq.word y.kind++Dq.nmT y.name [32] []) (13+y.name.length) H):=by rw[C];exact QA (E9.out.to (by rw[Dq.nmG,aD.out.1];rfl) (λ_=>by rw[Dq.nmT,if_pos (aD.out.2.1 (by trivial))];simp) (by first|omega|(simp;done)|(simp;omega)))
    have a2:Hid (OK8 b w B):=by rw[A];exact QA O9.out
    have a1:Hid (w.heap.size≤B.heap.size):=by rw[A];exact QA Z9.out
    have aW:H.out.length≤s.out.length+(13+y.name.length):=by rw[C];omega
    have ah:Hid (B.heap[w.heap.size]?=some (.cells #[.pointer (some ⟨b,0,none⟩)] 175 (0,0))):=by rw[A];exact QA ak.out
    have aa:Hid (B.heap[w.heap.size+1]?=some (.cells #[.int .i64 y.kind,.string ⟨y.name.toArray⟩,.slice v1 y.vars.length m1,.slice v2 y.dirs.length m2,.slice v4 y.sels.length m4,.int .i64 y.at_] 96 (0,0))):=by rw[A];exact QA ai.out
    rw[← A];clear A C
   all_goals
    have aA:=AA ah.out 0 (.pointer (some ⟨b,0,none⟩)) rfl;obtain⟨aq,au,ax,ar,ao,an⟩:=BQ aa.out rfl rfl rfl rfl rfl rfl;go_wp2_with fail;refine (A8 w0 b H _ aS.out [40] (by show _+1≤_;omega)).mono ?_;rintro e w20 ⟨rfl,s20,h,e,o,z⟩;have ct:=e.len
    try simp only[QO,QS,ZC]at ct
    have cI:=QA h;have c9:=QA (a3.out.comp e);have cR:=QA (a2.out.trans o);have cT:=QA (QR a1.out z);have aP:=QA (AD o ah.out E (by decide));have aT:=QA (AD o aa.out D (by decide));clear aA aq au ax ar ao an;clear h e o z;have db:Hid (∀(i:Nat),i<y.vars.length→∀sq wq,WW w0 b sq wq→OK8 b w20 wq→sq.out.length+Vl.ats y.vars Dq.varC 0 i≤1000000000000→Calls Tryz.prog 116 (#[.int .i64 i]++#[.pointer (some ⟨w.heap.size,0,none⟩),.pointer (some ⟨w.heap.size+1,0,none⟩)]) wq (BE w0 b sq wq (Vl.ats y.vars (Dq.varG) true i) (Vl.ats y.vars Dq.varT [] i) (Vl.ats y.vars Dq.varC 0 i))):=QA (λi hi sq wq h9 o9 hl9=>by
     obtain⟨x,hx⟩:∃x,y.vars[i]?=some x:=⟨y.vars[i],List.getElem?_eq_getElem hi⟩
     rw[Vl.ats_some hx]at hl9;rw[Vl.ats_some hx,Vl.ats_some hx,Vl.ats_some hx];have cS:=List.mem_of_getElem? hx;exact MU w0 b HE.out h3 y v1 v2 v4 m1 m2 m4 df.out _ _ E D i x hx (by have:=di.out x cS;omega) (by omega) sq wq h9 (AD o9 aP.out E (by decide)) (AD o9 aT.out D (by decide)) hl9)
    have aR:=Vl.cds_sum y.vars Dq.varC 2 y.vars.length (QM _);rw[ZI]at aR;have cZ:=QA aR;have bI:=AA aP.out 0 (.pointer (some ⟨b,0,none⟩)) rfl;obtain⟨bc,a9,bb,bn,bD,bB⟩:=BQ aT.out rfl rfl rfl rfl rfl rfl;go_wp2_with fail;refine (FX w0 b y.vars.length [44,32] _ _ (Vl.ats y.vars (Dq.varG) true) (Vl.ats y.vars Dq.varT []) (Vl.ats y.vars Dq.varC 0) (λw i=>Ld _ w i) s20 _ cI.out (by show _+Vl.cds _ 2 _≤_;rw[aR];omega) (by omega) (λi hi s9 w9 h9 o9 _ hl9=>db.out i hi s9 w9 h9 o9 hl9)).mono ?_;rintro e w21 ⟨rfl,s21,h,e,o,z⟩;have bW:=e.len
    try simp only[QO,QS,ZC]at bW
    have c2:=QA h;have dl:=QA (c9.out.comp e);have cY:=QA (cR.out.trans o);have cJ:=QA (QR cT.out z);have bQ:=QA (AD o aP.out E (by decide));have bR:=QA (AD o aT.out D (by decide));clear bI bc a9 bb bn bD bB;clear h e o z;have dj:s21.out.length≤s20.out.length+Vl.sumC Dq.varC 2 y.vars:=by have:=bW;rw[← aR];exact this
    clear aR;have bM:=AA bQ.out 0 (.pointer (some ⟨b,0,none⟩)) rfl;obtain⟨bN,bA,bE,bw,bO,bv⟩:=BQ bR.out rfl rfl rfl rfl rfl rfl;go_wp2_with fail;refine (A8 w0 b s21 _ c2.out [41] (by show _+1≤_;omega)).mono ?_;rintro e w22 ⟨rfl,s22,h,e,o,z⟩;have cq:=e.len
    try simp only[QO,QS,ZC]at cq
    have cN:=QA h;have c8:=QA (dl.out.comp e);have cL:=QA (cY.out.trans o);have dm:=QA (QR cJ.out z);have cy:=QA (AD o bQ.out E (by decide));have cB:=QA (AD o bR.out D (by decide));clear bM bN bA bE bw bO bv;clear h e o z;obtain⟨ac,A⟩:∃q,q=w22:=⟨_,rfl⟩
    obtain⟨aK,C⟩:∃q,q=s22:=⟨_,rfl⟩
    have cs:Hid (WW w0 b aK ac):=by rw[C,A];exact QA cN.out
    have cx:Hid (Vl.Eff s (Dq.nmG y.name&&y.vars.all Dq.varG) ((Dq.word y.kind++Dq.nmT y.name [32] [])++Dq.varsT y.vars) (15+y.name.length+Vl.sumC Dq.varC 2 y.vars) aK):=by rw[C];exact QA (c8.out.to (by rw[Vl.gds_all y.vars _ _ (QM _),ZI];simp) (λ_=>by unfold Dq.varsT;rw[if_neg (b1.out.1 (by trivial)),Vl.tds_join y.vars _ _ _ (QM _),ZI];simp) (by have:=cZ.out;simp only[QO,QS,Nat.zero_add,ZB];omega))
    have cD:Hid (OK8 b w ac):=by rw[A];exact QA cL.out
    have cn:Hid (w.heap.size≤ac.heap.size):=by rw[A];exact QA dm.out
    have ci:aK.out.length≤s.out.length+(15+y.name.length+Vl.sumC Dq.varC 2 y.vars):=by rw[C];omega
    have aV:Hid (ac.heap[w.heap.size]?=some (.cells #[.pointer (some ⟨b,0,none⟩)] 175 (0,0))):=by rw[A];exact QA cy.out
    have a5:Hid (ac.heap[w.heap.size+1]?=some (.cells #[.int .i64 y.kind,.string ⟨y.name.toArray⟩,.slice v1 y.vars.length m1,.slice v2 y.dirs.length m2,.slice v4 y.sels.length m4,.int .i64 y.at_] 96 (0,0))):=by rw[A];exact QA cB.out
    rw[← A];clear A C
  all_goals
   have bj:=AA aV.out 0 (.pointer (some ⟨b,0,none⟩)) rfl;obtain⟨bt,bG,a8,bP,bL,bh⟩:=BQ a5.out rfl rfl rfl rfl rfl rfl;go_wp2_with fail;refine (CQ w0 b HE.out h3 y.dirs 0 (by omega) v2 m2 c5.out (by omega) (by omega) aK _ cs.out (by omega)).mono ?_;rintro e w30 ⟨rfl,s30,h,e,o,z⟩;have cC:=e.len
   try simp only[QO,QS,ZC]at cC
   have dc:=QA h;have dd:=QA (cx.out.comp e);have da:=QA (cD.out.trans o);have c0:=QA (QR cn.out z);have bS:=QA (AD o aV.out E (by decide));have bV:=QA (AD o a5.out D (by decide));clear bj bt bG a8 bP bL bh;clear h e o z;have bx:=AA bS.out 0 (.pointer (some ⟨b,0,none⟩)) rfl;obtain⟨a7,bq,bH,bJ,bs,be⟩:=BQ bV.out rfl rfl rfl rfl rfl rfl;go_wp2_with fail;refine (A8 w0 b s30 _ dc.out [32] (by show _+1≤_;omega)).mono ?_;rintro e w31 ⟨rfl,s31,h,e,o,z⟩;have cr:=e.len
   try simp only[QO,QS,ZC]at cr
   have cH:=QA h;have dq:=QA (dd.out.comp e);have dg:=QA (da.out.trans o);have cM:=QA (QR c0.out z);have bZ:=QA (AD o bS.out E (by decide));have bT:=QA (AD o bV.out D (by decide));clear bx a7 bq bH bJ bs be;clear h e o z;have br:=AA bZ.out 0 (.pointer (some ⟨b,0,none⟩)) rfl;obtain⟨bz,bf,bC,bK,bg,bp⟩:=BQ bT.out rfl rfl rfl rfl rfl rfl;go_wp2_with fail;refine (EB w0 b HE.out h3 16 0 rfl y.sels v4 m4 dn.out (by omega) s31 _ cH.out (by omega)).mono ?_;rintro e w32 ⟨rfl,s32,h,e,o,z⟩;have ck:=e.len
   try simp only[QO,QS,ZC]at ck
   have cP:=QA h;have cK:=QA (dq.out.comp e);have cU:=QA (dg.out.trans o);have c3:=QA (QR cM.out z);have b0:=QA (AD o bZ.out E (by decide));have bX:=QA (AD o bT.out D (by decide));clear br bz bf bC bK bg bp;clear h e o z;have bd:=AA b0.out 0 (.pointer (some ⟨b,0,none⟩)) rfl;obtain⟨bF,bk,bu,bo,bi,ba⟩:=BQ bX.out rfl rfl rfl rfl rfl rfl;go_wp2_with fail;refine (A8 w0 b s32 _ cP.out [10] (by show _+1≤_;omega)).mono ?_;rintro e w33 ⟨rfl,s33,h,e,o,z⟩;have cu:=e.len
   try simp only[QO,QS,ZC]at cu
   have cX:=QA h;have cV:=QA (cK.out.comp e);have c6:=QA (cU.out.trans o);have c7:=QA (QR c3.out z);have du:=QA (AD o b0.out E (by decide));have ds:=QA (AD o bX.out D (by decide));clear bd bF bk bu bo bi ba;clear h e o z;go_wp2_with fail;go_end0;exact⟨rfl,s33,cX.out,cV.out.to (by rw[HG.out];simp[Bool.and_assoc]) (λ_=>by unfold Dq.opT;simp) (by simp;omega),c6.out,c7.out⟩
end Go.Proofs.YtefjgpkpplkkgaaGreatDoor
