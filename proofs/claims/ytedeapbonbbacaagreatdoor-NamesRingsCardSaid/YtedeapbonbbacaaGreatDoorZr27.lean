/-
  The names' law: its examples, walked.
-/
import Derived.Test.YtedeapbonbbacaaGreatDoorZr26
import Derived.Test.YtedeapbonbbacaaGreatDoorZr6
import Derived.Test.YtedeapbonbbacaaGreatDoorZr22
import Derived.Test.YtedeapbonbbacaaGreatDoorZr8
open Array renaming getInternal_eq_getElem → QD
open Go.Lib renaming hid → QA
open List renaming setIfInBounds_toArray → QC, drop_succ_cons → QE, take_succ_cons → QF, set_cons_succ → QG, set_cons_zero → QH, getElem_cons_zero → QI, getElem_cons_succ → QJ, getElem_toArray → QK, drop_zero → QL, take_zero → QN, mem_cons_self → QP, mem_cons_of_mem → QT
open Nat renaming le_refl → QM, le_trans → QQ
namespace Go.Proofs.YtedeapbonbbacaaGreatDoor
set_option maxRecDepth 100000
set_option linter.unusedSimpArgs false
set_option linter.unusedVariables false
open Go Go.RowKit
def D8:Dq.Op:=⟨1,[],[],[],[.mk 2 [] [70] [] [] [] 1],0⟩
def H7:List Dq.Fr:=[⟨[70],[84],[],[.mk 2 [] [71] [] [] [] 24],7⟩,⟨[71],[84],[],[.mk 1 [] [97] [] [] [] 47],30⟩]
def Iv:List Dq.Fr:=[⟨[70],[84],[],[.mk 2 [] [70] [] [] [] 17],0⟩]
theorem LH:I9.map Qr.Op.d=[D8].map Dq.Op.d:=by kernel_rfl
theorem Kv:JH.map Qr.Fr.d=H7.map Dq.Fr.d:=by kernel_rfl
theorem LE:I0.map Qr.Fr.d=Iv.map Dq.Fr.d:=by kernel_rfl
theorem J1:[D8].map Dq.Op.it=Nq.aO1:=by kernel_rfl
theorem Hc:H7.map Dq.Fr.it=Nq.aF1:=by kernel_rfl
theorem KE:Iv.map Dq.Fr.it=Nq.aF2:=by kernel_rfl
theorem Iw {ops:List Dq.Op} {fs:List Dq.Fr} (h:(decide (ops.length≤100)&&decide (fs.length≤100)&&ops.all (λo=>decide (Dq.Sel.numl o.sels≤100))&&fs.all (λf=>decide (Dq.Sel.numl f.sels≤100))&&fs.all (λf=>decide (f.name.length≤100)))=true):Nsm ops fs:=by
 simp only[Bool.and_eq_true,decide_eq_true_eq,List.all_eq_true]at h;obtain⟨⟨⟨⟨B,D⟩,A⟩,E⟩,C⟩:=h;exact⟨B,D,A,E,C⟩
theorem Ei:Nsm [D8] H7:=Iw (by kernel_rfl)
theorem LN:Nsm [] Iv:=Iw (by kernel_rfl)
theorem Hd {ss:List (List UInt8)} (h:ss.Perm [[70],[71]]):ss.mergeSort (λx y=>decide (x≤y))=[[70],[71]]:=by
 have C:=h.length_eq
 match ss,C with
 | [x,y],_ =>
  have hx:=(h.mem_iff (a:=x)).1 QP;have B:=(h.mem_iff (a:=y)).1 (QT _ QP);have A:=(h.mem_iff (a:=[70])).2 QP;have o:=(h.mem_iff (a:=[71])).2 (QT _ QP);simp only[List.mem_cons,List.not_mem_nil,or_false]at hx B A o;rcases hx with rfl|rfl<;>rcases B with rfl|rfl
  ·simp at o
  ·simp[List.mergeSort,List.MergeSort.Internal.splitInTwo,List.merge]
   decide
  ·simp[List.mergeSort,List.MergeSort.Internal.splitInTwo,List.merge]
   decide
  ·simp at A
theorem GJ (w:World) (a b c d e f:Int):Pbs (w.alloc (.cells #[.int .i64 a,.int .i64 b,.int .i64 c,.int .i64 d,.int .i64 e,.int .i64 f] 42)) (λ_=>True) (.slice (some ⟨w.heap.size,0,none⟩) 3 3) [(a,b),(c,d),(e,f)]:=by
 have o:=AC w (.cells #[.int .i64 a,.int .i64 b,.int .i64 c,.int .i64 d,.int .i64 e,.int .i64 f] 42);have A:=DG (P:=λ_=>True) (g:=w.heap.size) trivial (block_lt o) [(a,b),(c,d),(e,f)] 0 (λj p hp=>by
  match j,hp with
  | 0,hp=>simp at hp;subst hp;exact⟨AA o 0 _ rfl,AA o 1 _ rfl⟩
  | 1,hp=>simp at hp;subst hp;exact⟨AA o 2 _ rfl,AA o 3 _ rfl⟩
  | 2,hp=>simp at hp;subst hp;exact⟨AA o 4 _ rfl,AA o 5 _ rfl⟩
  | j+3,hp=>simp at hp)
 exact .seq A
set_option maxHeartbeats 16000000 in
theorem Gz (w:World) (hE:Env w) (h3:3≤w.heap.size) :
  Calls Tryz.prog 5 #[] w (λe w'=>e=.returned (.bool true)∧Below w.heap.size w w'):=by
 have HE:=QA hE;clear hE;go_enter Tryz.func5,Tryz.ntmps5;go_wp2_with fail;refine (D3 ⟨Ft.toArray⟩ w (by decide) HE.out h3).mono ?_;rintro e w1 ⟨hb1,-,hres⟩;rw[show (⟨Ft.toArray⟩:ByteArray).data.toList=Ft from rfl]at hres;rcases hres with⟨a1,a2,c1,c2,-,rfl,hro,hrf⟩|⟨h,-⟩;rotate_left
 ·exact absurd E5.1 h
 rw[E5.2]at hro hrf ⊢
 replace hro:Reads w1 (λx=>w.heap.size≤x) (.seq 6 (I9.map Qr.Op.d)) [.slice a1 1 c1]:=hro
 replace hrf:Reads w1 (λx=>w.heap.size≤x) (.seq 5 (JH.map Qr.Fr.d)) [.slice a2 2 c2]:=hrf
 rw[LH]at hro;rw[Kv]at hrf;rw[show (I9,JH).1.length=1 from rfl,show (I9,JH).2.length=2 from rfl];obtain⟨g,o,cs,ha,-,aQ,aM,Y,hd⟩:=hro.el 0 D8.d rfl;obtain⟨b1,b2,b3,d1,d2,d3,rfl,-,-,aN⟩:=Dq.Op.opened hd;subst ha;have k4:w1.cell? ⟨g,o+4,none⟩=some (.slice b3 1 d3):=by
  have h:=Y 4 _ rfl;rw[Nat.zero_mul,Nat.add_zero]at h;exact h
 have H:AD w1 (λx=>w.heap.size≤x) w1 (λx=>w.heap.size≤x∧x<w1.heap.size):=AD.sub w1 (λx hx hp=>⟨hp,hx⟩);have aU:=QA (hro.to H);have aX:=QA (hrf.to H);have aS:=QA (aN.to H);have az:=QA hb1;obtain⟨W2,af⟩:∃q,q=w1.alloc (.cells #[.slice (some ⟨g,o,none⟩) 1 c1,.slice a2 2 c2] 29):=⟨_,rfl⟩
 have S:Below w1.heap.size w1 W2:=by rw[af];exact (Below.refl _ _).alloc (QM _) _
 have aC:Hid (W2.heap[w1.heap.size]?=some (.cells #[.slice (some ⟨g,o,none⟩) 1 c1,.slice a2 2 c2] 29 (0,0))):=QA (by rw[af];exact AC _ _);have am:=QA S;have a3:=QA k4;have aT:=QA aQ;have aA:=QA (D3 ⟨Hw.toArray⟩ W2 (by decide) ((HE.out.below hb1).below S) (by have:=hb1.size;have:=S.size;omega));have aV:=QA af.symm;clear hro hrf Y hd aN aM aQ H hb1 S af k4;go_wp2_with fail;rw[aV.out];refine aA.out.mono ?_;rintro e w3 ⟨hb3,-,hres⟩;rcases hres with⟨e1,e2,f1,f2,-,rfl,hro,hrf⟩|⟨h,-⟩;rotate_left
 ·exact absurd El.1 h
 rw[El.2]at hro hrf ⊢
 replace hro:Reads w3 (λx=>W2.heap.size≤x) (.seq 6 (([]:List Dq.Op).map Dq.Op.d)) [.slice e1 0 f1]:=hro
 replace hrf:Reads w3 (λx=>W2.heap.size≤x) (.seq 5 (I0.map Qr.Fr.d)) [.slice e2 1 f2]:=hrf
 rw[LE]at hrf;rw[show (([]:List Qr.Op),I0).1.length=0 from rfl,show (([]:List Qr.Op),I0).2.length=1 from rfl];have H:AD w3 (λx=>W2.heap.size≤x) w3 (λx=>x<w3.heap.size):=AD.sub w3 (λx hx hp=>hx);have aK:=QA (hro.to H);have aF:=QA (hrf.to H);obtain⟨E,ag⟩:∃q,q=w3.alloc (.cells #[.slice e1 0 f1,.slice e2 1 f2] 29):=⟨_,rfl⟩
 have O:Below w3.heap.size w3 E:=by rw[ag];exact (Below.refl _ _).alloc (QM _) _
 have aG:Hid (E.heap[w3.heap.size]?=some (.cells #[.slice e1 0 f1,.slice e2 1 f2] 29 (0,0))):=QA (by rw[ag];exact AC _ _);have ad:Below W2.heap.size W2 E:=hb3.trans (O.mono hb3.size);have L:Below w1.heap.size w1 E:=am.out.trans (ad.mono am.out.size);have ak:Hid (E.heap[w1.heap.size]?=some (.cells #[.slice (some ⟨g,o,none⟩) 1 c1,.slice a2 2 c2] 29 (0,0))):=QA ((ad.block _ (block_lt aC.out)).trans aC.out);have al:Hid (Below w.heap.size w E):=QA (az.out.trans (L.mono az.out.size));have aO:Hid (∀w':World,Below E.heap.size E w'→Reads w' (λx=>w.heap.size≤x∧x<w1.heap.size) (.seq 6 ([D8].map Dq.Op.d)) [.slice (some ⟨g,o,none⟩) 1 c1]∧Reads w' (λx=>w.heap.size≤x∧x<w1.heap.size) (.seq 5 (H7.map Dq.Fr.d)) [.slice a2 2 c2]∧Reads w' (λx=>w.heap.size≤x∧x<w1.heap.size) (.seq 7 (D8.sels.map Dq.Sel.d)) [.slice b3 1 d3]):=QA (λw' hb=>by
  have h:=L.trans (hb.mono L.size);exact⟨aU.out.to (AD.below h),aX.out.to (AD.below h),aS.out.to (AD.below h)⟩)
 have a6:Hid (∀w':World,Below E.heap.size E w'→Reads w' (λx=>x<w3.heap.size) (.seq 6 (([]:List Dq.Op).map Dq.Op.d)) [.slice e1 0 f1]∧Reads w' (λx=>x<w3.heap.size) (.seq 5 (Iv.map Dq.Fr.d)) [.slice e2 1 f2]):=QA (λw' hb=>by
  have h:=O.trans (hb.mono O.size);exact⟨aK.out.to (AD.below h),aF.out.to (AD.below h)⟩)
 have I:Hid (∀w':World,Below E.heap.size E w'→w'.cell? ⟨w1.heap.size,0,none⟩=some (.slice (some ⟨g,o,none⟩) 1 c1)∧w'.cell? ⟨w1.heap.size,1,none⟩=some (.slice a2 2 c2)∧w'.cell? ⟨g,o+4,none⟩=some (.slice b3 1 d3)∧w'.cell? ⟨w3.heap.size,0,none⟩=some (.slice e1 0 f1)∧w'.cell? ⟨w3.heap.size,1,none⟩=some (.slice e2 1 f2)):=QA (λw' hb=>by
  have h1:=(hb.block _ (block_lt ak.out)).trans ak.out;have h2:=(hb.block _ (block_lt aG.out)).trans aG.out;have h:=L.trans (hb.mono L.size);exact⟨AA h1 0 _ rfl,AA h1 1 _ rfl,(h.cell (p:=⟨g,o+4,none⟩) aT.out).trans a3.out,AA h2 0 _ rfl,AA h2 1 _ rfl⟩)
 have aq:Hid (w1.heap.size≤E.heap.size∧w3.heap.size≤E.heap.size):=QA ⟨L.size,O.size⟩;have aD:Hid (∀w':World,Below E.heap.size E w'→Calls Tryz.prog 11 #[.agg #[.slice (some ⟨g,o,none⟩) 1 c1,.slice a2 2 c2],.slice b3 1 d3] w' (λe N=>∃(v:Value) (ss:List (List UInt8)),e=.returned v∧ss.Perm [[70],[71]]∧N.ownsRow w'.heap.size 9 1 v ss.length ((ss.mergeSort (λx y=>decide (x≤y))).map encStr)∧Below w'.heap.size w' N)):=QA (λw' hb=>by
  obtain⟨r1,r2,r3⟩:=aO.out w' hb;have h:=Dd H7 (by decide) (λf hf=>QQ (Ei.nf f hf) (by decide)) (λf hf=>QQ (Ei.sf f hf) (by decide)) D8.sels (QQ (Ei.so D8 QP) (by decide)) (QQ (Ei.fuel (Ei.so D8 QP)) (by decide)) (some ⟨g,o,none⟩) 1 c1 a2 c2 b3 d3 w' _ (λx hx=>by have:=hb.size;have:=aq.out.1;omega) r2 r3;rw[Hc,show Dq.sp D8.sels=[([70],1)] by kernel_rfl,Nq.a_reach]at h;exact h)
 have aZ:Hid (∀w':World,Below E.heap.size E w'→Calls Tryz.prog 8 #[.agg #[.slice (some ⟨g,o,none⟩) 1 c1,.slice a2 2 c2]] w' λe N=>∃v',e=.returned v'∧BU N w'.heap.size v' []∧Below w'.heap.size w' N):=QA (λw' hb=>by
  obtain⟨r1,r2,-⟩:=aO.out w' hb;have h:=Br [D8] H7 Ei (some ⟨g,o,none⟩) c1 a2 c2 w' _ (λx hx=>by have:=hb.size;have:=aq.out.1;omega) r1 r2;rw[J1,Hc,Nq.a_prob1]at h;exact h)
 have aJ:Hid (∀w':World,Below E.heap.size E w'→Calls Tryz.prog 8 #[.agg #[.slice e1 0 f1,.slice e2 1 f2]] w' λe N=>∃v',e=.returned v'∧BU N w'.heap.size v' [(151,0),(155,0),(156,0)]∧Below w'.heap.size w' N):=QA (λw' hb=>by
  obtain⟨r1,r2⟩:=a6.out w' hb;have h:=Br [] Iv LN e1 f1 e2 f2 w' _ (λx hx=>by have h1:x<w3.heap.size:=hx;have:=hb.size;have:=aq.out.2;omega) r1 r2;rw[show ([]:List Dq.Op).map Dq.Op.it=[] from rfl,KE,Nq.a_prob2]at h;exact h)
 have a5:=QA ag.symm;clear hro hrf H hb3 O ag ad L aA;go_wp2_with fail;rw[a5.out];refine AH (λw'=>w'.cell? ⟨w1.heap.size,0,none⟩=some (.slice (some ⟨g,o,none⟩) 1 c1)∧w'.cell? ⟨w1.heap.size,1,none⟩=some (.slice a2 2 c2)∧w'.cell? ⟨g,o+4,none⟩=some (.slice b3 1 d3)∧w'.cell? ⟨w3.heap.size,0,none⟩=some (.slice e1 0 f1)∧w'.cell? ⟨w3.heap.size,1,none⟩=some (.slice e2 1 f2)) 39 (by kernel_rfl) ?_;have ae:Hid (Below E.heap.size E E.drew):=QA (Below.drewN (Below.refl _ _) 1);have A:=I.out E.drew ae.out;refine TK (i:=0) (v:=(.int .i64 0)) rfl (Or.inl ⟨by rfl,λw hSw=>by obtain⟨B,F,C,D,G⟩:=hSw;go_simp⟩) A ?_;simp only[Act.put,QD,QK,QI,QJ,QC,QH,QG];refine TK (i:=1) (v:=(.bool true)) rfl (Or.inl ⟨by rfl,λw hSw=>by obtain⟨B,F,C,D,G⟩:=hSw;go_simp⟩) A ?_;simp only[Act.put,QD,QK,QI,QJ,QC,QH,QG];refine TK (i:=2) (v:=(.bool true)) rfl (Or.inl ⟨by rfl,λw hSw=>by obtain⟨B,F,C,D,G⟩:=hSw;go_simp⟩) A ?_;simp only[Act.put,QD,QK,QI,QJ,QC,QH,QG];refine TK (i:=3) (v:=(.pointer (some ⟨w1.heap.size,0,none⟩))) rfl (Or.inl ⟨by rfl,λw hSw=>by obtain⟨B,F,C,D,G⟩:=hSw;go_simp⟩) A ?_;simp only[Act.put,QD,QK,QI,QJ,QC,QH,QG];refine TK (i:=4) (v:=(.slice (some ⟨g,o,none⟩) 1 c1)) rfl (Or.inl ⟨by rfl,λw hSw=>by obtain⟨B,F,C,D,G⟩:=hSw;go_simp⟩) A ?_;simp only[Act.put,QD,QK,QI,QJ,QC,QH,QG];refine TK (i:=5) (v:=(.int .i64 1)) rfl (Or.inl ⟨by rfl,λw hSw=>by obtain⟨B,F,C,D,G⟩:=hSw;go_simp⟩) A ?_;simp only[Act.put,QD,QK,QI,QJ,QC,QH,QG];refine TK (i:=6) (v:=(.bool true)) rfl (Or.inl ⟨by rfl,λw hSw=>by obtain⟨B,F,C,D,G⟩:=hSw;go_simp⟩) A ?_;simp only[Act.put,QD,QK,QI,QJ,QC,QH,QG];refine TK (i:=7) (v:=(.bool true)) rfl (Or.inl ⟨by rfl,λw hSw=>by obtain⟨B,F,C,D,G⟩:=hSw;go_simp⟩) A ?_;simp only[Act.put,QD,QK,QI,QJ,QC,QH,QG];refine TK (i:=8) (v:=(.bool true)) rfl (Or.inl ⟨by rfl,λw hSw=>by obtain⟨B,F,C,D,G⟩:=hSw;go_simp⟩) A ?_;simp only[Act.put,QD,QK,QI,QJ,QC,QH,QG];refine TK (i:=9) (v:=(.agg #[.slice (some ⟨g,o,none⟩) 1 c1,.slice a2 2 c2])) rfl (Or.inl ⟨by rfl,λw hSw=>by obtain⟨B,F,C,D,G⟩:=hSw;go_simp⟩) A ?_;simp only[Act.put,QD,QK,QI,QJ,QC,QH,QG];refine TK (i:=10) (v:=(.pointer (some ⟨w1.heap.size,0,none⟩))) rfl (Or.inl ⟨by rfl,λw hSw=>by obtain⟨B,F,C,D,G⟩:=hSw;go_simp⟩) A ?_;simp only[Act.put,QD,QK,QI,QJ,QC,QH,QG];refine TK (i:=11) (v:=(.slice (some ⟨g,o,none⟩) 1 c1)) rfl (Or.inl ⟨by rfl,λw hSw=>by obtain⟨B,F,C,D,G⟩:=hSw;go_simp⟩) A ?_;simp only[Act.put,QD,QK,QI,QJ,QC,QH,QG];refine TK (i:=12) (v:=(.pointer (some ⟨g,o,none⟩))) rfl (Or.inl ⟨by rfl,λw hSw=>by obtain⟨B,F,C,D,G⟩:=hSw;go_simp⟩) A ?_;simp only[Act.put,QD,QK,QI,QJ,QC,QH,QG];refine TK (i:=13) (v:=(.pointer (some ⟨g,o+4,none⟩))) rfl (Or.inl ⟨by rfl,λw hSw=>by obtain⟨B,F,C,D,G⟩:=hSw;go_simp⟩) A ?_;simp only[Act.put,QD,QK,QI,QJ,QC,QH,QG];refine TK (i:=14) (v:=(.slice b3 1 d3)) rfl (Or.inl ⟨by rfl,λw hSw=>by obtain⟨B,F,C,D,G⟩:=hSw;go_simp⟩) A ?_;simp only[Act.put,QD,QK,QI,QJ,QC,QH,QG];refine AR (i:=15) (k:=16) (by kernel_rfl) ?_ ?_
 focus
  refine AB (by decide) (λK5 HK5=>?_);simp only[QE,QL,QF,QN];go_wp2_with fail;refine (aD.out _ ae.out).mono ?_;rintro e N ⟨v,ss,rfl,hpm,hrow,hb5⟩;rw[hpm.length_eq,Hd hpm]at hrow;obtain⟨va,vc,rfl⟩:=Bb hrow;have aI:BB N (.slice va 2 vc) [[70],[71]]:=Ga hrow rfl;have J:=QA (ae.out.trans (hb5.mono ae.out.size));have aH:=QA aI;clear hb5 hrow A aI hpm;have A:=I.out N J.out;go_wp2_with fail;refine HK5.out _ _ ⟨λ_=>A,?_⟩;clear HK5;refine TO (i:=16) ?_;refine AB (by decide) (λK5 HK5=>?_);simp only[QE,QL,QF,QN];go_wp2_with fail;have R:Below N.heap.size N (N.alloc (.cells #[.string ⟨#[70]⟩,.string ⟨#[71]⟩] 9)):=(Below.refl _ _).alloc (QM _) _;have aa:=QA (J.out.trans (R.mono J.out.size));have ao:=QA (aH.out.below R);have X:=QA (Bh N [[70],[71]] #[.string ⟨#[70]⟩,.string ⟨#[71]⟩] 9 rfl);obtain⟨q,hq⟩:∃q,q=N.heap.size:=⟨_,rfl⟩
  obtain⟨w6,ar⟩:∃q,q=N.alloc (.cells #[.string ⟨#[70]⟩,.string ⟨#[71]⟩] 9):=⟨_,rfl⟩
  clear A R;have A:=I.out _ aa.out;rw[← ar]at A aa ao ⊢
  replace X:Hid (BB w6 (.slice (some ⟨N.heap.size,0,none⟩) 2 2) [[70],[71]]):=QA (by rw[ar];exact X.out)
  rw[← hq]at X ⊢;clear hq ar J aH;refine HK5.out _ _ ⟨λ_=>A,?_⟩;clear HK5
 rotate_left
 focus
  refine AB (by decide) (λK5 HK5=>?_);simp only[QE,QL,QF,QN];go_wp2_with fail;have J:Hid (Below E.heap.size E (E.alloc (.cells #[.string ⟨#[70]⟩,.string ⟨#[71]⟩] 9)).drew):=QA ((Below.refl _ _).alloc (QM _) _).drew;have Z:=QA (Bh E [[70],[71]] #[.string ⟨#[70]⟩,.string ⟨#[71]⟩] 9 rfl);obtain⟨q,hq⟩:∃q,q=E.heap.size:=⟨_,rfl⟩
  obtain⟨N,ap⟩:∃q,q=(E.alloc (.cells #[.string ⟨#[70]⟩,.string ⟨#[71]⟩] 9)).drew:=⟨_,rfl⟩
  clear A;have A:=I.out _ J.out;rw[← ap]at A J ⊢
  replace Z:Hid (BB N (.slice (some ⟨E.heap.size,0,none⟩) 2 2) [[70],[71]]):=QA (by rw[ap];exact Z.out)
  rw[← hq]at Z ⊢;clear hq ap;refine HK5.out _ _ ⟨λ_=>A,?_⟩;clear HK5;refine TO (i:=15) ?_;refine AB (by decide) (λK5 HK5=>?_);simp only[QE,QL,QF,QN];go_wp2_with fail;refine (aD.out _ J.out).mono ?_;rintro e w6 ⟨v,ss,rfl,hpm,hrow,R⟩;rw[hpm.length_eq,Hd hpm]at hrow;obtain⟨va,vc,rfl⟩:=Bb hrow;have ao:Hid (BB w6 (.slice va 2 vc) [[70],[71]]):=QA (Ga hrow rfl);have X:=QA (Z.out.below R);have aa:=QA (J.out.trans (R.mono J.out.size));clear R hrow A hpm Z J;have A:=I.out w6 aa.out;go_wp2_with fail;refine HK5.out _ _ ⟨λ_=>A,?_⟩;clear HK5
 all_goals
  have ax:=QA (Hx w6 _ _ _ _ ao.out X.out (by decide));rw[show decide (([[70],[71]]:List (List UInt8))=[[70],[71]])=true by decide]at ax;refine TO (i:=17) ?_;refine AB (by decide) (λK5 HK5=>?_);simp only[QE,QL,QF,QN];go_wp2_with fail;refine ax.out.mono ?_;rintro e w7 ⟨rfl,n7,rfl⟩;have ah:=QA (Below.drewN aa.out n7);clear A ax;have A:=I.out _ ah.out;go_wp2_with fail;refine HK5.out _ _ ⟨λ_=>A,?_⟩;clear HK5;refine TK (i:=18) (v:=(.bool true)) rfl (Or.inl ⟨by rfl,λw hSw=>by obtain⟨B,F,C,D,G⟩:=hSw;go_simp⟩) A ?_;simp only[Act.put,QD,QK,QI,QJ,QC,QH,QG];refine TK (i:=19) (v:=(.bool true)) rfl (Or.inl ⟨by rfl,λw hSw=>by obtain⟨B,F,C,D,G⟩:=hSw;go_simp⟩) A ?_;simp only[Act.put,QD,QK,QI,QJ,QC,QH,QG];refine TK (i:=20) (v:=(.agg #[.slice (some ⟨g,o,none⟩) 1 c1,.slice a2 2 c2])) rfl (Or.inl ⟨by rfl,λw hSw=>by obtain⟨B,F,C,D,G⟩:=hSw;go_simp⟩) A ?_;simp only[Act.put,QD,QK,QI,QJ,QC,QH,QG];refine TO (i:=21) ?_;refine AB (by decide) (λK5 HK5=>?_);simp only[QE,QL,QF,QN];go_wp2_with fail;refine (aZ.out _ ah.out).mono ?_;rintro e w8 ⟨v8,rfl,hh8,hb8⟩;obtain⟨a8,n8,c8,rfl,a4⟩:=BU.form hh8;obtain rfl:n8=0:=a4.out;have T:=QA (ah.out.trans (hb8.mono ah.out.size));clear A hh8 hb8;have A:=I.out _ T.out;go_wp2_with fail;refine HK5.out _ _ ⟨λ_=>A,?_⟩;clear HK5;refine TK (i:=22) (v:=(.int .i64 0)) rfl (Or.inl ⟨by rfl,λw hSw=>by obtain⟨B,F,C,D,G⟩:=hSw;go_simp⟩) A ?_;simp only[Act.put,QD,QK,QI,QJ,QC,QH,QG];refine TK (i:=23) (v:=(.bool true)) rfl (Or.inl ⟨by rfl,λw hSw=>by obtain⟨B,F,C,D,G⟩:=hSw;go_simp⟩) A ?_;simp only[Act.put,QD,QK,QI,QJ,QC,QH,QG];refine TK (i:=24) (v:=(.bool true)) rfl (Or.inl ⟨by rfl,λw hSw=>by obtain⟨B,F,C,D,G⟩:=hSw;go_simp⟩) A ?_;simp only[Act.put,QD,QK,QI,QJ,QC,QH,QG];refine TK (i:=25) (v:=(.bool true)) rfl (Or.inl ⟨by rfl,λw hSw=>by obtain⟨B,F,C,D,G⟩:=hSw;go_simp⟩) A ?_;simp only[Act.put,QD,QK,QI,QJ,QC,QH,QG];refine TK (i:=26) (v:=(.int .i64 0)) rfl (Or.inl ⟨by rfl,λw hSw=>by obtain⟨B,F,C,D,G⟩:=hSw;go_simp⟩) A ?_;simp only[Act.put,QD,QK,QI,QJ,QC,QH,QG];refine TK (i:=27) (v:=(.bool true)) rfl (Or.inl ⟨by rfl,λw hSw=>by obtain⟨B,F,C,D,G⟩:=hSw;go_simp⟩) A ?_;simp only[Act.put,QD,QK,QI,QJ,QC,QH,QG];refine TK (i:=28) (v:=(.bool true)) rfl (Or.inl ⟨by rfl,λw hSw=>by obtain⟨B,F,C,D,G⟩:=hSw;go_simp⟩) A ?_;simp only[Act.put,QD,QK,QI,QJ,QC,QH,QG];refine TK (i:=29) (v:=(.bool true)) rfl (Or.inl ⟨by rfl,λw hSw=>by obtain⟨B,F,C,D,G⟩:=hSw;go_simp⟩) A ?_;simp only[Act.put,QD,QK,QI,QJ,QC,QH,QG];refine TK (i:=30) (v:=(.agg #[.slice e1 0 f1,.slice e2 1 f2])) rfl (Or.inl ⟨by rfl,λw hSw=>by obtain⟨B,F,C,D,G⟩:=hSw;go_simp⟩) A ?_;simp only[Act.put,QD,QK,QI,QJ,QC,QH,QG];refine TK (i:=32) (v:=(.agg #[.int .i64 151,.int .i64 0])) rfl (Or.inl ⟨by rfl,λw hSw=>by obtain⟨B,F,C,D,G⟩:=hSw;go_simp⟩) A ?_;simp only[Act.put,QD,QK,QI,QJ,QC,QH,QG];refine TK (i:=33) (v:=(.agg #[.int .i64 155,.int .i64 0])) rfl (Or.inl ⟨by rfl,λw hSw=>by obtain⟨B,F,C,D,G⟩:=hSw;go_simp⟩) A ?_;simp only[Act.put,QD,QK,QI,QJ,QC,QH,QG];refine TK (i:=34) (v:=(.agg #[.int .i64 156,.int .i64 0])) rfl (Or.inl ⟨by rfl,λw hSw=>by obtain⟨B,F,C,D,G⟩:=hSw;go_simp⟩) A ?_;simp only[Act.put,QD,QK,QI,QJ,QC,QH,QG];refine AR (i:=31) (k:=35) (by kernel_rfl) ?_ ?_
  focus
   refine AB (by decide) (λK5 HK5=>?_);simp only[QE,QL,QF,QN];go_wp2_with fail;refine (aJ.out _ T.out).mono ?_;rintro e w9 ⟨v9,rfl,hh9,V⟩;obtain⟨a9,n9,c9,rfl,-⟩:=BU.form hh9;have K:=QA (T.out.trans (V.mono T.out.size));have aB:=QA hh9;clear A hh9 V;have A:=I.out _ K.out;go_wp2_with fail;refine HK5.out _ _ ⟨λ_=>A,?_⟩;clear HK5;refine TO (i:=35) ?_;refine AB (by decide) (λK5 HK5=>?_);simp only[QE,QL,QF,QN];go_wp2_with fail;have M:Below w9.heap.size w9 (w9.alloc (.cells #[.int .i64 151,.int .i64 0,.int .i64 155,.int .i64 0,.int .i64 156,.int .i64 0] 42)):=(Below.refl _ _).alloc (QM _) _;have Q:=QA (K.out.trans (M.mono K.out.size));have W:=QA (aB.out.pbs.to (AD.below M));have P:=QA (GJ w9 151 0 155 0 156 0);clear A M;have A:=I.out _ Q.out;obtain⟨q3,ab⟩:∃q,q=w9.heap.size:=⟨_,rfl⟩
   obtain⟨ay,U⟩:∃q,q=w9.alloc (.cells #[.int .i64 151,.int .i64 0,.int .i64 155,.int .i64 0,.int .i64 156,.int .i64 0] 42):=⟨_,rfl⟩
   rw[← U]at A Q W ⊢
   replace P:Hid (Pbs ay (λ_=>True) (.slice (some ⟨w9.heap.size,0,none⟩) 3 3) [(151,0),(155,0),(156,0)]):=QA (by rw[U];exact P.out)
   rw[← ab]at P ⊢;clear ab U aB K;refine HK5.out _ _ ⟨λ_=>A,?_⟩;clear HK5
  rotate_left
  focus
   refine AB (by decide) (λK5 HK5=>?_);simp only[QE,QL,QF,QN];go_wp2_with fail;have V:Below w8.heap.size w8 (w8.alloc (.cells #[.int .i64 151,.int .i64 0,.int .i64 155,.int .i64 0,.int .i64 156,.int .i64 0] 42)):=(Below.refl _ _).alloc (QM _) _;have K:=QA (T.out.trans (V.mono T.out.size));have ac:=QA (GJ w8 151 0 155 0 156 0);clear A V;have A:=I.out _ K.out;obtain⟨q3,ab⟩:∃q,q=w8.heap.size:=⟨_,rfl⟩
   obtain⟨w9,au⟩:∃q,q=w8.alloc (.cells #[.int .i64 151,.int .i64 0,.int .i64 155,.int .i64 0,.int .i64 156,.int .i64 0] 42):=⟨_,rfl⟩
   rw[← au]at A K ⊢
   replace ac:Hid (Pbs w9 (λ_=>True) (.slice (some ⟨w8.heap.size,0,none⟩) 3 3) [(151,0),(155,0),(156,0)]):=QA (by rw[au];exact ac.out)
   rw[← ab]at ac ⊢;clear ab au;refine HK5.out _ _ ⟨λ_=>A,?_⟩;clear HK5;refine TO (i:=31) ?_;refine AB (by decide) (λK5 HK5=>?_);simp only[QE,QL,QF,QN];go_wp2_with fail;refine (aJ.out _ K.out).mono ?_;rintro e ay ⟨v9,rfl,hh9,M⟩;obtain⟨a9,n9,c9,rfl,-⟩:=BU.form hh9;have Q:=QA (K.out.trans (M.mono K.out.size));have W:=QA hh9.pbs;have P:=QA (ac.out.to (AD.below M));clear A hh9 M ac K;have A:=I.out _ Q.out;go_wp2_with fail;refine HK5.out _ _ ⟨λ_=>A,?_⟩;clear HK5
  all_goals
   have av:=QA (Ej _ _ _ _ ay _ _ (by decide) W.out P.out);rw[show decide (([(151,0),(155,0),(156,0)]:List Cp.Pb)=[(151,0),(155,0),(156,0)])=true by decide]at av;refine TO (i:=36) ?_;refine AB (by decide) (λK5 HK5=>?_);simp only[QE,QL,QF,QN];go_wp2_with fail;refine av.out.mono ?_;rintro e w11 ⟨rfl,n11,rfl⟩;have an:=QA (Below.drewN Q.out n11);clear A av;have A:=I.out _ an.out;go_wp2_with fail;refine HK5.out _ _ ⟨λ_=>A,?_⟩;clear HK5;refine TK (i:=37) (v:=(.bool true)) rfl (Or.inl ⟨by rfl,λw hSw=>by obtain⟨B,F,C,D,G⟩:=hSw;go_simp⟩) A ?_;simp only[Act.put,QD,QK,QI,QJ,QC,QH,QG];refine TK (i:=38) (v:=(.bool true)) rfl (Or.inl ⟨by rfl,λw hSw=>by obtain⟨B,F,C,D,G⟩:=hSw;go_simp⟩) A ?_;simp only[Act.put,QD,QK,QI,QJ,QC,QH,QG];refine AF (by kernel_rfl) ?_ _;go_wp2_with fail;refine bodyPost_ret (v:=.bool true) (by simp[results,Tryz.results5,go_sem]) rfl ?_;exact⟨rfl,al.out.trans (an.out.mono al.out.size)⟩
end Go.Proofs.YtedeapbonbbacaaGreatDoor
