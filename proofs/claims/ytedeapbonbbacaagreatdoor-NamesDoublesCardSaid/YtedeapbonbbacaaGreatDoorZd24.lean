/-
  The teller told of a selection set's spreads, walked. The fragments that are reached, walked. Documents that a law lays, in memory. What stands while a document's problems are told.
-/
import Derived.Test.YtedeapbonbbacaaGreatDoorZd9
import Derived.Test.YtedeapbonbbacaaGreatDoorZd23
import Derived.Test.YtedeapbonbbacaaGreatDoorZd8
import Derived.Test.YtedeapbonbbacaaGreatDoorZd2
import Derived.Test.YtedeapbonbbacaaGreatDoorZd16
import Derived.Test.YtedeapbonbbacaaGreatDoorZd10
open Array renaming getInternal_eq_getElem → QD
open Go.Lib renaming hid → QA
open List renaming setIfInBounds_toArray → QC, drop_succ_cons → QE, take_succ_cons → QF, set_cons_succ → QG, set_cons_zero → QH, getElem_cons_zero → QI, getElem_cons_succ → QJ, getElem_toArray → QK, drop_zero → QL, take_zero → QN, length_cons → QO, mem_cons_self → QP, length_append → QS, mem_cons_of_mem → QT, length_map → QV, append_assoc → ZF, append_nil → ZN, map_append → ZR
open Nat renaming le_refl → QM, le_trans → QQ, lt_of_lt_of_le → ZU
namespace Go.Proofs.YtedeapbonbbacaaGreatDoor
set_option maxRecDepth 100000
set_option linter.unusedSimpArgs false
set_option linter.unusedVariables false
open Go Go.RowKit
theorem Nq.unk_snoc (fs:List Nq.It) (l:List Nq.Sp) (s:Nq.Sp):Nq.unk fs (l++[s])=Nq.unk fs l++Nq.told (decide ((0:Int)≤Nq.place (Nq.idx fs s.1))) 157 s.2:=by
 unfold Nq.unk Nq.told;rw[List.flatMap_append,List.flatMap_cons,List.flatMap_nil,ZN]
 congr 1
 cases Nq.idx fs s.1 with
 | none=>rfl
 | some i=>simp[Nq.place]
theorem Nq.unk_le (fs:List Nq.It):∀l:List Nq.Sp,(Nq.unk fs l).length≤l.length
 | []=>QM _
 | s::r=>by
  have h:=Nq.unk_le fs r;unfold Nq.unk at h ⊢;rw[List.flatMap_cons,QS,QO];have:(if (Nq.idx fs s.1).isSome then [] else [((157:Int),s.2)]).length≤1:=by split<;>simp
  omega
set_option maxHeartbeats 8000000 in
theorem FN (base xb:Nat) (fv:Value) (l0:List Cp.Pb) (fs:List Dq.Fr) (hl:fs.length≤1000000000) (a1:Option Addr) (n1 c1:Nat) (a2:Option Addr) (c2:Nat) (ls:List Dq.Sel) (hn:Dq.Sel.numl ls≤1000000000) (a:Option Addr) (c:Nat) (w:World) (P:Nat→Prop)
  (hP:∀g,P g→g<w.heap.size∧g≠xb∧fv.ownBlock≠some g) (hRf:Reads w P (.seq 5 (fs.map Dq.Fr.d)) [.slice a2 fs.length c2]) (hRl:Reads w P (.seq 7 (ls.map Dq.Sel.d)) [.slice a ls.length c])
  (h:Bz w base xb fv l0) (hl0:l0.length+(Dq.sp ls).length≤1000000) :
  Calls Tryz.prog 15 #[.pointer (some ⟨xb,0,none⟩),.agg #[.slice a1 n1 c1,.slice a2 fs.length c2],.slice a ls.length c] w λe w'=>e=.returned (.tuple #[])∧∃fv',Bz w' base xb fv' (l0++Nq.unk (fs.map Dq.Fr.it) (Dq.sp ls))∧Bf w w' xb fv fv':=by
 have X:Below w.heap.size w (w.alloc (.cells #[.slice a1 n1 c1,.slice a2 fs.length c2] 29)):=(Below.refl _ _).alloc (QM _) _;have aJ:(w.alloc (.cells #[.slice a1 n1 c1,.slice a2 fs.length c2] 29)).heap[w.heap.size]?=some (.cells #[.slice a1 n1 c1,.slice a2 fs.length c2] 29 (0,0)):=AC _ _;have az:=QA (CR ls hn a c (w.alloc (.cells #[.slice a1 n1 c1,.slice a2 fs.length c2] 29)) P (λg hg=>ZU (hP g hg).1 X.size) (hRl.to (AD.below X)));have ag:=QA X;have aF:=QA aJ;have HP:=QA hP;have a0:=QA hRf;have HT:=QA h;clear X aJ hP hRf hRl h;go_enter Tryz.func15,Tryz.ntmps15;go_wp2_with fail;refine az.out.mono ?_;rintro e w2 ⟨v2,rfl,hb2,hg2⟩;obtain⟨a9,c9,av⟩:=hg2.form;rw[QV]at av;subst av;have aY:=block_lt aF.out;have ai:Hid (w2.heap[w.heap.size]?=_):=QA ((hb2.block _ aY).trans aF.out);have H:Hid (Below w.heap.size w w2):=QA (ag.out.trans (hb2.mono ag.out.size));have ba:=H.out.size;obtain⟨Q,hQ⟩:∃Q:Nat→Prop,Q=λg=>g<w2.heap.size∧g≠xb∧fv.ownBlock≠some g:=⟨_,rfl⟩
 have M:∀g,w.heap.size≤g→g≠xb∧fv.ownBlock≠some g:=λg hg=>⟨by have:=HT.out.lt;omega,λe=>by have:=(HT.out.own.lt g e).2;omega⟩
 have aX:Hid (Reads w2 Q (.seq 7 ((Dq.Sel.sprl ls).map Dq.Sel.d)) [.slice a9 (Dq.Sel.sprl ls).length c9]):=by
  have h9:=hg2.reads.to (Q:=Q) (AD.sub w2 (λx hx hp=>by
   rw[hQ];rcases hp with hp|hp
   ·exact⟨hx,(HP.out x hp).2⟩
   ·have h1:=(hg2.lt x hp).1;exact⟨hx,M x (by have:=ag.out.size;omega)⟩))
  exact QA h9
 have aH:Hid (Reads w2 Q (.seq 5 (fs.map Dq.Fr.d)) [.slice a2 fs.length c2]):=QA (a0.out.to ⟨H.out.size,λg hg hp=>⟨by rw[hQ];exact⟨ZU hg H.out.size,(HP.out g hp).2⟩,H.out.block g hg⟩⟩);have aS:Hid (Bz w2 base xb fv l0):=QA (HT.out.keep H.out);have aa:Hid (Q w.heap.size):=QA (by rw[hQ];exact⟨block_lt ai.out,M _ (QM _)⟩);have J:Hid (∀g,Q g→g<w2.heap.size∧g≠xb∧fv.ownBlock≠some g):=QA (λg hg=>by rw[hQ]at hg;exact hg);have bg:=Dq.Sel.sprl_num ls;clear hb2 hg2 az hQ M;go_wp2_with fail
 go_loopg [11] ((Dq.Sel.sprl ls).length+1) (λk i wr=>∃j:Nat,k=(Dq.Sel.sprl ls).length+1-j∧j≤(Dq.Sel.sprl ls).length∧i=.int .i64 j∧∃fv',Bz wr base xb fv' (l0++Nq.unk (fs.map Dq.Fr.it) (((Dq.Sel.sprl ls).take j).map λs=>(s.name,s.at_)))∧Bf w2 wr xb fv fv')
 case atStart=>exact⟨0,rfl,Nat.zero_le _,rfl,fv,by rw[QN,show Nq.unk (fs.map Dq.Fr.it) ([].map λs:Dq.Sel=>(s.name,s.at_))=[] from rfl,ZN];exact aS.out,Bf.of_below (Below.refl _ _)⟩
 case round =>
  obtain⟨j,aO,hj,rfl,E,aP,aD⟩:=hrel;have HK:=QA aO;have R:=QA aP;have O:=QA aD;clear aO aP aD;by_cases hjl:j<(Dq.Sel.sprl ls).length;rotate_left
  ·have e5:decide (j<(Dq.Sel.sprl ls).length)=false:=decide_eq_false hjl;obtain rfl:j=(Dq.Sel.sprl ls).length:=by omega
   go_wp2_with fail;go_end0;refine⟨rfl,E,by have:=R.out;rw[List.take_length]at this;exact this,(Bf.of_below H.out).trans O.out⟩
  have e5:decide (j<(Dq.Sel.sprl ls).length)=true:=decide_eq_true hjl;obtain⟨s,hs⟩:∃s,(Dq.Sel.sprl ls)[j]?=some s:=⟨_,List.getElem?_eq_getElem hjl⟩
  have V:AD w2 Q wr (λ_=>True):=⟨O.out.but.size,λg hg hp=>⟨trivial,O.out.but.block g hg (λe=>e.elim (J.out g hp).2.1 (J.out g hp).2.2)⟩⟩
  have ad:wr.heap[w.heap.size]?=some (.cells #[.slice a1 n1 c1,.slice a2 fs.length c2] 29 (0,0)):=(V.block _ (block_lt ai.out) aa.out).2.trans ai.out;obtain⟨g,o,cs,ha,a3,aR,aM,A,hd⟩:=(aX.out.to V).el j s.d (by rw[List.getElem?_map,hs];rfl);obtain⟨a4,a5,a6,c4,c5,c6,rfl,-⟩:=Dq.Sel.opened hd;subst ha;have k0:wr.cell? ⟨g,o+j*7,none⟩=_:=A 0 _ rfl;have k1:wr.cell? ⟨g,o+j*7+1,none⟩=_:=A 1 _ rfl;have k2:wr.cell? ⟨g,o+j*7+2,none⟩=_:=A 2 _ rfl;have k3:wr.cell? ⟨g,o+j*7+3,none⟩=_:=A 3 _ rfl;have k4:wr.cell? ⟨g,o+j*7+4,none⟩=_:=A 4 _ rfl;have k5:wr.cell? ⟨g,o+j*7+5,none⟩=_:=A 5 _ rfl;have k6:wr.cell? ⟨g,o+j*7+6,none⟩=_:=A 6 _ rfl;have G:Below wr.heap.size wr (wr.alloc (.cells #[.int .i64 s.kind,.string ⟨s.nick.toArray⟩,.string ⟨s.name.toArray⟩,.slice a4 s.args.length c4,.slice a5 s.dirs.length c5,.slice a6 s.sels.length c6,.int .i64 s.at_] 34)):=(Below.refl _ _).alloc (QM _) _;have N:(wr.alloc (.cells #[.int .i64 s.kind,.string ⟨s.nick.toArray⟩,.string ⟨s.name.toArray⟩,.slice a4 s.args.length c4,.slice a5 s.dirs.length c5,.slice a6 s.sels.length c6,.int .i64 s.at_] 34)).heap[w.heap.size]?=some (.cells #[.slice a1 n1 c1,.slice a2 fs.length c2] 29 (0,0)):=(G.block _ (block_lt ad)).trans ad;have L:(wr.alloc (.cells #[.int .i64 s.kind,.string ⟨s.nick.toArray⟩,.string ⟨s.name.toArray⟩,.slice a4 s.args.length c4,.slice a5 s.dirs.length c5,.slice a6 s.sels.length c6,.int .i64 s.at_] 34)).heap[wr.heap.size]?=some (.cells #[.int .i64 s.kind,.string ⟨s.nick.toArray⟩,.string ⟨s.name.toArray⟩,.slice a4 s.args.length c4,.slice a5 s.dirs.length c5,.slice a6 s.sels.length c6,.int .i64 s.at_] 34 (0,0)):=AC _ _;obtain⟨W,hW⟩:∃W,W=(wr.alloc (.cells #[.int .i64 s.kind,.string ⟨s.nick.toArray⟩,.string ⟨s.name.toArray⟩,.slice a4 s.args.length c4,.slice a5 s.dirs.length c5,.slice a6 s.sels.length c6,.int .i64 s.at_] 34)):=⟨_,rfl⟩
  rw[← hW]at G N L;have au:=QA G;have ax:Hid (Reads W (λ_=>True) (.seq 5 (fs.map Dq.Fr.d)) [.slice a2 fs.length c2]):=QA ((aH.out.to V).to (AD.below G));have aL:=QA (R.out.keep G);have Y:Hid (w.heap.size≠xb∧wr.heap.size≠xb∧E.ownBlock≠some w.heap.size∧E.ownBlock≠some wr.heap.size):=by
   refine QA ⟨(J.out _ aa.out).2.1,by have:=R.out.lt;omega,λe=>?_,λe=>by have:=(R.out.own.lt _ e).2;omega⟩;rcases O.out.own _ e with e2|e2
   ·exact (J.out _ aa.out).2.2 e2
   ·have:=(J.out _ aa.out).1;omega
  have aq:Hid (∀w':World,w'.heap[w.heap.size]?=W.heap[w.heap.size]?→w'.heap[wr.heap.size]?=W.heap[wr.heap.size]?→w'.cell? ⟨w.heap.size,0,none⟩=some (.slice a1 n1 c1)∧w'.cell? ⟨w.heap.size,1,none⟩=some (.slice a2 fs.length c2)∧w'.cell? ⟨wr.heap.size,2,none⟩=some (.string ⟨s.name.toArray⟩)∧w'.cell? ⟨wr.heap.size,6,none⟩=some (.int .i64 s.at_)):=QA (λw' h1 h2=>⟨AA (h1.trans N) 0 _ rfl,AA (h1.trans N) 1 _ rfl,AA (h2.trans L) 2 _ rfl,AA (h2.trans L) 6 _ rfl⟩);have F:Hid (w.heap.size<W.heap.size∧wr.heap.size<W.heap.size):=QA ⟨block_lt N,block_lt L⟩;have K:Hid (∀w':World,Below W.heap.size W w'→w'.cell? ⟨w.heap.size,0,none⟩=some (.slice a1 n1 c1)∧w'.cell? ⟨w.heap.size,1,none⟩=some (.slice a2 fs.length c2)∧w'.cell? ⟨wr.heap.size,2,none⟩=some (.string ⟨s.name.toArray⟩)∧w'.cell? ⟨wr.heap.size,6,none⟩=some (.int .i64 s.at_)):=QA (λw' hb=>aq.out w' (hb.block _ F.out.1) (hb.block _ F.out.2));have aW:Hid (∀(B w':World) (fv':Value),Below W.heap.size W B→Bf B w' xb E fv'→w'.cell? ⟨w.heap.size,0,none⟩=some (.slice a1 n1 c1)∧w'.cell? ⟨w.heap.size,1,none⟩=some (.slice a2 fs.length c2)∧w'.cell? ⟨wr.heap.size,2,none⟩=some (.string ⟨s.name.toArray⟩)∧w'.cell? ⟨wr.heap.size,6,none⟩=some (.int .i64 s.at_)):=by
   refine QA (λB w' fv' hb ht=>aq.out w' ?_ ?_)
   ·exact (ht.but.block _ (ZU F.out.1 hb.size) (λe=>e.elim Y.out.1 Y.out.2.2.1)).trans (hb.block _ F.out.1)
   ·exact (ht.but.block _ (ZU F.out.2 hb.size) (λe=>e.elim Y.out.2.1 Y.out.2.2.2)).trans (hb.block _ F.out.2)
  have aw:(l0++Nq.unk (fs.map Dq.Fr.it) (((Dq.Sel.sprl ls).take j).map λs=>(s.name,s.at_))).length≤1000000:=by
   have h1:=Nq.unk_le (fs.map Dq.Fr.it) (((Dq.Sel.sprl ls).take j).map λs=>(s.name,s.at_));rw[QV,List.length_take]at h1;rw[Dq.sp,QV]at hl0;rw[QS];omega
  obtain⟨pl,Z⟩:∃pl,pl=Nq.place (Nq.idx (fs.map Dq.Fr.it) s.name):=⟨_,rfl⟩
  have an:Hid (∀B:World,Below W.heap.size W B→Calls Tryz.prog 16 #[.agg #[.slice a1 n1 c1,.slice a2 fs.length c2],.string ⟨s.name.toArray⟩] B (λe w'=>e=.returned (.int .i64 pl)∧Below B.heap.size B w')):=QA (λB hb=>by rw[Z];exact DL fs hl a1 n1 c1 a2 c2 s.name B (ax.out.to (AD.below hb)));have aZ:Hid (∀(B:World) (q:Nat),Below W.heap.size W B→B.cell? ⟨q,0,none⟩=some (.int .i64 s.at_)→Calls Tryz.prog 12 #[.pointer (some ⟨xb,0,none⟩),.bool (decide (0≤pl)),.int .i64 157,.slice (some ⟨q,0,none⟩) 1 1] B λe w'=>e=.returned (.tuple #[])∧∃fv',Bz w' base xb fv' (l0++Nq.unk (fs.map Dq.Fr.it) (((Dq.Sel.sprl ls).take (j+1)).map λs=>(s.name,s.at_)))∧Bf B w' xb E fv'):=by
   refine QA (λB q hb hq=>?_);have h9:=DN base xb E _ (decide (0≤pl)) 157 s.at_ q 0 1 B (aL.out.keep hb) aw hq;rw[ZF,Z,← Nq.unk_snoc (fs.map Dq.Fr.it) _ (s.name,s.at_),show [(s.name,s.at_)]=[s].map (λs:Dq.Sel=>(s.name,s.at_)) from rfl,← ZR]at h9;rw[List.take_add_one,hs,Option.toList_some,Z];exact h9
  have aB:Hid (∀(B w':World) (fv':Value),Below W.heap.size W B→Bf B w' xb E fv'→Bf w2 w' xb fv fv'):=QA (λB w' fv' hb ht=>O.out.trans ((Bf.of_below (au.out.trans (hb.mono au.out.size))).trans ht));have a7:=QA hW.symm;clear hW G N L ad V hs hd A aM aR a3 aw Z;go_wp2_with fail;rw[a7.out];refine AH (λw'=>w'.cell? ⟨w.heap.size,0,none⟩=some (.slice a1 n1 c1)∧w'.cell? ⟨w.heap.size,1,none⟩=some (.slice a2 fs.length c2)∧w'.cell? ⟨wr.heap.size,2,none⟩=some (.string ⟨s.name.toArray⟩)∧w'.cell? ⟨wr.heap.size,6,none⟩=some (.int .i64 s.at_)) 10 (by kernel_rfl) ?_;have U:Hid (Below W.heap.size W W.drew):=QA (Below.drewN (Below.refl _ _) 1);have C:=K.out W.drew U.out;clear k0 k1 k2 k3 k4 k5 k6;refine TK (i:=0) (v:=(.pointer (some ⟨xb,0,none⟩))) rfl (Or.inl ⟨by rfl,λw hSw=>by obtain⟨s0,s1,s2,s6⟩:=hSw;go_simp⟩) C ?_;simp only[Act.put,QD,QK,QI,QJ,QC,QH,QG];refine TK (i:=1) (v:=(.agg #[.slice a1 n1 c1,.slice a2 fs.length c2])) rfl (Or.inl ⟨by rfl,λw hSw=>by obtain⟨s0,s1,s2,s6⟩:=hSw;go_simp⟩) C ?_;simp only[Act.put,QD,QK,QI,QJ,QC,QH,QG];refine TK (i:=2) (v:=(.pointer (some ⟨wr.heap.size,2,none⟩))) rfl (Or.inl ⟨by rfl,λw hSw=>by obtain⟨s0,s1,s2,s6⟩:=hSw;go_simp⟩) C ?_;simp only[Act.put,QD,QK,QI,QJ,QC,QH,QG];refine TK (i:=3) (v:=(.string ⟨s.name.toArray⟩)) rfl (Or.inl ⟨by rfl,λw hSw=>by obtain⟨s0,s1,s2,s6⟩:=hSw;go_simp⟩) C ?_;simp only[Act.put,QD,QK,QI,QJ,QC,QH,QG];refine TK (i:=6) (v:=(.pointer (some ⟨wr.heap.size,6,none⟩))) rfl (Or.inl ⟨by rfl,λw hSw=>by obtain⟨s0,s1,s2,s6⟩:=hSw;go_simp⟩) C ?_;simp only[Act.put,QD,QK,QI,QJ,QC,QH,QG];refine TK (i:=7) (v:=(.int .i64 s.at_)) rfl (Or.inl ⟨by rfl,λw hSw=>by obtain⟨s0,s1,s2,s6⟩:=hSw;go_simp⟩) C ?_;simp only[Act.put,QD,QK,QI,QJ,QC,QH,QG];refine AR (i:=4) (k:=8) (by kernel_rfl) ?ra ?rb
  case' ra =>
   refine AB (by decide) (λK5 HK5=>?_);simp only[QE,QL,QF,QN];go_wp2_with fail;refine (an.out _ U.out).mono ?_;rintro e B ⟨rfl,hb5⟩;have D:=QA (U.out.trans (hb5.mono U.out.size));clear hb5 C;have C:=K.out B D.out;go_wp2_with fail;refine HK5.out _ _ ⟨λ_=>C,?_⟩;clear HK5;refine TK (i:=5) (v:=(.bool (decide (0≤pl)))) rfl (Or.inl ⟨by rfl,λw hSw=>by obtain⟨s0,s1,s2,s6⟩:=hSw;go_simp⟩) C ?_;simp only[Act.put,QD,QK,QI,QJ,QC,QH,QG];refine TO (i:=8) ?_;refine AB (by decide) (λK5 HK5=>?_);simp only[QE,QL,QF,QN];go_wp2_with fail;obtain⟨q,hq⟩:∃q,q=B.heap.size:=⟨_,rfl⟩
   obtain⟨w6,S⟩:∃q,q=B.alloc (.cells #[.int .i64 s.at_] 3):=⟨_,rfl⟩
   have I:Hid (Below W.heap.size W w6):=QA (by rw[S];exact D.out.alloc D.out.size _);have aN:Hid (w6.cell? ⟨q,0,none⟩=some (.int .i64 s.at_)):=QA (by rw[S,hq];exact AK B #[.int .i64 s.at_] 3 (0,0) 0 _ rfl);rw[← S,← hq];clear C D hq S;have C:=K.out w6 I.out;refine HK5.out _ _ ⟨λ_=>C,?_⟩;clear HK5
  case' rb =>
   refine AB (by decide) (λK5 HK5=>?_);simp only[QE,QL,QF,QN];go_wp2_with fail;obtain⟨q,hq⟩:∃q,q=W.heap.size:=⟨_,rfl⟩
   obtain⟨B,T⟩:∃q,q=(W.alloc (.cells #[.int .i64 s.at_] 3)).drew:=⟨_,rfl⟩
   have D:Hid (Below W.heap.size W B):=QA (by rw[T];exact ((Below.refl _ _).alloc (QM _) _).drew);have ac:Hid (B.cell? ⟨q,0,none⟩=some (.int .i64 s.at_)):=QA (by rw[T,hq];exact AK W #[.int .i64 s.at_] 3 (0,0) 0 _ rfl);rw[← T,← hq];clear C hq T;have C:=K.out B D.out;refine HK5.out _ _ ⟨λ_=>C,?_⟩;clear HK5;refine TO (i:=4) ?_;refine AB (by decide) (λK5 HK5=>?_);simp only[QE,QL,QF,QN];go_wp2_with fail;refine (an.out _ D.out).mono ?_;rintro e w6 ⟨rfl,hb6⟩;have I:=QA (D.out.trans (hb6.mono D.out.size));have aN:Hid (w6.cell? ⟨q,0,none⟩=some (.int .i64 s.at_)):=QA ((hb6.cell (p:=⟨q,0,none⟩) (BK ac.out)).trans ac.out);clear hb6 C D ac;have C:=K.out w6 I.out;go_wp2_with fail;refine HK5.out _ _ ⟨λ_=>C,?_⟩;clear HK5;refine TK (i:=5) (v:=(.bool (decide (0≤pl)))) rfl (Or.inl ⟨by rfl,λw hSw=>by obtain⟨s0,s1,s2,s6⟩:=hSw;go_simp⟩) C ?_;simp only[Act.put,QD,QK,QI,QJ,QC,QH,QG]
  all_goals
   have ap:=QA (aZ.out _ q I.out aN.out);clear C;refine TO (i:=9) ?_;refine AB (by decide) (λK5 HK5=>?_);simp only[QE,QL,QF,QN];go_wp2_with fail;refine ap.out.mono ?_;rintro e w7 ⟨rfl,fv7,htk7,hto7⟩;have C:=aW.out _ _ _ I.out hto7;have aE:=QA htk7;have am:=QA (aB.out _ _ _ I.out hto7);clear htk7 hto7;go_wp2_with fail;refine HK5.out _ _ ⟨λ_=>C,?_⟩;clear HK5;refine AF (by kernel_rfl) ?_ _;clear C;go_wp2_with fail;go_roundg ((Dq.Sel.sprl ls).length+1-(j+1))
   case measure=>rw[HK.out];omega
   case rel=>exact⟨j+1,rfl,hjl,by go_num,fv7,aE.out,am.out⟩
open Go.Maps Go.WideMaps
theorem FU (fs:List Dq.Fr) (n:List UInt8):Nq.frag (fs.map Dq.Fr.it) n=(fs.find? (λf=>decide (f.name=n))).map Dq.Fr.it:=by
 unfold Nq.frag;rw[List.find?_map];rfl
theorem Cm (l:List Dq.Sel):(Dq.sp l).map Prod.fst=(Dq.Sel.sprl l).map Dq.Sel.name:=by
 unfold Dq.sp;rw[List.map_map];rfl
theorem Kq {q:Nat} (h1:1≤(q:Int)) (h2:(q:Int)≤1000001):wrap64 ((q:Int)+1)=(q:Int)+1∧(((q:Int)+1)==1)=false∧decide ((q:Int)+1=1)=false∧decide ((q:Int)=0)=false:=by
 refine⟨by unfold wrap64;omega,?_,decide_eq_false (by omega),decide_eq_false (by omega)⟩;rw[beq_eq_false_iff_ne];omega
theorem EY (m:Fs.Names):strKeys (Fs.datum m)=m.map Prod.fst:=by
 show (m.map Fs.ent).map (λp=>strOf p.1)=_;rw[List.map_map];rfl
theorem CY {w:World} {base base' k n:Nat} {E:TypeId} {v:Value} {cs:List Value} (h:w.ownsRow base E k v n cs) (hb:base'≤base):w.ownsRow base' E k v n cs:=by
 refine⟨h.1,?_⟩;rcases h.2 with h2|⟨g,cap,cur,hv,hg,r⟩
 ·exact .inl h2
 ·exact .inr ⟨g,cap,cur,hv,QQ hb hg,r⟩
theorem Ab.cons_inv {w:World} {P:Nat→Prop} {k:Nat} {d:D} {ds:List D} {cs:List Value} (h:Ab w P k (d::ds) cs):∃x y,cs=x++y∧Reads w P d x∧x.length=k∧Ab w P k ds y:=by
 cases h with
 | cons h1 h2 h3=>exact⟨_,_,rfl,h1,h2,h3⟩
set_option maxHeartbeats 8000000 in
theorem Db (fs:List Dq.Fr) (hl:fs.length≤1000000000) (hnm:∀f∈fs,f.name.length≤1000000000) (hfn:∀f∈fs,Dq.Sel.numl f.sels≤1000000000) (l:List Dq.Sel) (hn:Dq.Sel.numl l≤1000000000) (hF:Nq.fuel (fs.map Dq.Fr.it) [] ((Dq.sp l).map Prod.fst)≤1000000)
  (a1:Option Addr) (n1 c1:Nat) (a2:Option Addr) (c2:Nat) (a:Option Addr) (c:Nat) (w:World) (P:Nat→Prop) (hP:∀g,P g→g<w.heap.size)
  (hRf:Reads w P (.seq 5 (fs.map Dq.Fr.d)) [.slice a2 fs.length c2]) (hRl:Reads w P (.seq 7 (l.map Dq.Sel.d)) [.slice a l.length c]) :
  Calls Tryz.prog 11 #[.agg #[.slice a1 n1 c1,.slice a2 fs.length c2],.slice a l.length c] w (λe w'=>∃(v:Value) (ss:List (List UInt8)),e=.returned v∧ss.Perm (Nq.reach (fs.map Dq.Fr.it) (Dq.sp l)) ∧
   w'.ownsRow w.heap.size 9 1 v ss.length ((ss.mergeSort (λx y=>decide (x≤y))).map encStr)∧Below w.heap.size w w'):=by
 have cE:=@run_makeMap Tryz.prog;obtain⟨i0,hi,bX,bV,bS⟩:=info_parts Ff;obtain⟨R,hR⟩:∃x,x=Nq.reach (fs.map Dq.Fr.it) (Dq.sp l):=⟨_,rfl⟩
 rw[← hR];obtain⟨w1,Y⟩:∃x,x=((w.alloc (.cells #[.slice a1 n1 c1,.slice a2 fs.length c2] 29)).alloc (.map #[] 0)):=⟨_,rfl⟩
 have bu:w1.heap.size=w.heap.size+2:=by rw[Y];simp
 have aG:Below w.heap.size w w1:=by rw[Y];exact ((Below.refl _ _).alloc (QM _) _).alloc (by simp) _
 have bl:BZ w1 (w.heap.size+1) []:=by
  rw[Y];have:=World.ownsMap_made (H:=Unit) (w.alloc (.cells #[.slice a1 n1 c1,.slice a2 fs.length c2] 29)) Tryz.prog 9 (plainElem Tryz.prog 3);rw[show (w.alloc (.cells #[.slice a1 n1 c1,.slice a2 fs.length c2] 29)).heap.size=w.heap.size+1 by simp]at this;exact this
 have bo:w1.heap[w.heap.size]?=some (.cells #[.slice a1 n1 c1,.slice a2 fs.length c2] 29 (0,0)):=by
  rw[Y,Lib.alloc_old _ _ _ (by simp)];exact AC _ _
 have ai:=QA (CR l hn a c w1 P (λg hg=>by have:=hP g hg;omega) (hRl.to (AD.below aG)));have bH:=QA Y.symm;have bi:=QA aG;have ch:=QA bl;have cg:=QA bo;have aE:=QA bu;have HP:=QA hP;have cl:=QA hRf;have bQ:=QA hfn;have bG:=QA hnm;have HR:=QA hR;clear Y bu aG bl bo hP hRf hRl hR hfn hnm;go_enter Tryz.func11,Tryz.ntmps11;go_wp2_with fail;rw[bH.out];refine ai.out.mono ?_;rintro e w2 ⟨v2,rfl,hb2,o⟩;obtain⟨cr,J,aB⟩:=o.row;rw[QV,aE.out]at J;have bF:=QA J;have br:=QA aB;have bY:=QA (bi.out.trans (hb2.mono bi.out.size));have ck:Hid (BZ w2 (w.heap.size+1) []):=QA (ch.out.heap (hb2.block _ (by rw[aE.out];omega)));have bZ:Hid (w2.heap[w.heap.size]?=_):=QA ((hb2.block _ (by rw[aE.out];omega)).trans cg.out);clear hb2 o J aB ai;go_wp2_with fail
 go_loopg [6] (Nq.fuel (fs.map Dq.Fr.it) [] ((Dq.sp l).map Prod.fst)+1) (λk nv wr=>∃(kk:Nat) (m:Fs.Names) (seen:List (List UInt8)) (nx:List Dq.Sel) (cs:List Value) (u:Nat),k=kk∧Fs.Seen m seen u∧m.length≤u∧u+kk≤1000001∧BZ wr (w.heap.size+1) m∧AX wr (w.heap.size+2) 34 7 nv nx.length cs∧Ab wr P 7 (nx.map Dq.Sel.d) cs∧Nq.go (fs.map Dq.Fr.it) kk seen (nx.map Dq.Sel.name)=R∧Nq.fuel (fs.map Dq.Fr.it) seen (nx.map Dq.Sel.name)≤kk∧Below w.heap.size w wr∧wr.heap[w.heap.size]?=some (.cells #[.slice a1 n1 c1,.slice a2 fs.length c2] 29 (0,0)))
 case atStart =>
  refine⟨_,[],[],Dq.Sel.sprl l,cr,0,rfl,Fs.Seen.nil,QM _,by omega,ck.out,.of bF.out,br.out,?_,?_,bY.out,bZ.out⟩
  ·rw[← Cm,HR.out];exact Nq.go_more _ _ _ _ _ (QM _) (by omega)
  ·rw[← Cm];omega
 case round =>
  obtain⟨kk,m,seen,nx,cs,u,bA,K,bI,cO,ah,C,aN,W,I,hb,hx⟩:=hrel;have HK:=QA bA;have V:=QA K;clear bA;have D:=QA ah;have cN:=QA C;have cF:=QA W;have HB:=QA hb;have HX:=QA hx;cases nx with
  | nil =>
   obtain⟨p,cc,rfl,-,-⟩:=C.form;have cf:R=seen:=by rw[← W];cases kk<;>rfl
   clear K ah C W hb hx aN;go_wp2_with fail;refine (callsIn_wide.1 (EW (some (w.heap.size+1)) wr)).mono ?_;rintro e w3 ⟨rfl,rfl⟩;go_wp2_with fail;refine (callsIn_wide.1 (Dr (w.heap.size+1) m.length (Fs.datum m) _ wr D.out (by rw[Fs.datum_size];unfold maxLen;omega) (by rw[Fs.datum_size];omega))).mono ?_;rintro e w4 ⟨v4,ss,rfl,hperm,hrow4,-,hb4⟩;have bK:=QA hperm;have G:=QA hrow4;have B:=QA hb4;clear hperm hrow4 hb4;go_wp2_with fail;go_ret;have cL:=HB.out.size;have af:Below w.heap.size w (wr.alloc (.cells #[.map (some (w.heap.size+1))] 76)):=HB.out.alloc HB.out.size _;exact⟨v4,ss,rfl,by rw[cf];exact (bK.out.trans (by rw[EY])).trans V.out.perm,CY G.out (by simp;omega),af.trans (B.out.mono (by simp;omega))⟩
  | cons s r =>
   obtain⟨x,y,cm,hd,ca,bk⟩:=aN.cons_inv;subst cm;have HD:=QA hd;have bR:=QA bk;obtain⟨a4,a5,a6,c4,Z,c6,rfl,-,-,bT⟩:=Dq.Sel.opened hd;have S:=Nq.fuel_skip (fs.map Dq.Fr.it) seen s.name (r.map Dq.Sel.name);rw[List.map_cons]at I W;obtain⟨k1,rfl⟩:∃k1,kk=k1+1:=⟨kk-1,by omega⟩
   have am:=QA I;have ay:=QA W;rcases C.2 with⟨h4,h5⟩|⟨g,off,cap,cur,hv,hbg,hgc,hnc,hcm,hcs,htk⟩
   ·exact absurd h5 (by simp)
   subst hv;have aP:=AX.skip (n:=r.length) C;obtain⟨p2,bW⟩:∃p2,(if cap=1 then some (⟨g,off,none⟩:Addr) else some ⟨g,off+7,none⟩)=p2:=⟨_,rfl⟩
   have aO:sliced (some ⟨g,off,none⟩) 1 (r.length+1) cap 7=.slice p2 r.length (cap-1):=by
    unfold sliced;rw[← bW];simp[Addr.add_lit]
   rw[aO]at aP;have bc:Hid (AX wr (w.heap.size+2) 34 7 (.slice p2 r.length (cap-1)) r.length y):=QA aP;have cp:wr.cell? ⟨g,off,none⟩=some (.int .i64 s.kind):=C.cells 0 _ rfl;have bU:wr.cell? ⟨g,off+1,none⟩=some (.string ⟨s.nick.toArray⟩):=C.cells 1 _ rfl;have bM:wr.cell? ⟨g,off+2,none⟩=some (.string ⟨s.name.toArray⟩):=C.cells 2 _ rfl;have b9:wr.cell? ⟨g,off+3,none⟩=some (.slice a4 s.args.length c4):=C.cells 3 _ rfl;have ci:wr.cell? ⟨g,off+4,none⟩=some (.slice a5 s.dirs.length Z):=C.cells 4 _ rfl;have bO:wr.cell? ⟨g,off+5,none⟩=some (.slice a6 s.sels.length c6):=C.cells 5 _ rfl;have bL:wr.cell? ⟨g,off+6,none⟩=some (.int .i64 s.at_):=C.cells 6 _ rfl;have aS:Below w.heap.size w (wr.alloc (.cells #[.int .i64 s.kind,.string ⟨s.nick.toArray⟩,.string ⟨s.name.toArray⟩,.slice a4 s.args.length c4,.slice a5 s.dirs.length Z,.slice a6 s.sels.length c6,.int .i64 s.at_] 34)):=HB.out.alloc HB.out.size _;have aM:=HB.out.size;have ao:(wr.alloc (.cells #[.int .i64 s.kind,.string ⟨s.nick.toArray⟩,.string ⟨s.name.toArray⟩,.slice a4 s.args.length c4,.slice a5 s.dirs.length Z,.slice a6 s.sels.length c6,.int .i64 s.at_] 34)).heap[w.heap.size]?=some (.cells #[.slice a1 n1 c1,.slice a2 fs.length c2] 29 (0,0)):=by
    rw[Lib.alloc_old _ _ _ (block_lt HX.out)];exact HX.out
   have ba:(wr.alloc (.cells #[.int .i64 s.kind,.string ⟨s.nick.toArray⟩,.string ⟨s.name.toArray⟩,.slice a4 s.args.length c4,.slice a5 s.dirs.length Z,.slice a6 s.sels.length c6,.int .i64 s.at_] 34)).heap[wr.heap.size]?=some (.cells #[.int .i64 s.kind,.string ⟨s.nick.toArray⟩,.string ⟨s.name.toArray⟩,.slice a4 s.args.length c4,.slice a5 s.dirs.length Z,.slice a6 s.sels.length c6,.int .i64 s.at_] 34 (0,0)):=AC _ _;have bg:(wr.alloc (.cells #[.int .i64 s.kind,.string ⟨s.nick.toArray⟩,.string ⟨s.name.toArray⟩,.slice a4 s.args.length c4,.slice a5 s.dirs.length Z,.slice a6 s.sels.length c6,.int .i64 s.at_] 34)).heap.size=wr.heap.size+1:=by simp
   have z0:(wr.alloc (.cells #[.int .i64 s.kind,.string ⟨s.nick.toArray⟩,.string ⟨s.name.toArray⟩,.slice a4 s.args.length c4,.slice a5 s.dirs.length Z,.slice a6 s.sels.length c6,.int .i64 s.at_] 34)).cell? ⟨w.heap.size,0,none⟩=some (.slice a1 n1 c1):=AA ao 0 _ rfl;have z1:(wr.alloc (.cells #[.int .i64 s.kind,.string ⟨s.nick.toArray⟩,.string ⟨s.name.toArray⟩,.slice a4 s.args.length c4,.slice a5 s.dirs.length Z,.slice a6 s.sels.length c6,.int .i64 s.at_] 34)).cell? ⟨w.heap.size,1,none⟩=some (.slice a2 fs.length c2):=AA ao 1 _ rfl;have bb:=QA (Ij fs hl a1 n1 c1 a2 c2 s.name (wr.alloc (.cells #[.int .i64 s.kind,.string ⟨s.nick.toArray⟩,.string ⟨s.name.toArray⟩,.slice a4 s.args.length c4,.slice a5 s.dirs.length Z,.slice a6 s.sels.length c6,.int .i64 s.at_] 34)) P (cl.out.to (AD.below aS)));have aH:=QA aS;have b8:=QA ao;have co:=QA ba;have U:=QA bg;clear K ah C W hb hx aN hd bk bT I S hbg hgc hcs htk aP aO ca aS ao ba bg;go_wp2_with fail;refine bb.out.mono ?_;rintro e w3 ⟨hb3,hres⟩;have cI:=hb3.size;have aD:∀w4,Below w3.heap.size w3 w4→BZ w4 (w.heap.size+1) m∧AX w4 (w.heap.size+2) 34 7 (.slice p2 r.length (cap-1)) r.length y∧Ab w4 P 7 (r.map Dq.Sel.d) y∧Below w.heap.size w w4∧w4.heap[w.heap.size]?=some (.cells #[.slice a1 n1 c1,.slice a2 fs.length c2] 29 (0,0))∧w4.heap[wr.heap.size]?=some (.cells #[.int .i64 s.kind,.string ⟨s.nick.toArray⟩,.string ⟨s.name.toArray⟩,.slice a4 s.args.length c4,.slice a5 s.dirs.length Z,.slice a6 s.sels.length c6,.int .i64 s.at_] 34 (0,0)):=by
    intro w4 hb4;have T:Below (wr.alloc (.cells #[.int .i64 s.kind,.string ⟨s.nick.toArray⟩,.string ⟨s.name.toArray⟩,.slice a4 s.args.length c4,.slice a5 s.dirs.length Z,.slice a6 s.sels.length c6,.int .i64 s.at_] 34)).heap.size (wr.alloc (.cells #[.int .i64 s.kind,.string ⟨s.nick.toArray⟩,.string ⟨s.name.toArray⟩,.slice a4 s.args.length c4,.slice a5 s.dirs.length Z,.slice a6 s.sels.length c6,.int .i64 s.at_] 34)) w4:=hb3.trans (hb4.mono hb3.size);have af:Below wr.heap.size wr w4:=((Below.refl _ _).alloc (QM _) _).trans (T.mono (by have:=U.out;omega));have bf:Below w.heap.size w w4:=aH.out.trans (T.mono aH.out.size);exact⟨D.out.heap (af.block _ D.out.lt),bc.out.to (λg hg=>af.block g (bc.out.lt g hg).2),bR.out.to (Az HP.out HB.out bf af.size),bf,(T.block _ (by have:=U.out;have:=block_lt HX.out;omega)).trans b8.out,(T.block _ (by have:=U.out;omega)).trans co.out⟩
   have ak:=QA aD;clear hb3 aD bb cp bU bM b9 ci bO bL z0 z1;rcases hres with⟨hnone,rfl⟩|⟨f,fcs,hsome,hfd,rfl⟩
   ·have HN:=QA hnone;clear hnone;go_wp2_with fail;go_roundg k1
    case measure=>rw[HK.out];omega
    case rel =>
     obtain⟨b1,b2,b3,b4,b5,b6⟩:=ak.out (w3.alloc (.cells #[.string ⟨#[]⟩,.string ⟨#[]⟩,.slice none 0 0,.slice none 0 0,.int .i64 0] 36)) ((Below.refl _ _).alloc (QM _) _);have o:=ay.out;rw[Nq.go,FU,HN.out]at o;exact⟨k1,m,seen,r,y,u,rfl,V.out,bI,by omega,b1,b2,b3,o,by have:=am.out;have:=Nq.fuel_skip (fs.map Dq.Fr.it) seen s.name (r.map Dq.Sel.name);omega,b4,b5⟩
   ·have aL:=List.mem_of_find?_eq_some hsome;have hfn:f.name=s.name:=of_decide_eq_true (by simpa using List.find?_some hsome);have bt:s.name.length≤maxLen:=by rw[← hfn];have:=bG.out f aL;unfold maxLen;omega
    have E:=keyOf_string_mk Tryz.underlying9 (s:=⟨s.name.toArray⟩) (show s.name.length≤maxLen from bt);have HN:=QA hsome;have aZ:=QA (bQ.out f aL);obtain⟨a7,a8,c7,c8,rfl,-,bd⟩:=Dq.Fr.opened hfd;have cu:=QA bd;obtain⟨b1,b2,b3,b4,b5,b6⟩:=ak.out (w3.alloc (.cells #[.string ⟨f.name.toArray⟩,.string ⟨f.on.toArray⟩,.slice a7 f.dirs.length c7,.slice a8 f.sels.length c8,.int .i64 f.at_] 36)) ((Below.refl _ _).alloc (QM _) _);have ap:=QA b1;have G:=QA b2;have bj:=QA b3;have B:=QA b4;have an:=QA b5;have cG:=QA b6;have a0:(w3.alloc (.cells #[.string ⟨f.name.toArray⟩,.string ⟨f.on.toArray⟩,.slice a7 f.dirs.length c7,.slice a8 f.sels.length c8,.int .i64 f.at_] 36)).heap[w3.heap.size]?=some (.cells #[.string ⟨f.name.toArray⟩,.string ⟨f.on.toArray⟩,.slice a7 f.dirs.length c7,.slice a8 f.sels.length c8,.int .i64 f.at_] 36 (0,0)):=AC _ _;have ce:=QA a0;have aY:(w3.alloc (.cells #[.string ⟨f.name.toArray⟩,.string ⟨f.on.toArray⟩,.slice a7 f.dirs.length c7,.slice a8 f.sels.length c8,.int .i64 f.at_] 36)).heap.size=w3.heap.size+1:=by simp
    have be:=QA aY;have kn:(w3.alloc (.cells #[.string ⟨f.name.toArray⟩,.string ⟨f.on.toArray⟩,.slice a7 f.dirs.length c7,.slice a8 f.sels.length c8,.int .i64 f.at_] 36)).cell? ⟨wr.heap.size,2,none⟩=some (.string ⟨s.name.toArray⟩):=AA b6 2 _ rfl;have aw:Hid (wr.heap.size≠w.heap.size+1):=QA (by have:=D.out.lt;omega);have bn:Hid (w3.heap.size≠w.heap.size+1):=QA (by have:=D.out.lt;have:=U.out;omega);have cw:Hid (w.heap.size≠w.heap.size+1):=QA (by omega);have aC:=QA (Fs.datum_get m s.name);have o:=ay.out;rw[Nq.go,FU,HN.out]at o;have bv:=QA o;clear aL hfn bt hsome hfd bd b1 b2 b3 b4 b5 b6 a0 aY o ak;by_cases hin:s.name∈seen;rotate_left
    ·have hq:=V.out.get_new hin;have HQ:=QA hq;have X:=QA hin;have aJ:=QA (Fs.datum_get (Fs.mput m s.name 1) s.name);have ag:Hid (Fs.mget (Fs.mput m s.name 1) s.name=1):=QA (by rw[Fs.mget_mput,if_pos rfl]);have bN:Hid ((Lit.int .i64 1).wf=true):=QA (by decide);clear hq hin;go_wp2_with (first
      | (at_lookup;refine wpList_lookup_own_int _ rfl _ _ 76 rfl 9 3 .i64 Bj Tryz.underlying76 Tryz.underlying3 (Dt _) (w.heap.size+1) _ _ rfl ap.out _ _ rfl E ?_;intro cc hat hwc;obtain rfl:cc=0:=(by have:=hat.symm.trans aC.out;simp only[DataW.lit.injEq,Lit.int.injEq,true_and]at this;rw[this,HQ.out]);clear hat hwc)
      | (at_mapUpdate;refine wpList_mapUpdate_own _ rfl _ _ _ 76 rfl 9 3 Bj Tryz.underlying76 _ (w.heap.size+1) _ _ rfl ap.out (by unfold maxLen;omega) _ _ _ rfl rfl E _ [] (plainElem_int Tryz.underlying3 bN.out) ?_;intro w5 hown5 hgrow5;have aj:BZ w5 (w.heap.size+1) (Fs.mput m s.name 1):=(by have h:=hown5;rw[Fs.datum_put]at h;exact BZ.of h);have L:=QA aj;have A:=QA hgrow5;have cq:w5.cell? ⟨wr.heap.size,2,none⟩=some (.string ⟨s.name.toArray⟩):=hgrow5.cell kn (λe=>aw.out (Option.some.inj e));have cM:w5.cell? ⟨w3.heap.size,3,none⟩=some (.slice a8 f.sels.length c8):=hgrow5.cell (AA ce.out 3 _ rfl) (λe=>bn.out (Option.some.inj e));clear hown5 hgrow5 aj)
      | (at_lookup;refine wpList_lookup_own_int _ rfl _ _ 76 rfl 9 3 .i64 Bj Tryz.underlying76 Tryz.underlying3 (Dt _) (w.heap.size+1) _ _ rfl L.out _ _ rfl E ?_;intro cc hat hwc;obtain rfl:cc=1:=(by have:=hat.symm.trans aJ.out;simp only[DataW.lit.injEq,Lit.int.injEq,true_and]at this;rw[this,ag.out]);clear hat hwc)
      | fail)
     have cH:=A.out.size;have I:=am.out;have S:=Nq.fuel_skip (fs.map Dq.Fr.it) seen s.name (r.map Dq.Sel.name);have cD:r.length≤1000001:=by
      have:(r.map Dq.Sel.name).length≤Nq.fuel (fs.map Dq.Fr.it) seen (r.map Dq.Sel.name):=by unfold Nq.fuel;omega
      rw[QV]at this;omega
     have aO:(Dq.Sel.sprl f.sels).length≤1000000000:=QQ (Dq.Sel.sprl_num _) aZ.out;have O:Below w.heap.size w w5:=⟨A.out.os.trans B.out.os,A.out.tape.trans B.out.tape,A.out.output.trans B.out.output,QQ B.out.size A.out.size,λk hk=>(A.out.block k (ZU hk B.out.size) (λe=>by simp at e;omega)).trans (B.out.block k hk)⟩
     have bh:=QA O;have ai:=QA (CR f.sels aZ.out a8 c8 w5 P (λg hg=>ZU (HP.out g hg) O.size) (cu.out.to (Az HP.out aH.out O (by have:=be.out;have:=U.out;omega))));have bz:AX w5 (w.heap.size+2) 34 7 (.slice p2 r.length (cap-1)) r.length y:=G.out.to (λg hg=>A.out.block g (G.out.lt g hg).2 (λe=>by simp at e;have:=(G.out.lt g hg).1;omega));have bx:=QA bz;clear I S O bz;refine ai.out.mono ?_;rintro e w6 ⟨v6,rfl,hb6,hg6⟩;obtain⟨bq,N,aA⟩:=hg6.row;rw[QV]at N;have bp:=QA N;have av:=QA aA;have F:=QA hb6;have bm:Hid (AX w6 (w.heap.size+2) 34 7 (.slice p2 r.length (cap-1)) r.length y):=QA (bx.out.to (λg hg=>hb6.block g (bx.out.lt g hg).2));have M:Hid (Below w.heap.size w w6):=QA (bh.out.trans (hb6.mono bh.out.size));have al:w.heap.size+2≤w6.heap.size:=by have:=hb6.size;have:=be.out;have:=U.out;have:=D.out.lt;omega
     clear hb6 hg6 N aA ai;go_wp2_with (first|(at_builtin;refine Cg rfl _ _ 32 rfl (w.heap.size+2) 34 i0 _ 7 120 Tryz.underlying32 hi bX bV bS rfl (by decide) (.slice p2 r.length (cap-1)) r.length y rfl bm.out _ v6 (Dq.Sel.sprl f.sels).length bq rfl bp.out av.out.one (by unfold maxLen;omega) (by omega) al ?_;intro v7 w7 hot7 hg7 hloc7;have b7:=QA hot7;have Q:=QA hg7;clear hot7 hg7 hloc7)|fail);go_roundg k1
     case measure=>rw[HK.out];omega
     case rel =>
      have o:=bv.out;rw[Option.map_some]at o
      replace o:(if s.name∈seen then Nq.go (fs.map Dq.Fr.it) k1 seen (r.map Dq.Sel.name) else Nq.go (fs.map Dq.Fr.it) k1 (seen++[s.name]) (r.map Dq.Sel.name++(Dq.sp f.sels).map Prod.fst))=R:=o
      rw[if_neg X.out,Cm,← ZR]at o;have hfn:=Nq.fuel_new (fs:=fs.map Dq.Fr.it) (seen:=seen) (r:=r.map Dq.Sel.name) (n:=s.name) (f:=f.it) (by rw[FU,HN.out];rfl) X.out;rw[show f.it.sp=Dq.sp f.sels from rfl,Cm,← ZR]at hfn;have I:=am.out;have bw:=Fs.mput_len2 m s.name 1;have a3:(Fs.mdel m s.name).length≤m.length:=List.length_filter_le _ _;have aI:∀k,k<w6.heap.size→k<w.heap.size+2→w7.heap[k]?=w6.heap[k]?:=λk hk hk2=>Q.out.block k hk (λe=>by have:=(bm.out.lt k e.symm).1;omega)
      have aF:Below w.heap.size w w7:=⟨Q.out.os.trans M.out.os,Q.out.tape.trans M.out.tape,Q.out.output.trans M.out.output,QQ M.out.size Q.out.size,λk hk=>(aI k (ZU hk M.out.size) (by omega)).trans (M.out.block k hk)⟩
      refine⟨k1,Fs.mput m s.name 1,seen++[s.name],r++Dq.Sel.sprl f.sels,y++bq,u+1,rfl,V.out.put_new X.out,by omega,by omega,?_,?_,?_,o,by omega,aF,?_⟩
      ·exact L.out.heap ((aI _ (ZU L.out.lt F.out.size) (by omega)).trans (F.out.block _ L.out.lt))
      ·rw[QS];exact b7.out
      ·rw[ZR];exact (bj.out.to (Az HP.out B.out aF (by have:=A.out.size;have:=F.out.size;have:=Q.out.size;omega))).join (av.out.to (Az HP.out M.out aF Q.out.size))
      ·have h4:w.heap.size<(w3.alloc (.cells #[.string ⟨f.name.toArray⟩,.string ⟨f.on.toArray⟩,.slice a7 f.dirs.length c7,.slice a8 f.sels.length c8,.int .i64 f.at_] 36)).heap.size:=block_lt an.out;have h5:w.heap.size<w5.heap.size:=ZU h4 A.out.size;exact (aI _ (ZU h5 F.out.size) (by omega)).trans ((F.out.block _ h5).trans ((A.out.block _ h4 (λe=>by simp at e)).trans an.out))
    ·have hq:=V.out.get_old hin;obtain⟨q,aK⟩:∃q:Nat,Fs.mget m s.name=(q:Int):=⟨(Fs.mget m s.name).toNat,by omega⟩
     rw[aK]at hq;have HQ:=QA aK;have X:=QA hin;obtain⟨aM,cA,cy,cx⟩:=Kq hq.1 (by omega);have cn:=QA aM;have a9:m.length<maxLen:=by unfold maxLen;omega
     have aJ:=QA (Fs.datum_get (Fs.mput m s.name ((q:Int)+1)) s.name);have ag:Hid (Fs.mget (Fs.mput m s.name ((q:Int)+1)) s.name=(q:Int)+1):=QA (by rw[Fs.mget_mput,if_pos rfl]);have cz:=QA hq.1;clear aK hin aM hq;go_wp2_with (first
      | (at_lookup;refine wpList_lookup_own_int _ rfl _ _ 76 rfl 9 3 .i64 Bj Tryz.underlying76 Tryz.underlying3 (Dt _) (w.heap.size+1) _ _ rfl ap.out _ _ rfl E ?_;intro cc hat hwc;obtain rfl:cc=(q:Int):=(by have:=hat.symm.trans aC.out;simp only[DataW.lit.injEq,Lit.int.injEq,true_and]at this;rw[this,HQ.out]);clear hat hwc)
      | (at_mapUpdate;refine wpList_mapUpdate_own _ rfl _ _ _ 76 rfl 9 3 Bj Tryz.underlying76 _ (w.heap.size+1) _ _ rfl ap.out (by first|exact a9|exact Nat.le_of_lt a9) _ _ _ rfl rfl E _ [] (plainElem_int Tryz.underlying3 (wrap64_wf _)) ?_;intro w5 hown5 hgrow5;have aj:BZ w5 (w.heap.size+1) (Fs.mput m s.name ((q:Int)+1)):=(by have h:=hown5;rw[Fs.datum_put,cn.out]at h;exact BZ.of h);have L:=QA aj;have A:=QA hgrow5;have cq:w5.cell? ⟨wr.heap.size,2,none⟩=some (.string ⟨s.name.toArray⟩):=hgrow5.cell kn (λe=>aw.out (Option.some.inj e));clear hown5 hgrow5 aj)
      | (at_lookup;refine wpList_lookup_own_int _ rfl _ _ 76 rfl 9 3 .i64 Bj Tryz.underlying76 Tryz.underlying3 (Dt _) (w.heap.size+1) _ _ rfl L.out _ _ rfl E ?_;intro cc hat hwc;obtain rfl:cc=(q:Int)+1:=(by have:=hat.symm.trans aJ.out;simp only[DataW.lit.injEq,Lit.int.injEq,true_and]at this;rw[this,ag.out]);clear hat hwc)
      | fail)
     go_roundg k1
     case measure=>rw[HK.out];omega
     case rel =>
      have o:=bv.out;rw[Option.map_some]at o
      replace o:(if s.name∈seen then Nq.go (fs.map Dq.Fr.it) k1 seen (r.map Dq.Sel.name) else Nq.go (fs.map Dq.Fr.it) k1 (seen++[s.name]) (r.map Dq.Sel.name++(Dq.sp f.sels).map Prod.fst))=R:=o
      rw[if_pos X.out]at o;have I:=am.out;have S:=Nq.fuel_skip (fs.map Dq.Fr.it) seen s.name (r.map Dq.Sel.name);have bw:=Fs.mput_len2 m s.name ((q:Int)+1);have a3:(Fs.mdel m s.name).length≤m.length:=List.length_filter_le _ _;have bs:=V.out.put_old X.out;rw[HQ.out]at bs;have O:Below w.heap.size w w5:=⟨A.out.os.trans B.out.os,A.out.tape.trans B.out.tape,A.out.output.trans B.out.output,QQ B.out.size A.out.size,λk hk=>(A.out.block k (ZU hk B.out.size) (λe=>by simp at e;omega)).trans (B.out.block k hk)⟩
      refine⟨k1,Fs.mput m s.name ((q:Int)+1),seen,r,y,u+1,rfl,bs,by omega,by omega,L.out,G.out.to (λg hg=>A.out.block g (G.out.lt g hg).2 (λe=>by simp at e;have:=(G.out.lt g hg).1;omega)),bj.out.to (Az HP.out B.out O A.out.size),o,by omega,O,(A.out.block _ (block_lt an.out) (λe=>by simp at e)).trans an.out⟩
theorem KZ (n:Int) (k:Int) (h:0<k) (h2:k<100000):∃N:Nat,wrap64 ((IntKind.u64.wrap n).tmod k)=N∧(N:Int)<k:=by
 have o:0≤IntKind.u64.wrap n:=by
  unfold IntKind.wrap IntKind.bits IntKind.signed;simp;omega
 refine⟨((IntKind.u64.wrap n).tmod k).toNat,?_,?_⟩
 ·rw[Int.tmod_eq_emod_of_nonneg o];have A:=Int.emod_nonneg (IntKind.u64.wrap n) (by omega:k≠0);have B:=Int.emod_lt_of_pos (IntKind.u64.wrap n) h;rw[Int.toNat_of_nonneg A];unfold wrap64;omega
 ·rw[Int.tmod_eq_emod_of_nonneg o];have A:=Int.emod_nonneg (IntKind.u64.wrap n) (by omega:k≠0);have B:=Int.emod_lt_of_pos (IntKind.u64.wrap n) h;omega
namespace Dq
def dblOp (i:Nat):Op:=⟨1,[81],[],[],[.mk 2 [] [70] [] [] [] 50],i⟩
def dblFr (i:Nat):Fr:=⟨[70],[84],[],[.mk 1 [] [97] [] [] [] 0],100+i⟩
theorem dblOp_it (i:Nat):(dblOp i).it=Nq.dOp i:=by
 unfold Op.it dblOp sp Nq.dOp;simp[Sel.sprl,Sel.spr,Sel.name,Sel.at_]
theorem dblFr_it (i:Nat):(dblFr i).it=Nq.dFr i:=by
 unfold Fr.it dblFr sp Nq.dFr;simp[Sel.sprl,Sel.spr,Sel.name,Sel.at_]
end Dq
theorem Hu (w:World) (P:Nat→Prop) (k:Int) (n:List UInt8) (p:Int):Reads w P (Dq.Sel.mk k [] n [] [] [] p).d [.int .i64 k,.string ⟨#[]⟩,.string ⟨n.toArray⟩,.slice none 0 0,.slice none 0 0,.slice none 0 0,.int .i64 p]:=by
 rw[Dq.Sel.d_eq];exact .obj (.cons (.int _) (.cons (.str _) (.cons (.str _) (.cons (.seq .nil) (.cons (.seq .nil) (.cons (.seq .nil) (.cons (.int _) .nil)))))))
theorem Ec {w:World} {P:Nat→Prop} {b:Nat} (hP:P b) {k:Int} {n:List UInt8} {p:Int} {T:TypeId} (h:w.heap[b]?=some (.cells #[.int .i64 k,.string ⟨#[]⟩,.string ⟨n.toArray⟩,.slice none 0 0,.slice none 0 0,.slice none 0 0,.int .i64 p] T (0,0))) :
  Reads w P (.seq 7 ([Dq.Sel.mk k [] n [] [] [] p].map Dq.Sel.d)) [.slice (some ⟨b,0,none⟩) 1 1]:=by
 have o:A5 w P 7 (some ⟨b,0,none⟩) 0 ([Dq.Sel.mk k [] n [] [] [] p].map Dq.Sel.d) :=
  .cons rfl hP (block_lt h) rfl (λj v hv=>by
   rw[show 0+0*7+j=j by omega];exact AA h j v (by simpa using hv)) (Hu w P k n p) .nil
 exact .seq o
theorem JH {w:World} {P:Nat→Prop} {k:Int} {n:List UInt8} {at_:Int} {sels:List Dq.Sel} {a:Option Addr} {c m:Nat} (hm:m=sels.length) (h:Reads w P (.seq 7 (sels.map Dq.Sel.d)) [.slice a m c]) :
  Reads w P (Dq.Op.d ⟨k,n,[],[],sels,at_⟩) [.int .i64 k,.string ⟨n.toArray⟩,.slice none 0 0,.slice none 0 0,.slice a m c,.int .i64 at_] :=
 .obj (.cons (.int _) (.cons (.str _) (.cons (.seq .nil) (.cons (.seq .nil) (.cons h (.cons (.int _) .nil))))))
theorem JG {w:World} {P:Nat→Prop} {n on:List UInt8} {at_:Int} {sels:List Dq.Sel} {a:Option Addr} {c m:Nat} (hm:m=sels.length) (h:Reads w P (.seq 7 (sels.map Dq.Sel.d)) [.slice a m c]) :
  Reads w P (Dq.Fr.d ⟨n,on,[],sels,at_⟩) [.string ⟨n.toArray⟩,.string ⟨on.toArray⟩,.slice none 0 0,.slice a m c,.int .i64 at_] :=
 .obj (.cons (.str _) (.cons (.str _) (.cons (.seq .nil) (.cons h (.cons (.int _) .nil)))))
theorem Ho (w:World) (m:List Cp.Pb) (hm:m.length≤1000):Pbs (w.alloc (.cells (AM m).toArray 42)) (λ_=>True) (.slice (some ⟨w.heap.size,0,none⟩) m.length m.length) m:=by
 have h:Ad (w.alloc (.cells (AM m).toArray 42)) w.heap.size (.slice (some ⟨w.heap.size,0,none⟩) m.length m.length) m :=
  ⟨Ae m,.inr ⟨w.heap.size,m.length,(AM m).toArray,rfl,QM _,AC w _,QM _,by unfold maxLen;omega,by rw[List.size_toArray,Ae],by rw[List.toList_toArray];exact List.take_of_length_le (by rw[Ae];omega)⟩⟩
 exact h.pbs.to (AD.sub _ (λ_ _ _=>trivial))
theorem Be {lo n k:Nat} {E:TypeId} {v:Value} {cs:List Value} {w1 wr w8:World} (h:Below lo w1 wr) (hx:wr.ownsRow lo E k v n cs) (hs:lo≤wr.heap.size) (hg:wr.grownBy w8 v.ownBlock):Below lo w1 w8 :=
 ⟨hg.os.trans h.os,hg.tape.trans h.tape,hg.output.trans h.output,QQ h.size hg.size,λk hk=>by rw[hg.block k (by omega) (λe=>by have:=(hx.lt k e.symm).1;omega)];exact h.block k hk⟩
theorem DW.start (w:World) (T6 E1 E2:TypeId) (k1 k2:Nat):DW w.heap.size (w.heap.size+1) T6 (λx y=>#[x,y]) E1 E2 k1 k2 (.slice none 0 0) (.slice none 0 0) (.slice none 0 0) [] [] [] (w.alloc (.cells #[.slice none 0 0,.slice none 0 0] T6)) :=
 ⟨Nat.lt_succ_self _,by simp,AC _ _,AY.nil _ _ _ _ _,AY.nil _ _ _ _ _,Ad.nil _ _,λx h=>by simp[Value.ownBlock]at h,λx h=>by simp[Value.ownBlock]at h,λx h=>by simp[Value.ownBlock]at h⟩
theorem BP {w:World} {base:Nat} {t:TypeId} {k n:Nat} {v:Value} {cs:List Value} (h:w.ownsRow base t k v n cs):∃a c,v=.slice a n c:=by
 rcases h.2 with⟨h1,h2⟩|⟨g,cap,cur,hv,_⟩
 ·exact⟨none,0,by rw[h1,h2]⟩
 ·exact⟨_,_,hv⟩
theorem Eu (w:World) (P:Nat→Prop):∀l:List (List UInt8),Ab w P 1 (l.map D.str) (l.map encStr)
 | []=>.nil
 | x::r=>by
  have h:=Ab.cons (w:=w) (P:=P) (k:=1) (d:=.str x) (cs:=[.string ⟨x.toArray⟩]) (.str x) rfl (Eu w P r);exact h
theorem Ck {w:World} {base:Nat} {v:Value} {l:List (List UInt8)} (h:w.ownsRow base 9 1 v l.length (l.map encStr)):Reads w (λ_=>True) (.seq 1 (l.map D.str)) [v] :=
 (AY.reads (w:=w) (P:=λ_=>False) (base:=base) (T:=9) (k:=1) (v:=v) (xs:=l.map D.str) ⟨⟨_,by rw[QV];exact h,Eu w _ l⟩,λ_ _ h=>h⟩).to (AD.sub w (λ_ _ _=>trivial))
theorem J3 (ops:List Dq.Op) (n:List UInt8):Nq.idx (ops.map Dq.Op.it) n=ops.findIdx? (λf=>decide (f.name=n)):=by
 unfold Nq.idx;rw[List.findIdx?_map];rfl
namespace Nq
theorem frsP_congr {us us':List (List UInt8)} (h:∀n,n∈us↔n∈us') (fs:List It):∀(l:List It) (i:Nat),frsP us fs i l=frsP us' fs i l
 | [],_=>rfl
 | f::r,i=>by
  rw[frsP,frsP,frsP_congr h fs r];unfold frP;simp only[h]
theorem opsP_snoc (ops fs:List It) (o:It):∀(l:List It) (i:Nat),opsP ops fs i (l++[o])=opsP ops fs i l++opP ops fs (i+l.length) o
 | [],i=>by rw[List.nil_append,opsP,opsP,opsP,ZN];rfl
 | x::r,i=>by rw[List.cons_append,opsP,opsP,opsP_snoc ops fs o r,ZF,QO,show i+1+r.length=i+(r.length+1) by omega]
theorem frsP_snoc (us:List (List UInt8)) (fs:List It) (o:It):∀(l:List It) (i:Nat),frsP us fs i (l++[o])=frsP us fs i l++frP us fs (i+l.length) o
 | [],i=>by rw[List.nil_append,frsP,frsP,frsP,ZN];rfl
 | x::r,i=>by rw[List.cons_append,frsP,frsP,frsP_snoc us fs o r,ZF,QO,show i+1+r.length=i+(r.length+1) by omega]
theorem opP_told (ops fs:List It) (i:Nat) (o:It):opP ops fs i o=told (decide (o.name=[])||decide (place (idx ops o.name)=(i:Int))) 152 o.at_++(told (!decide (o.name=[])||decide (ops.length=1)) 153 o.at_++unk fs o.sp):=by
 have e:place (idx ops o.name)=(i:Int)↔idx ops o.name=some i:=by
  cases idx ops o.name with
  | none=>simp[place]
  | some k =>
   show (k:Int)=(i:Int)↔some k=some i;rw[Option.some_inj];omega
 rw[show decide (place (idx ops o.name)=(i:Int))=decide (idx ops o.name=some i) from decide_eq_decide.2 e];unfold opP told;by_cases h1:o.name=[]<;>by_cases h2:idx ops o.name=some i<;>by_cases h3:ops.length=1<;>simp[h1,h2,h3]
theorem frP_told (us:List (List UInt8)) (fs:List It) (i:Nat) (f:It) (one:Bool) (h:decide (place (idx fs f.name)=(i:Int))=one) :
  frP us fs i f=told one 154 f.at_++(told (one&&decide (f.name∈us)) 155 f.at_++(told (!one||!decide (f.name∈reach fs f.sp)) 156 f.at_++unk fs f.sp)):=by
 have e:place (idx fs f.name)=(i:Int)↔idx fs f.name=some i:=by
  cases idx fs f.name with
  | none=>simp[place]
  | some k =>
   show (k:Int)=(i:Int)↔some k=some i;rw[Option.some_inj];omega
 subst h;rw[show decide (place (idx fs f.name)=(i:Int))=decide (idx fs f.name=some i) from decide_eq_decide.2 e];unfold frP told;by_cases h1:idx fs f.name=some i<;>by_cases h2:f.name∈us<;>by_cases h3:f.name∈reach fs f.sp<;>simp[h1,h2,h3]
theorem used_snoc (fs l:List It) (o:It):used fs (l++[o])=used fs l++reach fs o.sp:=by
 unfold used;rw[List.flatMap_append,List.flatMap_cons,List.flatMap_nil,ZN]
theorem told_le (ok:Bool) (r a:Int):(told ok r a).length≤1:=by unfold told;split<;>simp
theorem LA (ops fs:List It) (i:Nat) (o:It):(opP ops fs i o).length≤2+o.sp.length:=by
 rw[opP_told,QS,QS];have:=told_le (decide (o.name=[])||decide (place (idx ops o.name)=(i:Int))) 152 o.at_;have:=told_le (!decide (o.name=[])||decide (ops.length=1)) 153 o.at_;have:=unk_le fs o.sp;omega
theorem Kt (us:List (List UInt8)) (fs:List It) (i:Nat) (f:It):(frP us fs i f).length≤3+f.sp.length:=by
 rw[frP_told us fs i f _ rfl,QS,QS,QS];have:=told_le (decide (place (idx fs f.name)=(i:Int))) 154 f.at_;have:=told_le (decide (place (idx fs f.name)=(i:Int))&&decide (f.name∈us)) 155 f.at_;have:=told_le (!decide (place (idx fs f.name)=(i:Int))||!decide (f.name∈reach fs f.sp)) 156 f.at_;have:=unk_le fs f.sp;omega
theorem opsP_le (ops fs:List It) (c:Nat):∀(l:List It) (i:Nat),(∀o∈l,o.sp.length≤c)→(opsP ops fs i l).length≤l.length*(2+c)
 | [],_,_=>by simp[opsP]
 | x::r,i,h=>by
  have C:=LA ops fs i x;have A:=h x QP;have B:=opsP_le ops fs c r (i+1) (λo ho=>h o (QT _ ho));rw[opsP,QS,QO,Nat.succ_mul];omega
theorem frsP_le (us:List (List UInt8)) (fs:List It) (c:Nat):∀(l:List It) (i:Nat),(∀o∈l,o.sp.length≤c)→(frsP us fs i l).length≤l.length*(3+c)
 | [],_,_=>by simp[frsP]
 | x::r,i,h=>by
  have C:=Kt us fs i x;have A:=h x QP;have B:=frsP_le us fs c r (i+1) (λo ho=>h o (QT _ ho));rw[frsP,QS,QO,Nat.succ_mul];omega
theorem Fc (fs:List It):∀(k:Nat) (seen next:List (List UInt8)),(go fs k seen next).length≤seen.length+k
 | 0,seen,_=>by rw[go];omega
 | k+1,seen,[]=>by rw[go];omega
 | k+1,seen,n::r=>by
  rw[go];cases hf:frag fs n with
  | none=>have:=Fc fs k seen r;show (go fs k seen r).length≤_;omega
  | some f =>
   show (if n∈seen then _ else _:List (List UInt8)).length≤_;by_cases hn:n∈seen
   ·rw[if_pos hn];have:=Fc fs k seen r;omega
   ·rw[if_neg hn];have:=Fc fs k (seen++[n]) (r++f.sp.map Prod.fst);rw[QS,List.length_singleton]at this;omega
theorem reach_len (fs:List It) (l:List Sp):(reach fs l).length≤fuel fs [] (l.map Prod.fst):=by
 have:=Fc fs (fuel fs [] (l.map Prod.fst)) [] (l.map Prod.fst)
 simpa [reach] using this
theorem mass_le (c:Nat) (seen:List (List UInt8)):∀fs:List It,(∀f∈fs,f.sp.length≤c)→DF seen fs≤fs.length*c
 | [],_=>by simp[DF]
 | f::r,h=>by
  have A:=h f QP;have o:=mass_le c seen r (λg hg=>h g (QT _ hg));rw[DF,QO,Nat.succ_mul];split<;>omega
end Nq
structure Nsm (ops:List Dq.Op) (fs:List Dq.Fr):Prop where
 lo:ops.length≤100
 lf:fs.length≤100
 so:∀o∈ops,Dq.Sel.numl o.sels≤100
 sf:∀f∈fs,Dq.Sel.numl f.sels≤100
 nf:∀f∈fs,f.name.length≤100
theorem ED (l:List Dq.Sel):(Dq.sp l).length≤Dq.Sel.numl l:=by unfold Dq.sp;rw[QV];exact Dq.Sel.sprl_num l
theorem Nsm.fuel {ops:List Dq.Op} {fs:List Dq.Fr} (h:Nsm ops fs) {l:List Dq.Sel} (hl:Dq.Sel.numl l≤100):Nq.fuel (fs.map Dq.Fr.it) [] ((Dq.sp l).map Prod.fst)≤10100:=by
 have o:=Nq.mass_le 100 [] (fs.map Dq.Fr.it) (λf hf=>by
  obtain⟨g,A,rfl⟩:=List.mem_map.1 hf;exact QQ (ED g.sels) (h.sf g A))
 rw[QV]at o;have B:=ED l;have C:=h.lf;unfold Nq.fuel;rw[QV];have:fs.length*100≤10000:=by omega
 omega
structure PS (b0:Nat) (w0:World) (bx:List (Nat×Obj)) (fv nv:Value) (l:List Cp.Pb) (us:List (List UInt8)) (w:World):Prop where
 tk:Bz w (b0+1) (b0+1) fv l
 ow:w.ownsRow (b0+2) 9 1 nv us.length (us.map encStr)
 ap:∀g,nv.ownBlock=some g→fv.ownBlock≠some g
 bel:Below b0 w0 w
 kb:∀p∈bx,w.heap[p.1]?=some p.2∧fv.ownBlock≠some p.1∧nv.ownBlock≠some p.1∧p.1≠b0+1
section
variable {b0 : Nat} {w0 w w' w8 : World} {bx : List (Nat × Obj)} {fv fv' nv nv' : Value} {l l' : List Cp.Pb} {us ss : List (List UInt8)}
theorem PS.low (h:PS b0 w0 bx fv nv l us w):b0+2≤w.heap.size:=h.tk.lt
theorem PS.below (h:PS b0 w0 bx fv nv l us w) (hb:Below w.heap.size w w'):PS b0 w0 bx fv nv l us w' :=
 ⟨h.tk.keep hb,BG h.ow (λg hg=>hb.block g (h.ow.lt g hg).2),h.ap,h.bel.trans (hb.mono (by have:=h.low;omega)),λp hp=>by
  obtain⟨o,A,B,C⟩:=h.kb p hp;exact⟨(hb.block _ (block_lt o)).trans o,A,B,C⟩⟩
theorem PS.told (h:PS b0 w0 bx fv nv l us w) (hk:Bz w' (b0+1) (b0+1) fv' l') (ht:Bf w w' (b0+1) fv fv'):PS b0 w0 bx fv' nv l' us w':=by
 have A:=h.low;refine⟨hk,BG h.ow (λg hg=>ht.but.block g (h.ow.lt g hg).2 (λe=>e.elim (λe=>by have:=(h.ow.lt g hg).1;omega) (h.ap g hg))),λg hg e=>?_,h.bel.trans ((ht.below h.tk).mono (by omega)),λp hp=>?_⟩
 ·rcases ht.own g e with e2|e2
  ·exact h.ap g hg e2
  ·have:=(h.ow.lt g hg).2;omega
 ·obtain⟨o,C,D,B⟩:=h.kb p hp;refine⟨(ht.but.block _ (block_lt o) (λe=>e.elim B C)).trans o,λe=>?_,D,B⟩;rcases ht.own _ e with e2|e2
  ·exact C e2
  ·have:=block_lt o;omega
theorem PS.used (h:PS b0 w0 bx fv nv l us w) (hrow:w8.ownsRow (b0+2) 9 1 nv' (us++ss).length ((us++ss).map encStr)) (hg:w.grownBy w8 nv.ownBlock) (hloc:nv'.ownBlock=nv.ownBlock∨nv'.ownBlock=some w.heap.size):PS b0 w0 bx fv nv' l (us++ss) w8:=by
 have E:=h.low;have B:∀x,x<w.heap.size→nv.ownBlock≠some x→w8.heap[x]?=w.heap[x]?:=λx hx3 hn=>hg.block x hx3 (λe=>hn e.symm)
 have o:∀x,x<w.heap.size→nv.ownBlock≠some x→nv'.ownBlock≠some x:=λx C D e=>by
  rcases hloc with e2|e2
  ·exact D (by rw[← e2];exact e)
  ·rw[e2]at e;simp only[Option.some.injEq]at e;omega
 have A:∀x,x<b0+2→nv.ownBlock≠some x:=λx hx e=>by have:=(h.ow.lt x e).1;omega
 refine⟨⟨(B _ h.tk.lt (A _ (by omega))).trans h.tk.box,h.tk.own.heap (λg hg2=>B g (h.tk.own.lt g hg2).2 (λe=>h.ap g e hg2)),h.tk.ne,h.tk.hx⟩,hrow,λg hg2 e=>o g (h.tk.own.lt g e).2 (λe2=>h.ap g e2 e) hg2,⟨hg.os.trans h.bel.os,hg.tape.trans h.bel.tape,hg.output.trans h.bel.output,QQ h.bel.size hg.size,λk hk=>(B k (by omega) (A k (by omega))).trans (h.bel.block k hk)⟩,λp hp=>?_⟩;obtain⟨C,D,F,G⟩:=h.kb p hp;exact⟨(B _ (block_lt C) F).trans C,D,o _ (block_lt C) F,G⟩
theorem PS.box (h:PS b0 w0 bx fv nv l us w) (o:Obj):PS b0 w0 ((w.heap.size,o)::bx) fv nv l us (w.alloc o):=by
 have B:Below w.heap.size w (w.alloc o):=(Below.refl _ _).alloc (QM _) _;have A:=h.below B;refine⟨A.tk,A.ow,A.ap,A.bel,λp hp=>?_⟩;rcases List.mem_cons.1 hp with rfl|hp
 ·exact⟨AC w o,λe=>by have:=(h.tk.own.lt _ e).2;simp at this,λe=>by have:=(h.ow.lt _ e).2;simp at this,by have:=h.low;show w.heap.size≠_;omega⟩
 ·exact A.kb p hp
theorem PS.less (h:PS b0 w0 bx fv nv l us w) {by_:List (Nat×Obj)} (hs:∀p∈by_,p∈bx):PS b0 w0 by_ fv nv l us w:=⟨h.tk,h.ow,h.ap,h.bel,λp hp=>h.kb p (hs p hp)⟩
theorem PS.old (h:PS b0 w0 bx fv nv l us w) (hs:w0.heap.size=b0) {P:Nat→Prop} {d:D} {cs:List Value} (hP:∀g,P g→g<b0) (hd:Reads w0 P d cs):Reads w P d cs :=
 hd.to (AD.below (by rw[hs];exact h.bel))
theorem PS.apart (h:PS b0 w0 bx fv nv l us w) {P:Nat→Prop} (hP:∀g,P g→g<b0):∀g,P g→g<w.heap.size∧g≠b0+1∧fv.ownBlock≠some g:=λg hg=>by
 have A:=hP g hg;have o:=h.low;exact⟨by omega,by omega,λe=>by have:=(h.tk.own.lt g e).1;omega⟩
theorem PS.tellAt (h:PS b0 w0 bx fv nv l us w) (hl:l.length≤1000000) (ok:Bool) (rule at_:Int) (q:Nat) (hq:w.cell? ⟨q,0,none⟩=some (.int .i64 at_)) :
  Calls Tryz.prog 12 #[.pointer (some ⟨b0+1,0,none⟩),.bool ok,.int .i64 rule,.slice (some ⟨q,0,none⟩) 1 1] w λe w'=>e=.returned (.tuple #[])∧∃fv',PS b0 w0 bx fv' nv (l++Nq.told ok rule at_) us w'∧(l++Nq.told ok rule at_).length≤l.length+1:=by
 refine (DN (b0+1) (b0+1) fv l ok rule at_ q 0 1 _ h.tk hl hq).mono ?_;rintro e w' ⟨rfl,fv',htk,hto⟩;exact⟨rfl,fv',h.told htk hto,by rw[QS];have:=Nq.told_le ok rule at_;omega⟩
theorem PS.tell (h:PS b0 w0 bx fv nv l us w) (hl:l.length≤1000000) (ok:Bool) (rule at_:Int) :
  Calls Tryz.prog 12 #[.pointer (some ⟨b0+1,0,none⟩),.bool ok,.int .i64 rule,.slice (some ⟨w.heap.size,0,none⟩) 1 1] (w.alloc (.cells #[.int .i64 at_] 3)) λe w'=>e=.returned (.tuple #[])∧∃fv',PS b0 w0 bx fv' nv (l++Nq.told ok rule at_) us w'∧(l++Nq.told ok rule at_).length≤l.length+1 :=
 (h.below ((Below.refl _ _).alloc (QM _) _)).tellAt hl ok rule at_ w.heap.size (AK w #[.int .i64 at_] 3 (0,0) 0 _ rfl)
theorem PS.spreads (h:PS b0 w0 bx fv nv l us w) (hs:w0.heap.size=b0) (fs:List Dq.Fr) (hl:fs.length≤1000000000) (a1:Option Addr) (n1 c1:Nat) (a2:Option Addr) (c2:Nat) (ls:List Dq.Sel) (hn:Dq.Sel.numl ls≤100) (a:Option Addr) (c:Nat) (P:Nat→Prop) (hP:∀g,P g→g<b0)
  (hRf:Reads w0 P (.seq 5 (fs.map Dq.Fr.d)) [.slice a2 fs.length c2]) (hRl:Reads w0 P (.seq 7 (ls.map Dq.Sel.d)) [.slice a ls.length c]) (hl0:l.length≤999000) :
  Calls Tryz.prog 15 #[.pointer (some ⟨b0+1,0,none⟩),.agg #[.slice a1 n1 c1,.slice a2 fs.length c2],.slice a ls.length c] w λe w'=>e=.returned (.tuple #[])∧∃fv',PS b0 w0 bx fv' nv (l++Nq.unk (fs.map Dq.Fr.it) (Dq.sp ls)) us w':=by
 have o:=ED ls;refine (FN (b0+1) (b0+1) fv l fs hl a1 n1 c1 a2 c2 ls (by omega) a c w P (h.apart hP) (h.old hs hP hRf) (h.old hs hP hRl) h.tk (by omega)).mono ?_;rintro e w' ⟨rfl,fv',htk,hto⟩;exact⟨rfl,fv',h.told htk hto⟩
theorem PS.reached (h:PS b0 w0 bx fv nv l us w) (hs:w0.heap.size=b0) {ops:List Dq.Op} {fs:List Dq.Fr} (hsm:Nsm ops fs) (a1:Option Addr) (n1 c1:Nat) (a2:Option Addr) (c2:Nat) (ls:List Dq.Sel) (hn:Dq.Sel.numl ls≤100) (a:Option Addr) (c:Nat) (P:Nat→Prop) (hP:∀g,P g→g<b0)
  (hRf:Reads w0 P (.seq 5 (fs.map Dq.Fr.d)) [.slice a2 fs.length c2]) (hRl:Reads w0 P (.seq 7 (ls.map Dq.Sel.d)) [.slice a ls.length c]) :
  Calls Tryz.prog 11 #[.agg #[.slice a1 n1 c1,.slice a2 fs.length c2],.slice a ls.length c] w λe w'=>∃(v:Value) (ss:List (List UInt8)),e=.returned v∧(∀n,n∈ss↔n∈Nq.reach (fs.map Dq.Fr.it) (Dq.sp ls))∧ss.length≤10100 ∧
   w'.ownsRow (b0+2) 9 1 v ss.length (ss.map encStr)∧PS b0 w0 bx fv nv l us w'∧Below w.heap.size w w':=by
 have A:=hsm.fuel hn;refine (Db fs (QQ hsm.lf (by decide)) (λf hf=>QQ (hsm.nf f hf) (by decide)) (λf hf=>QQ (hsm.sf f hf) (by decide)) ls (QQ hn (by decide)) (by omega) a1 n1 c1 a2 c2 a c w P (λg hg=>(h.apart hP g hg).1) (h.old hs hP hRf) (h.old hs hP hRl)).mono ?_;rintro e w' ⟨v,ss,rfl,hpm,hrow,hb⟩;have o:=Nq.reach_len (fs.map Dq.Fr.it) (Dq.sp ls);refine⟨v,ss.mergeSort (λx y=>decide (x≤y)),rfl,λn=>by rw[List.mem_mergeSort,hpm.mem_iff],by rw[List.length_mergeSort,hpm.length_eq];omega,CY (by rw[List.length_mergeSort];exact hrow) h.low,h.below hb,hb⟩
end
end Go.Proofs.YtedeapbonbbacaaGreatDoor
