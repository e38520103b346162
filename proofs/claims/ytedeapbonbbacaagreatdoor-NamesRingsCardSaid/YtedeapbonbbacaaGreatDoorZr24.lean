/-
  The teller told of a selection set's spreads, walked. The fragments that are reached, walked. Documents that a law lays, in memory.
-/
import Derived.Test.YtedeapbonbbacaaGreatDoorZr9
import Derived.Test.YtedeapbonbbacaaGreatDoorZr23
import Derived.Test.YtedeapbonbbacaaGreatDoorZr8
import Derived.Test.YtedeapbonbbacaaGreatDoorZr2
import Derived.Test.YtedeapbonbbacaaGreatDoorZr16
open Array renaming getInternal_eq_getElem → QD
open Go.Lib renaming hid → QA
open List renaming setIfInBounds_toArray → QC, drop_succ_cons → QE, take_succ_cons → QF, set_cons_succ → QG, set_cons_zero → QH, getElem_cons_zero → QI, getElem_cons_succ → QJ, getElem_toArray → QK, drop_zero → QL, take_zero → QN, length_append → QS, length_map → QV, map_append → ZR
open Nat renaming le_refl → QM, le_trans → QQ, lt_of_lt_of_le → ZU
namespace Go.Proofs.YtedeapbonbbacaaGreatDoor
set_option maxRecDepth 100000
set_option linter.unusedSimpArgs false
set_option linter.unusedVariables false
open Go Go.RowKit
theorem Nq.unk_snoc (fs:List Nq.It) (l:List Nq.Sp) (s:Nq.Sp):Nq.unk fs (l++[s])=Nq.unk fs l++Nq.told (decide ((0:Int)≤Nq.place (Nq.idx fs s.1))) 157 s.2:=by
 unfold Nq.unk Nq.told;rw[List.flatMap_append,List.flatMap_cons,List.flatMap_nil,List.append_nil]
 congr 1
 cases Nq.idx fs s.1 with
 | none=>rfl
 | some i=>simp[Nq.place]
theorem Nq.unk_le (fs:List Nq.It):∀l:List Nq.Sp,(Nq.unk fs l).length≤l.length
 | []=>QM _
 | s::r=>by
  have h:=Nq.unk_le fs r;unfold Nq.unk at h ⊢;rw[List.flatMap_cons,QS,List.length_cons];have:(if (Nq.idx fs s.1).isSome then [] else [((157:Int),s.2)]).length≤1:=by split<;>simp
  omega
set_option maxHeartbeats 8000000 in
theorem FR (base xb:Nat) (fv:Value) (l0:List Cp.Pb) (fs:List Dq.Fr) (hl:fs.length≤1000000000) (a1:Option Addr) (n1 c1:Nat) (a2:Option Addr) (c2:Nat) (ls:List Dq.Sel) (hn:Dq.Sel.numl ls≤1000000000) (a:Option Addr) (c:Nat) (w:World) (P:Nat→Prop)
  (hP:∀g,P g→g<w.heap.size∧g≠xb∧fv.ownBlock≠some g) (hRf:Reads w P (.seq 5 (fs.map Dq.Fr.d)) [.slice a2 fs.length c2]) (hRl:Reads w P (.seq 7 (ls.map Dq.Sel.d)) [.slice a ls.length c])
  (h:CE w base xb fv l0) (hl0:l0.length+(Dq.sp ls).length≤1000000) :
  Calls Tryz.prog 15 #[.pointer (some ⟨xb,0,none⟩),.agg #[.slice a1 n1 c1,.slice a2 fs.length c2],.slice a ls.length c] w λe w'=>e=.returned (.tuple #[])∧∃fv',CE w' base xb fv' (l0++Nq.unk (fs.map Dq.Fr.it) (Dq.sp ls))∧Bd w w' xb fv fv':=by
 have T:Below w.heap.size w (w.alloc (.cells #[.slice a1 n1 c1,.slice a2 fs.length c2] 29)):=(Below.refl _ _).alloc (QM _) _;have aC:(w.alloc (.cells #[.slice a1 n1 c1,.slice a2 fs.length c2] 29)).heap[w.heap.size]?=some (.cells #[.slice a1 n1 c1,.slice a2 fs.length c2] 29 (0,0)):=AC _ _;have aw:=QA (CK ls hn a c (w.alloc (.cells #[.slice a1 n1 c1,.slice a2 fs.length c2] 29)) P (λg hg=>ZU (hP g hg).1 T.size) (hRl.to (AD.below T)));have aj:=QA T;have aJ:=QA aC;have HP:=QA hP;have a0:=QA hRf;have HT:=QA h;clear T aC hP hRf hRl h;go_enter Tryz.func15,Tryz.ntmps15;go_wp2_with fail;refine aw.out.mono ?_;rintro e w2 ⟨v2,rfl,hb2,hg2⟩;obtain⟨a9,c9,aK⟩:=hg2.form;rw[QV]at aK;subst aK;have aS:=block_lt aJ.out;have af:Hid (w2.heap[w.heap.size]?=_):=QA ((hb2.block _ aS).trans aJ.out);have I:Hid (Below w.heap.size w w2):=QA (aj.out.trans (hb2.mono aj.out.size));have a8:=I.out.size;obtain⟨Q,hQ⟩:∃Q:Nat→Prop,Q=λg=>g<w2.heap.size∧g≠xb∧fv.ownBlock≠some g:=⟨_,rfl⟩
 have K:∀g,w.heap.size≤g→g≠xb∧fv.ownBlock≠some g:=λg hg=>⟨by have:=HT.out.lt;omega,λe=>by have:=(HT.out.own.lt g e).2;omega⟩
 have aR:Hid (Reads w2 Q (.seq 7 ((Dq.Sel.sprl ls).map Dq.Sel.d)) [.slice a9 (Dq.Sel.sprl ls).length c9]):=by
  have h9:=hg2.reads.to (Q:=Q) (AD.sub w2 (λx hx hp=>by
   rw[hQ];rcases hp with hp|hp
   ·exact⟨hx,(HP.out x hp).2⟩
   ·have h1:=(hg2.lt x hp).1;exact⟨hx,K x (by have:=aj.out.size;omega)⟩))
  exact QA h9
 have ar:Hid (Reads w2 Q (.seq 5 (fs.map Dq.Fr.d)) [.slice a2 fs.length c2]):=QA (a0.out.to ⟨I.out.size,λg hg hp=>⟨by rw[hQ];exact⟨ZU hg I.out.size,(HP.out g hp).2⟩,I.out.block g hg⟩⟩);have a3:Hid (CE w2 base xb fv l0):=QA (HT.out.keep I.out);have ab:Hid (Q w.heap.size):=QA (by rw[hQ];exact⟨block_lt af.out,K _ (QM _)⟩);have J:Hid (∀g,Q g→g<w2.heap.size∧g≠xb∧fv.ownBlock≠some g):=QA (λg hg=>by rw[hQ]at hg;exact hg);have bl:=Dq.Sel.sprl_num ls;clear hb2 hg2 aw hQ K;go_wp2_with fail
 go_loopg [11] ((Dq.Sel.sprl ls).length+1) (λk i wr=>∃j:Nat,k=(Dq.Sel.sprl ls).length+1-j∧j≤(Dq.Sel.sprl ls).length∧i=.int .i64 j∧∃fv',CE wr base xb fv' (l0++Nq.unk (fs.map Dq.Fr.it) (((Dq.Sel.sprl ls).take j).map λs=>(s.name,s.at_)))∧Bd w2 wr xb fv fv')
 case atStart=>exact⟨0,rfl,Nat.zero_le _,rfl,fv,by rw[QN,show Nq.unk (fs.map Dq.Fr.it) ([].map λs:Dq.Sel=>(s.name,s.at_))=[] from rfl,List.append_nil];exact a3.out,Bd.of_below (Below.refl _ _)⟩
 case round =>
  obtain⟨j,aF,hj,rfl,E,aM,au⟩:=hrel;have HK:=QA aF;have U:=QA aM;have L:=QA au;clear aF aM au;by_cases hjl:j<(Dq.Sel.sprl ls).length;rotate_left
  ·have e5:decide (j<(Dq.Sel.sprl ls).length)=false:=decide_eq_false hjl;obtain rfl:j=(Dq.Sel.sprl ls).length:=by omega
   go_wp2_with fail;go_end0;refine⟨rfl,E,by have:=U.out;rw[List.take_length]at this;exact this,(Bd.of_below I.out).trans L.out⟩
  have e5:decide (j<(Dq.Sel.sprl ls).length)=true:=decide_eq_true hjl;obtain⟨s,hs⟩:∃s,(Dq.Sel.sprl ls)[j]?=some s:=⟨_,List.getElem?_eq_getElem hjl⟩
  have Z:AD w2 Q wr (λ_=>True):=⟨L.out.but.size,λg hg hp=>⟨trivial,L.out.but.block g hg (λe=>e.elim (J.out g hp).2.1 (J.out g hp).2.2)⟩⟩
  have ak:wr.heap[w.heap.size]?=some (.cells #[.slice a1 n1 c1,.slice a2 fs.length c2] 29 (0,0)):=(Z.block _ (block_lt af.out) ab.out).2.trans af.out;obtain⟨g,o,cs,ha,aU,a7,aI,A,hd⟩:=(aR.out.to Z).el j s.d (by rw[List.getElem?_map,hs];rfl);obtain⟨a4,a5,a6,c4,c5,c6,rfl,-⟩:=Dq.Sel.opened hd;subst ha;have k0:wr.cell? ⟨g,o+j*7,none⟩=_:=A 0 _ rfl;have k1:wr.cell? ⟨g,o+j*7+1,none⟩=_:=A 1 _ rfl;have k2:wr.cell? ⟨g,o+j*7+2,none⟩=_:=A 2 _ rfl;have k3:wr.cell? ⟨g,o+j*7+3,none⟩=_:=A 3 _ rfl;have k4:wr.cell? ⟨g,o+j*7+4,none⟩=_:=A 4 _ rfl;have k5:wr.cell? ⟨g,o+j*7+5,none⟩=_:=A 5 _ rfl;have k6:wr.cell? ⟨g,o+j*7+6,none⟩=_:=A 6 _ rfl;have G:Below wr.heap.size wr (wr.alloc (.cells #[.int .i64 s.kind,.string ⟨s.nick.toArray⟩,.string ⟨s.name.toArray⟩,.slice a4 s.args.length c4,.slice a5 s.dirs.length c5,.slice a6 s.sels.length c6,.int .i64 s.at_] 34)):=(Below.refl _ _).alloc (QM _) _;have O:(wr.alloc (.cells #[.int .i64 s.kind,.string ⟨s.nick.toArray⟩,.string ⟨s.name.toArray⟩,.slice a4 s.args.length c4,.slice a5 s.dirs.length c5,.slice a6 s.sels.length c6,.int .i64 s.at_] 34)).heap[w.heap.size]?=some (.cells #[.slice a1 n1 c1,.slice a2 fs.length c2] 29 (0,0)):=(G.block _ (block_lt ak)).trans ak;have M:(wr.alloc (.cells #[.int .i64 s.kind,.string ⟨s.nick.toArray⟩,.string ⟨s.name.toArray⟩,.slice a4 s.args.length c4,.slice a5 s.dirs.length c5,.slice a6 s.sels.length c6,.int .i64 s.at_] 34)).heap[wr.heap.size]?=some (.cells #[.int .i64 s.kind,.string ⟨s.nick.toArray⟩,.string ⟨s.name.toArray⟩,.slice a4 s.args.length c4,.slice a5 s.dirs.length c5,.slice a6 s.sels.length c6,.int .i64 s.at_] 34 (0,0)):=AC _ _;obtain⟨W,hW⟩:∃W,W=(wr.alloc (.cells #[.int .i64 s.kind,.string ⟨s.nick.toArray⟩,.string ⟨s.name.toArray⟩,.slice a4 s.args.length c4,.slice a5 s.dirs.length c5,.slice a6 s.sels.length c6,.int .i64 s.at_] 34)):=⟨_,rfl⟩
  rw[← hW]at G O M;have ao:=QA G;have aq:Hid (Reads W (λ_=>True) (.seq 5 (fs.map Dq.Fr.d)) [.slice a2 fs.length c2]):=QA ((ar.out.to Z).to (AD.below G));have az:=QA (U.out.keep G);have V:Hid (w.heap.size≠xb∧wr.heap.size≠xb∧E.ownBlock≠some w.heap.size∧E.ownBlock≠some wr.heap.size):=by
   refine QA ⟨(J.out _ ab.out).2.1,by have:=U.out.lt;omega,λe=>?_,λe=>by have:=(U.out.own.lt _ e).2;omega⟩;rcases L.out.own _ e with e2|e2
   ·exact (J.out _ ab.out).2.2 e2
   ·have:=(J.out _ ab.out).1;omega
  have aA:Hid (∀w':World,w'.heap[w.heap.size]?=W.heap[w.heap.size]?→w'.heap[wr.heap.size]?=W.heap[wr.heap.size]?→w'.cell? ⟨w.heap.size,0,none⟩=some (.slice a1 n1 c1)∧w'.cell? ⟨w.heap.size,1,none⟩=some (.slice a2 fs.length c2)∧w'.cell? ⟨wr.heap.size,2,none⟩=some (.string ⟨s.name.toArray⟩)∧w'.cell? ⟨wr.heap.size,6,none⟩=some (.int .i64 s.at_)):=QA (λw' h1 h2=>⟨AA (h1.trans O) 0 _ rfl,AA (h1.trans O) 1 _ rfl,AA (h2.trans M) 2 _ rfl,AA (h2.trans M) 6 _ rfl⟩);have F:Hid (w.heap.size<W.heap.size∧wr.heap.size<W.heap.size):=QA ⟨block_lt O,block_lt M⟩;have N:Hid (∀w':World,Below W.heap.size W w'→w'.cell? ⟨w.heap.size,0,none⟩=some (.slice a1 n1 c1)∧w'.cell? ⟨w.heap.size,1,none⟩=some (.slice a2 fs.length c2)∧w'.cell? ⟨wr.heap.size,2,none⟩=some (.string ⟨s.name.toArray⟩)∧w'.cell? ⟨wr.heap.size,6,none⟩=some (.int .i64 s.at_)):=QA (λw' hb=>aA.out w' (hb.block _ F.out.1) (hb.block _ F.out.2));have aX:Hid (∀(B w':World) (fv':Value),Below W.heap.size W B→Bd B w' xb E fv'→w'.cell? ⟨w.heap.size,0,none⟩=some (.slice a1 n1 c1)∧w'.cell? ⟨w.heap.size,1,none⟩=some (.slice a2 fs.length c2)∧w'.cell? ⟨wr.heap.size,2,none⟩=some (.string ⟨s.name.toArray⟩)∧w'.cell? ⟨wr.heap.size,6,none⟩=some (.int .i64 s.at_)):=by
   refine QA (λB w' fv' hb ht=>aA.out w' ?_ ?_)
   ·exact (ht.but.block _ (ZU F.out.1 hb.size) (λe=>e.elim V.out.1 V.out.2.2.1)).trans (hb.block _ F.out.1)
   ·exact (ht.but.block _ (ZU F.out.2 hb.size) (λe=>e.elim V.out.2.1 V.out.2.2.2)).trans (hb.block _ F.out.2)
  have ap:(l0++Nq.unk (fs.map Dq.Fr.it) (((Dq.Sel.sprl ls).take j).map λs=>(s.name,s.at_))).length≤1000000:=by
   have h1:=Nq.unk_le (fs.map Dq.Fr.it) (((Dq.Sel.sprl ls).take j).map λs=>(s.name,s.at_));rw[QV,List.length_take]at h1;rw[Dq.sp,QV]at hl0;rw[QS];omega
  obtain⟨pl,aa⟩:∃pl,pl=Nq.place (Nq.idx (fs.map Dq.Fr.it) s.name):=⟨_,rfl⟩
  have aD:Hid (∀B:World,Below W.heap.size W B→Calls Tryz.prog 16 #[.agg #[.slice a1 n1 c1,.slice a2 fs.length c2],.string ⟨s.name.toArray⟩] B (λe w'=>e=.returned (.int .i64 pl)∧Below B.heap.size B w')):=QA (λB hb=>by rw[aa];exact DO fs hl a1 n1 c1 a2 c2 s.name B (aq.out.to (AD.below hb)));have aZ:Hid (∀(B:World) (q:Nat),Below W.heap.size W B→B.cell? ⟨q,0,none⟩=some (.int .i64 s.at_)→Calls Tryz.prog 12 #[.pointer (some ⟨xb,0,none⟩),.bool (decide (0≤pl)),.int .i64 157,.slice (some ⟨q,0,none⟩) 1 1] B λe w'=>e=.returned (.tuple #[])∧∃fv',CE w' base xb fv' (l0++Nq.unk (fs.map Dq.Fr.it) (((Dq.Sel.sprl ls).take (j+1)).map λs=>(s.name,s.at_)))∧Bd B w' xb E fv'):=by
   refine QA (λB q hb Y=>?_);have h9:=DX base xb E _ (decide (0≤pl)) 157 s.at_ q 0 1 B (az.out.keep hb) ap Y;rw[List.append_assoc,aa,← Nq.unk_snoc (fs.map Dq.Fr.it) _ (s.name,s.at_),show [(s.name,s.at_)]=[s].map (λs:Dq.Sel=>(s.name,s.at_)) from rfl,← ZR]at h9;rw[List.take_add_one,hs,Option.toList_some,aa];exact h9
  have aO:Hid (∀(B w':World) (fv':Value),Below W.heap.size W B→Bd B w' xb E fv'→Bd w2 w' xb fv fv'):=QA (λB w' fv' hb ht=>L.out.trans ((Bd.of_below (ao.out.trans (hb.mono ao.out.size))).trans ht));have aY:=QA hW.symm;clear hW G O M ak Z hs hd A aI a7 aU ap aa;go_wp2_with fail;rw[aY.out];refine AH (λw'=>w'.cell? ⟨w.heap.size,0,none⟩=some (.slice a1 n1 c1)∧w'.cell? ⟨w.heap.size,1,none⟩=some (.slice a2 fs.length c2)∧w'.cell? ⟨wr.heap.size,2,none⟩=some (.string ⟨s.name.toArray⟩)∧w'.cell? ⟨wr.heap.size,6,none⟩=some (.int .i64 s.at_)) 10 (by kernel_rfl) ?_;have R:Hid (Below W.heap.size W W.drew):=QA (Below.drewN (Below.refl _ _) 1);have C:=N.out W.drew R.out;clear k0 k1 k2 k3 k4 k5 k6;refine TK (i:=0) (v:=(.pointer (some ⟨xb,0,none⟩))) rfl (Or.inl ⟨by rfl,λw hSw=>by obtain⟨s0,s1,s2,s6⟩:=hSw;go_simp⟩) C ?_;simp only[Act.put,QD,QK,QI,QJ,QC,QH,QG];refine TK (i:=1) (v:=(.agg #[.slice a1 n1 c1,.slice a2 fs.length c2])) rfl (Or.inl ⟨by rfl,λw hSw=>by obtain⟨s0,s1,s2,s6⟩:=hSw;go_simp⟩) C ?_;simp only[Act.put,QD,QK,QI,QJ,QC,QH,QG];refine TK (i:=2) (v:=(.pointer (some ⟨wr.heap.size,2,none⟩))) rfl (Or.inl ⟨by rfl,λw hSw=>by obtain⟨s0,s1,s2,s6⟩:=hSw;go_simp⟩) C ?_;simp only[Act.put,QD,QK,QI,QJ,QC,QH,QG];refine TK (i:=3) (v:=(.string ⟨s.name.toArray⟩)) rfl (Or.inl ⟨by rfl,λw hSw=>by obtain⟨s0,s1,s2,s6⟩:=hSw;go_simp⟩) C ?_;simp only[Act.put,QD,QK,QI,QJ,QC,QH,QG];refine TK (i:=6) (v:=(.pointer (some ⟨wr.heap.size,6,none⟩))) rfl (Or.inl ⟨by rfl,λw hSw=>by obtain⟨s0,s1,s2,s6⟩:=hSw;go_simp⟩) C ?_;simp only[Act.put,QD,QK,QI,QJ,QC,QH,QG];refine TK (i:=7) (v:=(.int .i64 s.at_)) rfl (Or.inl ⟨by rfl,λw hSw=>by obtain⟨s0,s1,s2,s6⟩:=hSw;go_simp⟩) C ?_;simp only[Act.put,QD,QK,QI,QJ,QC,QH,QG];refine AR (i:=4) (k:=8) (by kernel_rfl) ?ra ?rb
  case' ra =>
   refine AB (by decide) (λK5 HK5=>?_);simp only[QE,QL,QF,QN];go_wp2_with fail;refine (aD.out _ R.out).mono ?_;rintro e B ⟨rfl,hb5⟩;have D:=QA (R.out.trans (hb5.mono R.out.size));clear hb5 C;have C:=N.out B D.out;go_wp2_with fail;refine HK5.out _ _ ⟨λ_=>C,?_⟩;clear HK5;refine TK (i:=5) (v:=(.bool (decide (0≤pl)))) rfl (Or.inl ⟨by rfl,λw hSw=>by obtain⟨s0,s1,s2,s6⟩:=hSw;go_simp⟩) C ?_;simp only[Act.put,QD,QK,QI,QJ,QC,QH,QG];refine TO (i:=8) ?_;refine AB (by decide) (λK5 HK5=>?_);simp only[QE,QL,QF,QN];go_wp2_with fail;obtain⟨q,Y⟩:∃q,q=B.heap.size:=⟨_,rfl⟩
   obtain⟨w6,X⟩:∃q,q=B.alloc (.cells #[.int .i64 s.at_] 3):=⟨_,rfl⟩
   have H:Hid (Below W.heap.size W w6):=QA (by rw[X];exact D.out.alloc D.out.size _);have av:Hid (w6.cell? ⟨q,0,none⟩=some (.int .i64 s.at_)):=QA (by rw[X,Y];exact AK B #[.int .i64 s.at_] 3 (0,0) 0 _ rfl);rw[← X,← Y];clear C D Y X;have C:=N.out w6 H.out;refine HK5.out _ _ ⟨λ_=>C,?_⟩;clear HK5
  case' rb =>
   refine AB (by decide) (λK5 HK5=>?_);simp only[QE,QL,QF,QN];go_wp2_with fail;obtain⟨q,Y⟩:∃q,q=W.heap.size:=⟨_,rfl⟩
   obtain⟨B,S⟩:∃q,q=(W.alloc (.cells #[.int .i64 s.at_] 3)).drew:=⟨_,rfl⟩
   have D:Hid (Below W.heap.size W B):=QA (by rw[S];exact ((Below.refl _ _).alloc (QM _) _).drew);have ag:Hid (B.cell? ⟨q,0,none⟩=some (.int .i64 s.at_)):=QA (by rw[S,Y];exact AK W #[.int .i64 s.at_] 3 (0,0) 0 _ rfl);rw[← S,← Y];clear C Y S;have C:=N.out B D.out;refine HK5.out _ _ ⟨λ_=>C,?_⟩;clear HK5;refine TO (i:=4) ?_;refine AB (by decide) (λK5 HK5=>?_);simp only[QE,QL,QF,QN];go_wp2_with fail;refine (aD.out _ D.out).mono ?_;rintro e w6 ⟨rfl,hb6⟩;have H:=QA (D.out.trans (hb6.mono D.out.size));have av:Hid (w6.cell? ⟨q,0,none⟩=some (.int .i64 s.at_)):=QA ((hb6.cell (p:=⟨q,0,none⟩) (BK ag.out)).trans ag.out);clear hb6 C D ag;have C:=N.out w6 H.out;go_wp2_with fail;refine HK5.out _ _ ⟨λ_=>C,?_⟩;clear HK5;refine TK (i:=5) (v:=(.bool (decide (0≤pl)))) rfl (Or.inl ⟨by rfl,λw hSw=>by obtain⟨s0,s1,s2,s6⟩:=hSw;go_simp⟩) C ?_;simp only[Act.put,QD,QK,QI,QJ,QC,QH,QG]
  all_goals
   have an:=QA (aZ.out _ q H.out av.out);clear C;refine TO (i:=9) ?_;refine AB (by decide) (λK5 HK5=>?_);simp only[QE,QL,QF,QN];go_wp2_with fail;refine an.out.mono ?_;rintro e w7 ⟨rfl,fv7,htk7,hto7⟩;have C:=aX.out _ _ _ H.out hto7;have aG:=QA htk7;have aN:=QA (aO.out _ _ _ H.out hto7);clear htk7 hto7;go_wp2_with fail;refine HK5.out _ _ ⟨λ_=>C,?_⟩;clear HK5;refine AF (by kernel_rfl) ?_ _;clear C;go_wp2_with fail;go_roundg ((Dq.Sel.sprl ls).length+1-(j+1))
   case measure=>rw[HK.out];omega
   case rel=>exact⟨j+1,rfl,hjl,by go_num,fv7,aG.out,aN.out⟩
open Go.Maps Go.WideMaps
theorem FE (fs:List Dq.Fr) (n:List UInt8):Nq.frag (fs.map Dq.Fr.it) n=(fs.find? (λf=>decide (f.name=n))).map Dq.Fr.it:=by
 unfold Nq.frag;rw[List.find?_map];rfl
theorem C3 (l:List Dq.Sel):(Dq.sp l).map Prod.fst=(Dq.Sel.sprl l).map Dq.Sel.name:=by
 unfold Dq.sp;rw[List.map_map];rfl
theorem Kr {q:Nat} (h1:1≤(q:Int)) (h2:(q:Int)≤1000001):wrap64 ((q:Int)+1)=(q:Int)+1∧(((q:Int)+1)==1)=false∧decide ((q:Int)+1=1)=false∧decide ((q:Int)=0)=false:=by
 refine⟨by unfold wrap64;omega,?_,decide_eq_false (by omega),decide_eq_false (by omega)⟩;rw[beq_eq_false_iff_ne];omega
theorem Ea (m:Fs.Names):strKeys (Fs.datum m)=m.map Prod.fst:=by
 show (m.map Fs.ent).map (λp=>strOf p.1)=_;rw[List.map_map];rfl
theorem Cx {w:World} {base base' k n:Nat} {E:TypeId} {v:Value} {cs:List Value} (h:w.ownsRow base E k v n cs) (hb:base'≤base):w.ownsRow base' E k v n cs:=by
 refine⟨h.1,?_⟩;rcases h.2 with h2|⟨g,cap,cur,hv,hg,r⟩
 ·exact .inl h2
 ·exact .inr ⟨g,cap,cur,hv,QQ hb hg,r⟩
theorem AZ.cons_inv {w:World} {P:Nat→Prop} {k:Nat} {d:D} {ds:List D} {cs:List Value} (h:AZ w P k (d::ds) cs):∃x y,cs=x++y∧Reads w P d x∧x.length=k∧AZ w P k ds y:=by
 cases h with
 | cons h1 h2 h3=>exact⟨_,_,rfl,h1,h2,h3⟩
set_option maxHeartbeats 8000000 in
theorem Dd (fs:List Dq.Fr) (hl:fs.length≤1000000000) (hnm:∀f∈fs,f.name.length≤1000000000) (hfn:∀f∈fs,Dq.Sel.numl f.sels≤1000000000) (l:List Dq.Sel) (hn:Dq.Sel.numl l≤1000000000) (hF:Nq.fuel (fs.map Dq.Fr.it) [] ((Dq.sp l).map Prod.fst)≤1000000)
  (a1:Option Addr) (n1 c1:Nat) (a2:Option Addr) (c2:Nat) (a:Option Addr) (c:Nat) (w:World) (P:Nat→Prop) (hP:∀g,P g→g<w.heap.size)
  (hRf:Reads w P (.seq 5 (fs.map Dq.Fr.d)) [.slice a2 fs.length c2]) (hRl:Reads w P (.seq 7 (l.map Dq.Sel.d)) [.slice a l.length c]) :
  Calls Tryz.prog 11 #[.agg #[.slice a1 n1 c1,.slice a2 fs.length c2],.slice a l.length c] w (λe w'=>∃(v:Value) (ss:List (List UInt8)),e=.returned v∧ss.Perm (Nq.reach (fs.map Dq.Fr.it) (Dq.sp l)) ∧
   w'.ownsRow w.heap.size 9 1 v ss.length ((ss.mergeSort (λx y=>decide (x≤y))).map encStr)∧Below w.heap.size w w'):=by
 have cF:=@run_makeMap Tryz.prog;obtain⟨i0,hi,cj,bI,bW⟩:=info_parts Dw;obtain⟨R,hR⟩:∃x,x=Nq.reach (fs.map Dq.Fr.it) (Dq.sp l):=⟨_,rfl⟩
 rw[← hR];obtain⟨w1,U⟩:∃x,x=((w.alloc (.cells #[.slice a1 n1 c1,.slice a2 fs.length c2] 29)).alloc (.map #[] 0)):=⟨_,rfl⟩
 have bf:w1.heap.size=w.heap.size+2:=by rw[U];simp
 have aQ:Below w.heap.size w w1:=by rw[U];exact ((Below.refl _ _).alloc (QM _) _).alloc (by simp) _
 have a9:Ba w1 (w.heap.size+1) []:=by
  rw[U];have:=World.ownsMap_made (H:=Unit) (w.alloc (.cells #[.slice a1 n1 c1,.slice a2 fs.length c2] 29)) Tryz.prog 9 (plainElem Tryz.prog 3);rw[show (w.alloc (.cells #[.slice a1 n1 c1,.slice a2 fs.length c2] 29)).heap.size=w.heap.size+1 by simp]at this;exact this
 have bb:w1.heap[w.heap.size]?=some (.cells #[.slice a1 n1 c1,.slice a2 fs.length c2] 29 (0,0)):=by
  rw[U,Lib.alloc_old _ _ _ (by simp)];exact AC _ _
 have ah:=QA (CK l hn a c w1 P (λg hg=>by have:=hP g hg;omega) (hRl.to (AD.below aQ)));have cb:=QA U.symm;have aX:=QA aQ;have bK:=QA a9;have ck:=QA bb;have aS:=QA bf;have HP:=QA hP;have b9:=QA hRf;have bV:=QA hfn;have bU:=QA hnm;have HR:=QA hR;clear U bf aQ a9 bb hP hRf hRl hR hfn hnm;go_enter Tryz.func11,Tryz.ntmps11;go_wp2_with fail;rw[cb.out];refine ah.out.mono ?_;rintro e w2 ⟨v2,rfl,hb2,o⟩;obtain⟨ci,O,aq⟩:=o.row;rw[QV,aS.out]at O;have b8:=QA O;have br:=QA aq;have cm:=QA (aX.out.trans (hb2.mono aX.out.size));have cg:Hid (Ba w2 (w.heap.size+1) []):=QA (bK.out.heap (hb2.block _ (by rw[aS.out];omega)));have bP:Hid (w2.heap[w.heap.size]?=_):=QA ((hb2.block _ (by rw[aS.out];omega)).trans ck.out);clear hb2 o O aq ah;go_wp2_with fail
 go_loopg [6] (Nq.fuel (fs.map Dq.Fr.it) [] ((Dq.sp l).map Prod.fst)+1) (λk nv wr=>∃(kk:Nat) (m:Fs.Names) (seen:List (List UInt8)) (nx:List Dq.Sel) (cs:List Value) (u:Nat),k=kk∧Fs.Seen m seen u∧m.length≤u∧u+kk≤1000001∧Ba wr (w.heap.size+1) m∧AW wr (w.heap.size+2) 34 7 nv nx.length cs∧AZ wr P 7 (nx.map Dq.Sel.d) cs∧Nq.go (fs.map Dq.Fr.it) kk seen (nx.map Dq.Sel.name)=R∧Nq.fuel (fs.map Dq.Fr.it) seen (nx.map Dq.Sel.name)≤kk∧Below w.heap.size w wr∧wr.heap[w.heap.size]?=some (.cells #[.slice a1 n1 c1,.slice a2 fs.length c2] 29 (0,0)))
 case atStart =>
  refine⟨_,[],[],Dq.Sel.sprl l,ci,0,rfl,Fs.Seen.nil,QM _,by omega,cg.out,.of b8.out,br.out,?_,?_,cm.out,bP.out⟩
  ·rw[← C3,HR.out];exact Nq.go_more _ _ _ _ _ (QM _) (by omega)
  ·rw[← C3];omega
 case round =>
  obtain⟨kk,m,seen,nx,cs,u,bm,M,cr,cE,af,C,aE,V,N,hb,hx⟩:=hrel;have HK:=QA bm;have Y:=QA M;clear bm;have E:=QA af;have cG:=QA C;have cO:=QA V;have HB:=QA hb;have HX:=QA hx;cases nx with
  | nil =>
   obtain⟨p,cc,rfl,-,-⟩:=C.form;have ct:R=seen:=by rw[← V];cases kk<;>rfl
   clear M af C V hb hx aE;go_wp2_with fail;refine (callsIn_wide.1 (EX (some (w.heap.size+1)) wr)).mono ?_;rintro e w3 ⟨rfl,rfl⟩;go_wp2_with fail;refine (callsIn_wide.1 (Dt (w.heap.size+1) m.length (Fs.datum m) _ wr E.out (by rw[Fs.datum_size];unfold maxLen;omega) (by rw[Fs.datum_size];omega))).mono ?_;rintro e w4 ⟨v4,ss,rfl,hperm,hrow4,-,hb4⟩;have cf:=QA hperm;have F:=QA hrow4;have B:=QA hb4;clear hperm hrow4 hb4;go_wp2_with fail;go_ret;have cM:=HB.out.size;have ag:Below w.heap.size w (wr.alloc (.cells #[.map (some (w.heap.size+1))] 76)):=HB.out.alloc HB.out.size _;exact⟨v4,ss,rfl,by rw[ct];exact (cf.out.trans (by rw[Ea])).trans Y.out.perm,Cx F.out (by simp;omega),ag.trans (B.out.mono (by simp;omega))⟩
  | cons s r =>
   obtain⟨x,y,bJ,hd,bF,bp⟩:=aE.cons_inv;subst bJ;have HD:=QA hd;have b7:=QA bp;obtain⟨a4,a5,a6,c4,Z,c6,rfl,-,-,bT⟩:=Dq.Sel.opened hd;have S:=Nq.fuel_skip (fs.map Dq.Fr.it) seen s.name (r.map Dq.Sel.name);rw[List.map_cons]at N V;obtain⟨k1,rfl⟩:∃k1,kk=k1+1:=⟨kk-1,by omega⟩
   have ap:=QA N;have ar:=QA V;rcases C.2 with⟨h4,h5⟩|⟨g,off,cap,cur,hv,hbg,hgc,hnc,hcm,hcs,htk⟩
   ·exact absurd h5 (by simp)
   subst hv;have aP:=AW.skip (n:=r.length) C;obtain⟨p2,ch⟩:∃p2,(if cap=1 then some (⟨g,off,none⟩:Addr) else some ⟨g,off+7,none⟩)=p2:=⟨_,rfl⟩
   have aI:sliced (some ⟨g,off,none⟩) 1 (r.length+1) cap 7=.slice p2 r.length (cap-1):=by
    unfold sliced;rw[← ch];simp[Addr.add_lit]
   rw[aI]at aP;have bw:Hid (AW wr (w.heap.size+2) 34 7 (.slice p2 r.length (cap-1)) r.length y):=QA aP;have cp:wr.cell? ⟨g,off,none⟩=some (.int .i64 s.kind):=C.cells 0 _ rfl;have bX:wr.cell? ⟨g,off+1,none⟩=some (.string ⟨s.nick.toArray⟩):=C.cells 1 _ rfl;have cd:wr.cell? ⟨g,off+2,none⟩=some (.string ⟨s.name.toArray⟩):=C.cells 2 _ rfl;have cu:wr.cell? ⟨g,off+3,none⟩=some (.slice a4 s.args.length c4):=C.cells 3 _ rfl;have bZ:wr.cell? ⟨g,off+4,none⟩=some (.slice a5 s.dirs.length Z):=C.cells 4 _ rfl;have bQ:wr.cell? ⟨g,off+5,none⟩=some (.slice a6 s.sels.length c6):=C.cells 5 _ rfl;have bS:wr.cell? ⟨g,off+6,none⟩=some (.int .i64 s.at_):=C.cells 6 _ rfl;have aR:Below w.heap.size w (wr.alloc (.cells #[.int .i64 s.kind,.string ⟨s.nick.toArray⟩,.string ⟨s.name.toArray⟩,.slice a4 s.args.length c4,.slice a5 s.dirs.length Z,.slice a6 s.sels.length c6,.int .i64 s.at_] 34)):=HB.out.alloc HB.out.size _;have aH:=HB.out.size;have am:(wr.alloc (.cells #[.int .i64 s.kind,.string ⟨s.nick.toArray⟩,.string ⟨s.name.toArray⟩,.slice a4 s.args.length c4,.slice a5 s.dirs.length Z,.slice a6 s.sels.length c6,.int .i64 s.at_] 34)).heap[w.heap.size]?=some (.cells #[.slice a1 n1 c1,.slice a2 fs.length c2] 29 (0,0)):=by
    rw[Lib.alloc_old _ _ _ (block_lt HX.out)];exact HX.out
   have bq:(wr.alloc (.cells #[.int .i64 s.kind,.string ⟨s.nick.toArray⟩,.string ⟨s.name.toArray⟩,.slice a4 s.args.length c4,.slice a5 s.dirs.length Z,.slice a6 s.sels.length c6,.int .i64 s.at_] 34)).heap[wr.heap.size]?=some (.cells #[.int .i64 s.kind,.string ⟨s.nick.toArray⟩,.string ⟨s.name.toArray⟩,.slice a4 s.args.length c4,.slice a5 s.dirs.length Z,.slice a6 s.sels.length c6,.int .i64 s.at_] 34 (0,0)):=AC _ _;have bz:(wr.alloc (.cells #[.int .i64 s.kind,.string ⟨s.nick.toArray⟩,.string ⟨s.name.toArray⟩,.slice a4 s.args.length c4,.slice a5 s.dirs.length Z,.slice a6 s.sels.length c6,.int .i64 s.at_] 34)).heap.size=wr.heap.size+1:=by simp
   have z0:(wr.alloc (.cells #[.int .i64 s.kind,.string ⟨s.nick.toArray⟩,.string ⟨s.name.toArray⟩,.slice a4 s.args.length c4,.slice a5 s.dirs.length Z,.slice a6 s.sels.length c6,.int .i64 s.at_] 34)).cell? ⟨w.heap.size,0,none⟩=some (.slice a1 n1 c1):=AA am 0 _ rfl;have z1:(wr.alloc (.cells #[.int .i64 s.kind,.string ⟨s.nick.toArray⟩,.string ⟨s.name.toArray⟩,.slice a4 s.args.length c4,.slice a5 s.dirs.length Z,.slice a6 s.sels.length c6,.int .i64 s.at_] 34)).cell? ⟨w.heap.size,1,none⟩=some (.slice a2 fs.length c2):=AA am 1 _ rfl;have bh:=QA (Ig fs hl a1 n1 c1 a2 c2 s.name (wr.alloc (.cells #[.int .i64 s.kind,.string ⟨s.nick.toArray⟩,.string ⟨s.name.toArray⟩,.slice a4 s.args.length c4,.slice a5 s.dirs.length Z,.slice a6 s.sels.length c6,.int .i64 s.at_] 34)) P (b9.out.to (AD.below aR)));have aF:=QA aR;have b0:=QA am;have ca:=QA bq;have W:=QA bz;clear M af C V hb hx aE hd bp bT N S hbg hgc hcs htk aP aI bF aR am bq bz;go_wp2_with fail;refine bh.out.mono ?_;rintro e w3 ⟨hb3,hres⟩;have cI:=hb3.size;have aA:∀w4,Below w3.heap.size w3 w4→Ba w4 (w.heap.size+1) m∧AW w4 (w.heap.size+2) 34 7 (.slice p2 r.length (cap-1)) r.length y∧AZ w4 P 7 (r.map Dq.Sel.d) y∧Below w.heap.size w w4∧w4.heap[w.heap.size]?=some (.cells #[.slice a1 n1 c1,.slice a2 fs.length c2] 29 (0,0))∧w4.heap[wr.heap.size]?=some (.cells #[.int .i64 s.kind,.string ⟨s.nick.toArray⟩,.string ⟨s.name.toArray⟩,.slice a4 s.args.length c4,.slice a5 s.dirs.length Z,.slice a6 s.sels.length c6,.int .i64 s.at_] 34 (0,0)):=by
    intro w4 hb4;have T:Below (wr.alloc (.cells #[.int .i64 s.kind,.string ⟨s.nick.toArray⟩,.string ⟨s.name.toArray⟩,.slice a4 s.args.length c4,.slice a5 s.dirs.length Z,.slice a6 s.sels.length c6,.int .i64 s.at_] 34)).heap.size (wr.alloc (.cells #[.int .i64 s.kind,.string ⟨s.nick.toArray⟩,.string ⟨s.name.toArray⟩,.slice a4 s.args.length c4,.slice a5 s.dirs.length Z,.slice a6 s.sels.length c6,.int .i64 s.at_] 34)) w4:=hb3.trans (hb4.mono hb3.size);have ag:Below wr.heap.size wr w4:=((Below.refl _ _).alloc (QM _) _).trans (T.mono (by have:=W.out;omega));have bi:Below w.heap.size w w4:=aF.out.trans (T.mono aF.out.size);exact⟨E.out.heap (ag.block _ E.out.lt),bw.out.to (λg hg=>ag.block g (bw.out.lt g hg).2),b7.out.to (Az HP.out HB.out bi ag.size),bi,(T.block _ (by have:=W.out;have:=block_lt HX.out;omega)).trans b0.out,(T.block _ (by have:=W.out;omega)).trans ca.out⟩
   have ak:=QA aA;clear hb3 aA bh cp bX cd cu bZ bQ bS z0 z1;rcases hres with⟨hnone,rfl⟩|⟨f,fcs,hsome,hfd,rfl⟩
   ·have HN:=QA hnone;clear hnone;go_wp2_with fail;go_roundg k1
    case measure=>rw[HK.out];omega
    case rel =>
     obtain⟨b1,b2,b3,b4,b5,b6⟩:=ak.out (w3.alloc (.cells #[.string ⟨#[]⟩,.string ⟨#[]⟩,.slice none 0 0,.slice none 0 0,.int .i64 0] 36)) ((Below.refl _ _).alloc (QM _) _);have o:=ar.out;rw[Nq.go,FE,HN.out]at o;exact⟨k1,m,seen,r,y,u,rfl,Y.out,cr,by omega,b1,b2,b3,o,by have:=ap.out;have:=Nq.fuel_skip (fs.map Dq.Fr.it) seen s.name (r.map Dq.Sel.name);omega,b4,b5⟩
   ·have aL:=List.mem_of_find?_eq_some hsome;have hfn:f.name=s.name:=of_decide_eq_true (by simpa using List.find?_some hsome);have bj:s.name.length≤maxLen:=by rw[← hfn];have:=bU.out f aL;unfold maxLen;omega
    have D:=keyOf_string_mk Tryz.underlying9 (s:=⟨s.name.toArray⟩) (show s.name.length≤maxLen from bj);have HN:=QA hsome;have bA:=QA (bV.out f aL);obtain⟨a7,a8,c7,c8,rfl,-,be⟩:=Dq.Fr.opened hfd;have bG:=QA be;obtain⟨b1,b2,b3,b4,b5,b6⟩:=ak.out (w3.alloc (.cells #[.string ⟨f.name.toArray⟩,.string ⟨f.on.toArray⟩,.slice a7 f.dirs.length c7,.slice a8 f.sels.length c8,.int .i64 f.at_] 36)) ((Below.refl _ _).alloc (QM _) _);have an:=QA b1;have F:=QA b2;have bk:=QA b3;have B:=QA b4;have al:=QA b5;have cA:=QA b6;have bs:(w3.alloc (.cells #[.string ⟨f.name.toArray⟩,.string ⟨f.on.toArray⟩,.slice a7 f.dirs.length c7,.slice a8 f.sels.length c8,.int .i64 f.at_] 36)).heap[w3.heap.size]?=some (.cells #[.string ⟨f.name.toArray⟩,.string ⟨f.on.toArray⟩,.slice a7 f.dirs.length c7,.slice a8 f.sels.length c8,.int .i64 f.at_] 36 (0,0)):=AC _ _;have bR:=QA bs;have bc:(w3.alloc (.cells #[.string ⟨f.name.toArray⟩,.string ⟨f.on.toArray⟩,.slice a7 f.dirs.length c7,.slice a8 f.sels.length c8,.int .i64 f.at_] 36)).heap.size=w3.heap.size+1:=by simp
    have bt:=QA bc;have kn:(w3.alloc (.cells #[.string ⟨f.name.toArray⟩,.string ⟨f.on.toArray⟩,.slice a7 f.dirs.length c7,.slice a8 f.sels.length c8,.int .i64 f.at_] 36)).cell? ⟨wr.heap.size,2,none⟩=some (.string ⟨s.name.toArray⟩):=AA b6 2 _ rfl;have aw:Hid (wr.heap.size≠w.heap.size+1):=QA (by have:=E.out.lt;omega);have bo:Hid (w3.heap.size≠w.heap.size+1):=QA (by have:=E.out.lt;have:=W.out;omega);have cz:Hid (w.heap.size≠w.heap.size+1):=QA (by omega);have au:=QA (Fs.datum_get m s.name);have o:=ar.out;rw[Nq.go,FE,HN.out]at o;have aY:=QA o;clear aL hfn bj hsome hfd be b1 b2 b3 b4 b5 b6 bs bc o ak;by_cases hin:s.name∈seen;rotate_left
    ·have hq:=Y.out.get_new hin;have HQ:=QA hq;have X:=QA hin;have aJ:=QA (Fs.datum_get (Fs.mput m s.name 1) s.name);have ai:Hid (Fs.mget (Fs.mput m s.name 1) s.name=1):=QA (by rw[Fs.mget_mput,if_pos rfl]);have bO:Hid ((Lit.int .i64 1).wf=true):=QA (by decide);clear hq hin;go_wp2_with (first
      | (at_lookup;refine wpList_lookup_own_int _ rfl _ _ 76 rfl 9 3 .i64 Bj Tryz.underlying76 Tryz.underlying3 (Dy _) (w.heap.size+1) _ _ rfl an.out _ _ rfl D ?_;intro cc hat hwc;obtain rfl:cc=0:=(by have:=hat.symm.trans au.out;simp only[DataW.lit.injEq,Lit.int.injEq,true_and]at this;rw[this,HQ.out]);clear hat hwc)
      | (at_mapUpdate;refine wpList_mapUpdate_own _ rfl _ _ _ 76 rfl 9 3 Bj Tryz.underlying76 _ (w.heap.size+1) _ _ rfl an.out (by unfold maxLen;omega) _ _ _ rfl rfl D _ [] (plainElem_int Tryz.underlying3 bO.out) ?_;intro w5 hown5 hgrow5;have aj:Ba w5 (w.heap.size+1) (Fs.mput m s.name 1):=(by have h:=hown5;rw[Fs.datum_put]at h;exact Ba.of h);have J:=QA aj;have A:=QA hgrow5;have cn:w5.cell? ⟨wr.heap.size,2,none⟩=some (.string ⟨s.name.toArray⟩):=hgrow5.cell kn (λe=>aw.out (Option.some.inj e));have cN:w5.cell? ⟨w3.heap.size,3,none⟩=some (.slice a8 f.sels.length c8):=hgrow5.cell (AA bR.out 3 _ rfl) (λe=>bo.out (Option.some.inj e));clear hown5 hgrow5 aj)
      | (at_lookup;refine wpList_lookup_own_int _ rfl _ _ 76 rfl 9 3 .i64 Bj Tryz.underlying76 Tryz.underlying3 (Dy _) (w.heap.size+1) _ _ rfl J.out _ _ rfl D ?_;intro cc hat hwc;obtain rfl:cc=1:=(by have:=hat.symm.trans aJ.out;simp only[DataW.lit.injEq,Lit.int.injEq,true_and]at this;rw[this,ai.out]);clear hat hwc)
      | fail)
     have cJ:=A.out.size;have N:=ap.out;have S:=Nq.fuel_skip (fs.map Dq.Fr.it) seen s.name (r.map Dq.Sel.name);have cK:r.length≤1000001:=by
      have:(r.map Dq.Sel.name).length≤Nq.fuel (fs.map Dq.Fr.it) seen (r.map Dq.Sel.name):=by unfold Nq.fuel;omega
      rw[QV]at this;omega
     have aI:(Dq.Sel.sprl f.sels).length≤1000000000:=QQ (Dq.Sel.sprl_num _) bA.out;have Q:Below w.heap.size w w5:=⟨A.out.os.trans B.out.os,A.out.tape.trans B.out.tape,A.out.output.trans B.out.output,QQ B.out.size A.out.size,λk hk=>(A.out.block k (ZU hk B.out.size) (λe=>by simp at e;omega)).trans (B.out.block k hk)⟩
     have bd:=QA Q;have ah:=QA (CK f.sels bA.out a8 c8 w5 P (λg hg=>ZU (HP.out g hg) Q.size) (bG.out.to (Az HP.out aF.out Q (by have:=bt.out;have:=W.out;omega))));have bu:AW w5 (w.heap.size+2) 34 7 (.slice p2 r.length (cap-1)) r.length y:=F.out.to (λg hg=>A.out.block g (F.out.lt g hg).2 (λe=>by simp at e;have:=(F.out.lt g hg).1;omega));have a0:=QA bu;clear N S Q bu;refine ah.out.mono ?_;rintro e w6 ⟨v6,rfl,hb6,hg6⟩;obtain⟨a3,I,ax⟩:=hg6.row;rw[QV]at I;have bv:=QA I;have av:=QA ax;have G:=QA hb6;have bx:Hid (AW w6 (w.heap.size+2) 34 7 (.slice p2 r.length (cap-1)) r.length y):=QA (a0.out.to (λg hg=>hb6.block g (a0.out.lt g hg).2));have L:Hid (Below w.heap.size w w6):=QA (bd.out.trans (hb6.mono bd.out.size));have ao:w.heap.size+2≤w6.heap.size:=by have:=hb6.size;have:=bt.out;have:=W.out;have:=E.out.lt;omega
     clear hb6 hg6 I ax ah;go_wp2_with (first|(at_builtin;refine Ck rfl _ _ 32 rfl (w.heap.size+2) 34 i0 _ 7 120 Tryz.underlying32 hi cj bI bW rfl (by decide) (.slice p2 r.length (cap-1)) r.length y rfl bx.out _ v6 (Dq.Sel.sprl f.sels).length a3 rfl bv.out av.out.one (by unfold maxLen;omega) (by omega) ao ?_;intro v7 w7 hot7 hg7 hloc7;have bH:=QA hot7;have K:=QA hg7;clear hot7 hg7 hloc7)|fail);go_roundg k1
     case measure=>rw[HK.out];omega
     case rel =>
      have o:=aY.out;rw[Option.map_some]at o
      replace o:(if s.name∈seen then Nq.go (fs.map Dq.Fr.it) k1 seen (r.map Dq.Sel.name) else Nq.go (fs.map Dq.Fr.it) k1 (seen++[s.name]) (r.map Dq.Sel.name++(Dq.sp f.sels).map Prod.fst))=R:=o
      rw[if_neg X.out,C3,← ZR]at o;have hfn:=Nq.fuel_new (fs:=fs.map Dq.Fr.it) (seen:=seen) (r:=r.map Dq.Sel.name) (n:=s.name) (f:=f.it) (by rw[FE,HN.out];rfl) X.out;rw[show f.it.sp=Dq.sp f.sels from rfl,C3,← ZR]at hfn;have N:=ap.out;have bn:=Fs.mput_len2 m s.name 1;have bg:(Fs.mdel m s.name).length≤m.length:=List.length_filter_le _ _;have aG:∀k,k<w6.heap.size→k<w.heap.size+2→w7.heap[k]?=w6.heap[k]?:=λk hk hk2=>K.out.block k hk (λe=>by have:=(bx.out.lt k e.symm).1;omega)
      have aN:Below w.heap.size w w7:=⟨K.out.os.trans L.out.os,K.out.tape.trans L.out.tape,K.out.output.trans L.out.output,QQ L.out.size K.out.size,λk hk=>(aG k (ZU hk L.out.size) (by omega)).trans (L.out.block k hk)⟩
      refine⟨k1,Fs.mput m s.name 1,seen++[s.name],r++Dq.Sel.sprl f.sels,y++a3,u+1,rfl,Y.out.put_new X.out,by omega,by omega,?_,?_,?_,o,by omega,aN,?_⟩
      ·exact J.out.heap ((aG _ (ZU J.out.lt G.out.size) (by omega)).trans (G.out.block _ J.out.lt))
      ·rw[QS];exact bH.out
      ·rw[ZR];exact (bk.out.to (Az HP.out B.out aN (by have:=A.out.size;have:=G.out.size;have:=K.out.size;omega))).join (av.out.to (Az HP.out L.out aN K.out.size))
      ·have h4:w.heap.size<(w3.alloc (.cells #[.string ⟨f.name.toArray⟩,.string ⟨f.on.toArray⟩,.slice a7 f.dirs.length c7,.slice a8 f.sels.length c8,.int .i64 f.at_] 36)).heap.size:=block_lt al.out;have h5:w.heap.size<w5.heap.size:=ZU h4 A.out.size;exact (aG _ (ZU h5 G.out.size) (by omega)).trans ((G.out.block _ h5).trans ((A.out.block _ h4 (λe=>by simp at e)).trans al.out))
    ·have hq:=Y.out.get_old hin;obtain⟨q,aK⟩:∃q:Nat,Fs.mget m s.name=(q:Int):=⟨(Fs.mget m s.name).toNat,by omega⟩
     rw[aK]at hq;have HQ:=QA aK;have X:=QA hin;obtain⟨aH,cL,cx,cw⟩:=Kr hq.1 (by omega);have bN:=QA aH;have aZ:m.length<maxLen:=by unfold maxLen;omega
     have aJ:=QA (Fs.datum_get (Fs.mput m s.name ((q:Int)+1)) s.name);have ai:Hid (Fs.mget (Fs.mput m s.name ((q:Int)+1)) s.name=(q:Int)+1):=QA (by rw[Fs.mget_mput,if_pos rfl]);have cv:=QA hq.1;clear aK hin aH hq;go_wp2_with (first
      | (at_lookup;refine wpList_lookup_own_int _ rfl _ _ 76 rfl 9 3 .i64 Bj Tryz.underlying76 Tryz.underlying3 (Dy _) (w.heap.size+1) _ _ rfl an.out _ _ rfl D ?_;intro cc hat hwc;obtain rfl:cc=(q:Int):=(by have:=hat.symm.trans au.out;simp only[DataW.lit.injEq,Lit.int.injEq,true_and]at this;rw[this,HQ.out]);clear hat hwc)
      | (at_mapUpdate;refine wpList_mapUpdate_own _ rfl _ _ _ 76 rfl 9 3 Bj Tryz.underlying76 _ (w.heap.size+1) _ _ rfl an.out (by first|exact aZ|exact Nat.le_of_lt aZ) _ _ _ rfl rfl D _ [] (plainElem_int Tryz.underlying3 (wrap64_wf _)) ?_;intro w5 hown5 hgrow5;have aj:Ba w5 (w.heap.size+1) (Fs.mput m s.name ((q:Int)+1)):=(by have h:=hown5;rw[Fs.datum_put,bN.out]at h;exact Ba.of h);have J:=QA aj;have A:=QA hgrow5;have cn:w5.cell? ⟨wr.heap.size,2,none⟩=some (.string ⟨s.name.toArray⟩):=hgrow5.cell kn (λe=>aw.out (Option.some.inj e));clear hown5 hgrow5 aj)
      | (at_lookup;refine wpList_lookup_own_int _ rfl _ _ 76 rfl 9 3 .i64 Bj Tryz.underlying76 Tryz.underlying3 (Dy _) (w.heap.size+1) _ _ rfl J.out _ _ rfl D ?_;intro cc hat hwc;obtain rfl:cc=(q:Int)+1:=(by have:=hat.symm.trans aJ.out;simp only[DataW.lit.injEq,Lit.int.injEq,true_and]at this;rw[this,ai.out]);clear hat hwc)
      | fail)
     go_roundg k1
     case measure=>rw[HK.out];omega
     case rel =>
      have o:=aY.out;rw[Option.map_some]at o
      replace o:(if s.name∈seen then Nq.go (fs.map Dq.Fr.it) k1 seen (r.map Dq.Sel.name) else Nq.go (fs.map Dq.Fr.it) k1 (seen++[s.name]) (r.map Dq.Sel.name++(Dq.sp f.sels).map Prod.fst))=R:=o
      rw[if_pos X.out]at o;have N:=ap.out;have S:=Nq.fuel_skip (fs.map Dq.Fr.it) seen s.name (r.map Dq.Sel.name);have bn:=Fs.mput_len2 m s.name ((q:Int)+1);have bg:(Fs.mdel m s.name).length≤m.length:=List.length_filter_le _ _;have bl:=Y.out.put_old X.out;rw[HQ.out]at bl;have Q:Below w.heap.size w w5:=⟨A.out.os.trans B.out.os,A.out.tape.trans B.out.tape,A.out.output.trans B.out.output,QQ B.out.size A.out.size,λk hk=>(A.out.block k (ZU hk B.out.size) (λe=>by simp at e;omega)).trans (B.out.block k hk)⟩
      refine⟨k1,Fs.mput m s.name ((q:Int)+1),seen,r,y,u+1,rfl,bl,by omega,by omega,J.out,F.out.to (λg hg=>A.out.block g (F.out.lt g hg).2 (λe=>by simp at e;have:=(F.out.lt g hg).1;omega)),bk.out.to (Az HP.out B.out Q A.out.size),o,by omega,Q,(A.out.block _ (block_lt al.out) (λe=>by simp at e)).trans al.out⟩
theorem KZ (n:Int) (k:Int) (h:0<k) (h2:k<100000):∃N:Nat,wrap64 ((IntKind.u64.wrap n).tmod k)=N∧(N:Int)<k:=by
 have A:0≤IntKind.u64.wrap n:=by
  unfold IntKind.wrap IntKind.bits IntKind.signed;simp;omega
 refine⟨((IntKind.u64.wrap n).tmod k).toNat,?_,?_⟩
 ·rw[Int.tmod_eq_emod_of_nonneg A];have o:=Int.emod_nonneg (IntKind.u64.wrap n) (by omega:k≠0);have B:=Int.emod_lt_of_pos (IntKind.u64.wrap n) h;rw[Int.toNat_of_nonneg o];unfold wrap64;omega
 ·rw[Int.tmod_eq_emod_of_nonneg A];have o:=Int.emod_nonneg (IntKind.u64.wrap n) (by omega:k≠0);have B:=Int.emod_lt_of_pos (IntKind.u64.wrap n) h;omega
namespace Dq
def rngSels (n:Nat) (closed:Bool) (i:Nat):List Sel:=.mk 1 [] [97] [] [] [] 0::(if closed=true∨i+1<n then [.mk 2 [] (Nq.nm ((i+1) % n)) [] [] [] 0] else [])
def rngFr (n:Nat) (closed:Bool) (i:Nat):Fr:=⟨Nq.nm i,[84],[],rngSels n closed i,100+i⟩
def rngOp (s:Nat):Op:=⟨1,[],[],[],[.mk 2 [] (Nq.nm s) [] [] [] 0],7⟩
theorem rngFr_it (n:Nat) (closed:Bool) (i:Nat):(rngFr n closed i).it=Nq.rFr n closed i:=by
 unfold Fr.it rngFr sp Nq.rFr rngSels;by_cases h:closed=true∨i+1<n
 ·simp[h,Sel.sprl,Sel.spr,Sel.name,Sel.at_]
 ·simp[h,Sel.sprl,Sel.spr,Sel.name,Sel.at_]
theorem rngOp_it (s:Nat):(rngOp s).it=Nq.rOp s:=by
 unfold Op.it rngOp sp Nq.rOp;simp[Sel.sprl,Sel.spr,Sel.name,Sel.at_]
theorem rngSels_num (n:Nat) (closed:Bool) (i:Nat):Sel.numl (rngSels n closed i)≤2:=by
 unfold rngSels;split<;>simp[Sel.numl,Sel.num]
end Dq
theorem CW (w:World) (P:Nat→Prop) (k:Int) (n:List UInt8) (p:Int):Reads w P (Dq.Sel.mk k [] n [] [] [] p).d [.int .i64 k,.string ⟨#[]⟩,.string ⟨n.toArray⟩,.slice none 0 0,.slice none 0 0,.slice none 0 0,.int .i64 p]:=by
 rw[Dq.Sel.d_eq];exact .obj (.cons (.int _) (.cons (.str _) (.cons (.str _) (.cons (.seq .nil) (.cons (.seq .nil) (.cons (.seq .nil) (.cons (.int _) .nil)))))))
theorem FC {w:World} {P:Nat→Prop} {b:Nat} (hP:P b) {k:Int} {n:List UInt8} {p:Int} {T:TypeId} (h:w.heap[b]?=some (.cells #[.int .i64 k,.string ⟨#[]⟩,.string ⟨n.toArray⟩,.slice none 0 0,.slice none 0 0,.slice none 0 0,.int .i64 p] T (0,0))) :
  Reads w P (.seq 7 ([Dq.Sel.mk k [] n [] [] [] p].map Dq.Sel.d)) [.slice (some ⟨b,0,none⟩) 1 1]:=by
 have o:A5 w P 7 (some ⟨b,0,none⟩) 0 ([Dq.Sel.mk k [] n [] [] [] p].map Dq.Sel.d) :=
  .cons rfl hP (block_lt h) rfl (λj v hv=>by
   rw[show 0+0*7+j=j by omega];exact AA h j v (by simpa using hv)) (CW w P k n p) .nil
 exact .seq o
theorem I3 {w:World} {P:Nat→Prop} {k:Int} {n:List UInt8} {at_:Int} {sels:List Dq.Sel} {a:Option Addr} {c m:Nat} (hm:m=sels.length) (h:Reads w P (.seq 7 (sels.map Dq.Sel.d)) [.slice a m c]) :
  Reads w P (Dq.Op.d ⟨k,n,[],[],sels,at_⟩) [.int .i64 k,.string ⟨n.toArray⟩,.slice none 0 0,.slice none 0 0,.slice a m c,.int .i64 at_] :=
 .obj (.cons (.int _) (.cons (.str _) (.cons (.seq .nil) (.cons (.seq .nil) (.cons h (.cons (.int _) .nil))))))
theorem GH {w:World} {P:Nat→Prop} {n on:List UInt8} {at_:Int} {sels:List Dq.Sel} {a:Option Addr} {c m:Nat} (hm:m=sels.length) (h:Reads w P (.seq 7 (sels.map Dq.Sel.d)) [.slice a m c]) :
  Reads w P (Dq.Fr.d ⟨n,on,[],sels,at_⟩) [.string ⟨n.toArray⟩,.string ⟨on.toArray⟩,.slice none 0 0,.slice a m c,.int .i64 at_] :=
 .obj (.cons (.str _) (.cons (.str _) (.cons (.seq .nil) (.cons h (.cons (.int _) .nil)))))
theorem Jb {w:World} {base:Nat} {v:Value} {xs:List Dq.Sel} {cs:List Value} (h:w.ownsRow base 34 7 v xs.length cs) (hr:AZ w (λ_=>False) 7 (xs.map Dq.Sel.d) cs):Reads w (λx=>v.ownBlock=some x) (.seq 7 (xs.map Dq.Sel.d)) [v] :=
 (AY.reads (w:=w) (P:=λ_=>False) (base:=base) (T:=34) (k:=7) (v:=v) (xs:=xs.map Dq.Sel.d) ⟨⟨_,by rw[QV];exact h,hr⟩,λ_ _ h=>h⟩).to (AD.sub w (λx _ hp=>by
  rcases hp with hp|hp
  ·exact hp.elim
  ·exact hp))
theorem Hk (w:World) (m:List Cp.Pb) (hm:m.length≤1000):Pbs (w.alloc (.cells (AM m).toArray 42)) (λ_=>True) (.slice (some ⟨w.heap.size,0,none⟩) m.length m.length) m:=by
 have h:Ab (w.alloc (.cells (AM m).toArray 42)) w.heap.size (.slice (some ⟨w.heap.size,0,none⟩) m.length m.length) m :=
  ⟨Ae m,.inr ⟨w.heap.size,m.length,(AM m).toArray,rfl,QM _,AC w _,QM _,by unfold maxLen;omega,by rw[List.size_toArray,Ae],by rw[List.toList_toArray];exact List.take_of_length_le (by rw[Ae];omega)⟩⟩
 exact h.pbs.to (AD.sub _ (λ_ _ _=>trivial))
theorem BP {lo n k:Nat} {E:TypeId} {v:Value} {cs:List Value} {w1 wr w8:World} (h:Below lo w1 wr) (hx:wr.ownsRow lo E k v n cs) (hs:lo≤wr.heap.size) (hg:wr.grownBy w8 v.ownBlock):Below lo w1 w8 :=
 ⟨hg.os.trans h.os,hg.tape.trans h.tape,hg.output.trans h.output,QQ h.size hg.size,λk hk=>by rw[hg.block k (by omega) (λe=>by have:=(hx.lt k e.symm).1;omega)];exact h.block k hk⟩
theorem DW.start (w:World) (T6 E1 E2:TypeId) (k1 k2:Nat):DW w.heap.size (w.heap.size+1) T6 (λx y=>#[x,y]) E1 E2 k1 k2 (.slice none 0 0) (.slice none 0 0) (.slice none 0 0) [] [] [] (w.alloc (.cells #[.slice none 0 0,.slice none 0 0] T6)) :=
 ⟨Nat.lt_succ_self _,by simp,AC _ _,AY.nil _ _ _ _ _,AY.nil _ _ _ _ _,Ab.nil _ _,λx h=>by simp[Value.ownBlock]at h,λx h=>by simp[Value.ownBlock]at h,λx h=>by simp[Value.ownBlock]at h⟩
end Go.Proofs.YtedeapbonbbacaaGreatDoor
