/-
  The reader of documents: what is done for each selection, each variable (closures), walked. Documents as data: what their cells hold. The reader of documents: a selection set, walked, a selection's walk being given. A block that is filled field by field, its data beside it, other new blocks about it.
-/
import Derived.Test.YtefjgpkpplkkgaaGreatDoorZo15
open Go.Lib renaming hid → QA
open List renaming setIfInBounds_toArray → QC, drop_succ_cons → QE, take_succ_cons → QF, set_cons_succ → QG, set_cons_zero → QH, drop_zero → QL, take_zero → QN, length_map → QZ
open Nat renaming le_refl → QM, le_trans → QR, add_sub_cancel_left → QY, reduceAdd → ZB
namespace Go.Proofs.YtefjgpkpplkkgaaGreatDoor
set_option maxRecDepth 100000
set_option maxHeartbeats 4000000
set_option linter.unusedSimpArgs false
set_option linter.unusedVariables false
open Go Go.RowKit
theorem NC:(Tryz.prog.info? 174).map (λi=>(i.zero,i.size,i.bytes))=some (some (.agg #[.int .i64 0,.string ⟨#[]⟩,.string ⟨#[]⟩,.slice none 0 0,.slice none 0 0,.slice none 0 0,.int .i64 0]),7,120):=by kernel_rfl
theorem OY:(Tryz.prog.info? 100).map (λi=>(i.zero,i.size,i.bytes))=some (some (.agg #[.string ⟨#[]⟩,.string ⟨#[]⟩,.bool false,.int .i64 0,.string ⟨#[]⟩,.slice none 0 0,.slice none 0 0,.int .i64 0,.int .i64 0]),9,128):=by kernel_rfl
def CM (kd:Nat) (nm:ByteArray) (a:Nat) (v:Value):Array Value:=#[.int .i64 kd,.string nm,v,.slice none 0 0,.slice none 0 0,.int .i64 a]
theorem MR {w:World} {P:Nat→Prop} {x:Qr.Sel} {cs:List Value} (h:Reads w P x.d cs):∃(a1 a2 a3:Option Addr) (c1 c2 c3:Nat),
  cs=[.int .i64 x.kind,.string ⟨x.alias.toArray⟩,.string ⟨x.name.toArray⟩,.slice a1 x.args.length c1,.slice a2 x.dirs.length c2,.slice a3 x.sels.length c3,.int .i64 x.at_] ∧
  Reads w P (.seq 7 (x.args.map Rd.A.d)) [.slice a1 x.args.length c1]∧Reads w P (.seq 3 (x.dirs.map Qr.Dir.d)) [.slice a2 x.dirs.length c2]∧Reads w P (.seq 7 (x.sels.map Qr.Sel.d)) [.slice a3 x.sels.length c3]:=by
 cases x with
 | mk k al nm ar ds ss a =>
  unfold Qr.Sel.d at h;rw[Qr.Sel.dl_map]at h;obtain⟨T,S,rfl,J,E⟩:=h.obj_inv.cons_inv;obtain⟨U,Z,rfl,G,N⟩:=E.cons_inv;obtain⟨x3,X,rfl,Q,R⟩:=N.cons_inv;obtain⟨x4,V,rfl,C,M⟩:=R.cons_inv;obtain⟨x5,Y,rfl,o,H⟩:=M.cons_inv;obtain⟨x6,r6,rfl,B,L⟩:=H.cons_inv;obtain⟨x7,W,rfl,F,D⟩:=L.cons_inv;obtain rfl:=J.int_inv;obtain rfl:=G.str_inv;obtain rfl:=Q.str_inv;obtain⟨b4,K,rfl,_⟩:=C.seq_inv;obtain⟨b5,I,rfl,_⟩:=o.seq_inv;obtain⟨b6,O,rfl,_⟩:=B.seq_inv;obtain rfl:=F.int_inv;obtain rfl:=D.nil_inv;simp only[QZ]at C o B ⊢;exact⟨b4,b5,b6,K,I,O,rfl,C,o,B⟩
theorem GR {w:World} {P:Nat→Prop} {x:Qr.Sel} {cs:List Value} (h:Reads w P x.d cs):∃(k a:Int) (al nm:ByteArray) (a1 a2 a3:Option Addr) (n1 c1 n2 c2 n3 c3:Nat),cs=[.int .i64 k,.string al,.string nm,.slice a1 n1 c1,.slice a2 n2 c2,.slice a3 n3 c3,.int .i64 a]:=by
 obtain⟨a1,a2,a3,c1,c2,c3,rfl,_⟩:=MR h;exact⟨_,_,_,_,_,_,_,_,_,_,_,_,_,rfl⟩
theorem My {w:World} {P:Nat→Prop} {x:Qr.Vd} {cs:List Value} (h:Reads w P x.d cs):∃(nm ty t:ByteArray) (hb:Bool) (k a b':Int) (a1 a2:Option Addr) (n1 c1 n2 c2:Nat),cs=[.string nm,.string ty,.bool hb,.int .i64 k,.string t,.slice a1 n1 c1,.slice a2 n2 c2,.int .i64 a,.int .i64 b'] :=
 ME (x:=⟨x.name,x.type,x.has,x.dflt,x.at_⟩) h
theorem LX (w0:World) (b g t6:Nat) (bx:List Box) (t2 n kk:Nat) (hbx0:(t2,Obj.cells #[(.pointer (some ⟨b,0,none⟩))] 165 (0,0))∈bx) (s:Rd.St) (ds:List D) (w:World)
  (hval:∀w,AL w b g s→Calls Tryz.prog 214 #[(.pointer (some ⟨b,0,none⟩))] w (Got b g w (Qr.sel n kk s).2.d (Qr.sel n kk s).1))
  (h:LI w0 b g t6 bx 94 BH 174 7 s ds w) (hl:ds.length≤1000000) :
  Calls Tryz.prog 213 #[.pointer (some ⟨t6,0,none⟩),.pointer (some ⟨t2,0,none⟩)] w λr w'=>r=.returned (.tuple #[])∧LI w0 b g t6 bx 94 BH 174 7 (Qr.sel n kk s).1 (ds++[(Qr.sel n kk s).2.d]) w':=by
 obtain⟨i0,hi,an,av,ar⟩:=info_parts NC;obtain⟨v,h6,hG⟩:=h.ex;obtain⟨F,G,hv⟩:=hG.form;subst hv;obtain⟨⟨xs,hx,au⟩,aK⟩:=hG;have ab:∀x,(Value.slice F ds.length G).ownBlock=some x→LB t6 bx≤x∧x<w.heap.size:=hx.lt;have aV:=Bc t6 bx;have O:=block_lt h6;have lb:=h.lb;have l6:=h.l6;have bi:(0:Int)≤(ds.length:Int):=Int.natCast_nonneg _;have bl:(ds.length:Int)<(ds.length:Int)+1:=by omega
 obtain⟨s',ax⟩:∃x,x=(Qr.sel n kk s).1:=⟨_,rfl⟩
 obtain⟨d,ag⟩:∃x,x=(Qr.sel n kk s).2.d:=⟨_,rfl⟩
 obtain⟨zs,af⟩:∃x,x=[Value.int .i64 0,.string ⟨#[]⟩,.string ⟨#[]⟩,.slice none 0 0,.slice none 0 0,.slice none 0 0,.int .i64 0]:=⟨_,rfl⟩
 have ap:Hid (∀(w:World) (P:Nat→Prop) (cs:List Value),Reads w P d cs→∃(k' a':Int) (al nm:ByteArray) (a1 a2 a3:Option Addr) (n1 c1 n2 c2 n3 c3:Nat),cs=[.int .i64 k',.string al,.string nm,.slice a1 n1 c1,.slice a2 n2 c2,.slice a3 n3 c3,.int .i64 a']) :=
  QA λw P cs hh=>GR (by rw[← ag];exact hh)
 rw[← ax,← ag]at hval ⊢;have H:=QA h;have aA:=QA au;have H6:=QA h6;have aq:=QA ab;have ae:=QA hval;have B:=QA af;have R:Hid (zs.length=1*7):=by rw[af];exact QA rfl
 have az:Hid (∀w',Fr b w w'→AE w (λx=>t6<x∧(Value.slice F ds.length G).ownBlock≠some x) w' (λx=>t6<x∧(Value.slice F ds.length G).ownBlock≠some x)) :=
  QA λw' hf=>⟨hf.size,λx hx2 hp=>⟨hp,hf.block x hx2 (by omega)⟩⟩
 have S:Hid (∀w',Fr b w w'→w'.ownsRow (LB t6 bx) 174 7 (.slice F ds.length G) ds.length xs):=QA λw' hf=>CI hx (λx hx2=>hf.block x (ab x hx2).2 (by have:=(ab x hx2).1;omega))
 have hS:w.cell? ⟨t6,0,none⟩=some (.slice F ds.length G)∧w.cell? ⟨t2,0,none⟩=some (.pointer (some ⟨b,0,none⟩)) :=
  ⟨by simp[World.cell?,h6,BH],h.cellx hbx0⟩
 have aL:=QA hS;have ac:Hid (∀w',Fr b w w'→w'.cell? ⟨t6,0,none⟩=some (.slice F ds.length G)∧w'.cell? ⟨t2,0,none⟩=some (.pointer (some ⟨b,0,none⟩))):=by
  refine QA λw' hf=>⟨?_,h.cellf hf hbx0⟩
  rw[hf.cell (p:=⟨t6,0,none⟩) O (by show ¬t6=b;omega)];exact aL.out.1
 clear h hx au h6 ab hval ax ag af aK;go_enter Tryz.func213,Tryz.ntmps213;go_wp2_with fail;refine AM (λw'=>w'.cell? ⟨t6,0,none⟩=some (.slice F ds.length G)∧w'.cell? ⟨t2,0,none⟩=some (.pointer (some ⟨b,0,none⟩))) 5 (by kernel_rfl) ?_;refine TK (i:=0) (v:=(.slice F ds.length G)) rfl (Or.inl ⟨by rfl,λw hSw=>by obtain⟨s0,s1⟩:=hSw;go_simp⟩) hS ?_;simp only[Act.put,QC,QH,QG];refine TK (i:=1) (v:=(.pointer (some ⟨b,0,none⟩))) rfl (Or.inl ⟨by rfl,λw hSw=>by obtain⟨s0,s1⟩:=hSw;go_simp⟩) hS ?_;simp only[Act.put,QC,QH,QG];refine TK (i:=3) (v:=(.int .i64 ds.length)) rfl (Or.inl ⟨by rfl,λw hSw=>by obtain⟨s0,s1⟩:=hSw;go_simp⟩) hS ?_;simp only[Act.put,QC,QH,QG];clear hS;refine Ag (i:=2) (k:=4) (by kernel_rfl) ?_ ?_
 ·refine AB (by decide) (λK4 HK4=>?_);simp only[QE,QL,QF,QN];go_wp2_with fail;refine (ae.out w.drew (H.out.rd.to (QM _) rfl rfl)).mono ?_;rintro r w2 ⟨cs,rfl,hrd,hr2,hf2⟩;have hf:Fr b w w2:=⟨hf2.os,hf2.tape,hf2.output,hf2.size,hf2.block⟩
  obtain⟨k',a',al,nm,a1,a2,a3,n1,c1,n2,c2,n3,c3,rfl⟩:=ap.out _ _ _ hrd;have ai:=QA hrd;have HF:=QA hf;have ak:=QA hr2;clear hrd hr2 hf2 hf;go_wp2_with fail;refine HK4.out _ _ ⟨λ_=>ac.out _ HF.out,?_⟩;clear HK4;refine TO (i:=4) ?_;refine AB (by decide) (λK6 HK6=>?_);simp only[QE,QL,QF,QN];go_wp2_with fail;have I:Hid (Below w2.heap.size w2 (w2.alloc (.cells #[.int .i64 0,.string ⟨#[]⟩,.string ⟨#[]⟩,.slice none 0 0,.slice none 0 0,.slice none 0 0,.int .i64 0] 174))):=QA ((Below.refl _ _).alloc (QM _) _);have N:=QA (HF.out.trans (But.of_below (X:=λk=>k=b) I.out));refine HK6.out _ _ ⟨λ_=>ac.out _ N.out,?_⟩;clear HK6;have E:=QA ((H.out.step ak.out HF.out).below I.out);have Z:=QA (S.out _ N.out);have V:=QA (aA.out.to (az.out _ N.out));have L:Hid ((w2.alloc (.cells #[.int .i64 0,.string ⟨#[]⟩,.string ⟨#[]⟩,.slice none 0 0,.slice none 0 0,.slice none 0 0,.int .i64 0] 174)).heap[t6]?=some (.cells (BH (.slice F ds.length G)) 94 (0,0))):=QA (by rw[N.out.block t6 O (by omega)];exact H6.out);have HD:=QA (ai.out.to (w':=w2.alloc (.cells #[.int .i64 0,.string ⟨#[]⟩,.string ⟨#[]⟩,.slice none 0 0,.slice none 0 0,.slice none 0 0,.int .i64 0] 174)) (Q:=λx=>t6<x∧(Value.slice F ds.length G).ownBlock≠some x) ⟨I.out.size,λx hx2 hp=>⟨⟨Nat.lt_of_lt_of_le O hp,λe=>by have h1:=(aq.out x e).2;have h2:w.heap.size≤x:=hp;omega⟩,I.out.block x hx2⟩⟩);have T:Hid (∀j u,zs[j]?=some u→(w2.alloc (.cells #[.int .i64 0,.string ⟨#[]⟩,.string ⟨#[]⟩,.slice none 0 0,.slice none 0 0,.slice none 0 0,.int .i64 0] 174)).cell? ((⟨w2.heap.size,0,none⟩:Addr).add j)=some u):=QA (Ad (fz:=(0,0)) (by rw[B.out];exact AC _ _));have J:LB t6 bx≤(w2.alloc (.cells #[.int .i64 0,.string ⟨#[]⟩,.string ⟨#[]⟩,.slice none 0 0,.slice none 0 0,.slice none 0 0,.int .i64 0] 174)).heap.size:=E.out.low;have W:Hid (∀u∈zs,u.oneCell'=true):=QA (by rw[B.out];intro u hu;simp at hu;rcases hu with rfl|rfl|rfl|rfl|rfl|rfl|rfl<;>rfl);refine TO (i:=5) ?_;refine AB (by decide) (λK7 HK7=>?_);simp only[QE,QL,QF,QN];go_wp2_with (first|(at_builtin;refine wpList_append_own_at _ rfl _ _ 94 rfl (LB t6 bx) 174 i0 _ 7 120 Tryz.underlying94 hi an av ar rfl (by decide) (.slice F ds.length G) ds.length xs rfl Z.out ⟨w2.heap.size,0,none⟩ 1 1 zs rfl R.out T.out W.out (by unfold maxLen;omega) (by omega) J ?_;intro v' w8 hrow8 hg8 hnil8 hloc8;clear hnil8;obtain⟨g',c',rfl,aI,aN⟩:=A5 hrow8 (by omega);have o:=QA hrow8;have K:=QA hg8;have U:=QA hloc8;clear hrow8 hg8 hloc8)|fail);refine HK7.out _ _ ⟨λh=>absurd h (by decide),?_⟩;clear HK7;refine TA (i:=6) (v:=(.pointer (some ⟨g',(ds.length*7),none⟩))) rfl (Or.inl ⟨by rfl,λw _=>by go_simp⟩) ?_;simp only[Act.put,QC,QH,QG];have M:=E.out.h6 Z.out K.out L.out;have y6:w8.cell? ⟨t6,0,none⟩=some (.slice F ds.length G):=by simp[World.cell?,M,BH]
  have y7:w8.frozen? ⟨t6,0,none⟩=false:=by simp[World.frozen?,M]
  have A:xs.length=ds.length*7:=Z.out.1;have q0:=AG o.out (ds.length*7) (.int .i64 0) (by rw[← A,List.getElem?_append_right (QM _),Nat.sub_self,B.out];rfl);have q1:=AG o.out (ds.length*7+1) (.string ⟨#[]⟩) (by rw[← A,List.getElem?_append_right (by omega),QY,B.out];rfl);have q2:=AG o.out (ds.length*7+2) (.string ⟨#[]⟩) (by rw[← A,List.getElem?_append_right (by omega),QY,B.out];rfl);have q3:=AG o.out (ds.length*7+3) (.slice none 0 0) (by rw[← A,List.getElem?_append_right (by omega),QY,B.out];rfl);have q4:=AG o.out (ds.length*7+4) (.slice none 0 0) (by rw[← A,List.getElem?_append_right (by omega),QY,B.out];rfl);have q5:=AG o.out (ds.length*7+5) (.slice none 0 0) (by rw[← A,List.getElem?_append_right (by omega),QY,B.out];rfl);have q6:=AG o.out (ds.length*7+6) (.int .i64 0) (by rw[← A,List.getElem?_append_right (by omega),QY,B.out];rfl);have p0:=World.ownsRow.frozenAt o.out (ds.length*7);have p1:=World.ownsRow.frozenAt o.out (ds.length*7+1);have p2:=World.ownsRow.frozenAt o.out (ds.length*7+2);have p3:=World.ownsRow.frozenAt o.out (ds.length*7+3);have p4:=World.ownsRow.frozenAt o.out (ds.length*7+4);have p5:=World.ownsRow.frozenAt o.out (ds.length*7+5);have p6:=World.ownsRow.frozenAt o.out (ds.length*7+6);have n1:¬g'=t6:=by omega
  have n2:¬t6=g':=by omega
  have Y:=QA A.symm;clear M A;refine Ag (i:=7) (k:=8) (by kernel_rfl) ?_ ?_
  ·refine AB (by decide) (λK9 HK9=>?_);simp only[QE,QL,QF,QN];go_wp2_with fail;refine HK9.out _ _ ⟨λh=>absurd h (by decide),?_⟩;clear HK9;refine TO (i:=8) ?_;refine AB (by decide) (λKa HKa=>?_);simp only[QE,QL,QF,QN];go_wp2_with fail;refine HKa.out _ _ ⟨λh=>absurd h (by decide),?_⟩;clear HKa;refine AH (by kernel_rfl) ?_ _;go_wp2_with fail;go_end0;have C:=E.out.end1 (jj:=0) Z.out V.out HD.out rfl K.out U.out L.out o.out R.out Y.out rfl;simp only[putCells,Nat.add_assoc,ZB]at C;exact⟨rfl,C⟩
  ·refine AB (by decide) (λK9 HK9=>?_);simp only[QE,QL,QF,QN];go_wp2_with fail;refine HK9.out _ _ ⟨λh=>absurd h (by decide),?_⟩;clear HK9;refine TO (i:=7) ?_;refine AB (by decide) (λKa HKa=>?_);simp only[QE,QL,QF,QN];go_wp2_with fail;refine HKa.out _ _ ⟨λh=>absurd h (by decide),?_⟩;clear HKa;refine AH (by kernel_rfl) ?_ _;go_wp2_with fail;go_end0;have C:=E.out.end2 (jj:=0) Z.out V.out HD.out rfl K.out U.out L.out o.out R.out Y.out rfl;simp only[putCells,Nat.add_assoc,ZB]at C;exact⟨rfl,C⟩
 ·refine AB (by decide) (λK6 HK6=>?_);simp only[QE,QL,QF,QN];go_wp2_with fail;have I:Hid (Below w.heap.size w ((w.alloc (.cells #[.int .i64 0,.string ⟨#[]⟩,.string ⟨#[]⟩,.slice none 0 0,.slice none 0 0,.slice none 0 0,.int .i64 0] 174)).drew)):=QA (Below.drew ((Below.refl _ _).alloc (QM _) _));have N:=QA (But.of_below (X:=λk=>k=b) I.out);refine HK6.out _ _ ⟨λ_=>ac.out _ N.out,?_⟩;clear HK6;refine TO (i:=2) ?_;refine AB (by decide) (λK4 HK4=>?_);simp only[QE,QL,QF,QN];go_wp2_with fail;refine (ae.out _ (H.out.rd.below I.out)).mono ?_;rintro r w2 ⟨cs,rfl,hrd,hr2,hf2⟩;obtain⟨k',a',al,nm,a1,a2,a3,n1,c1,n2,c2,n3,c3,rfl⟩:=ap.out _ _ _ hrd;have HF:=QA (N.out.trans hf2);have aD:Hid (w2.heap[w.heap.size]?=some (.cells #[.int .i64 0,.string ⟨#[]⟩,.string ⟨#[]⟩,.slice none 0 0,.slice none 0 0,.slice none 0 0,.int .i64 0] 174 (0,0))):=by
   rw[hf2.block w.heap.size (by show w.heap.size<(w.alloc _).heap.size;simp) (by omega)];exact QA (AC _ _)
  have ai:=QA hrd;have ak:=QA hr2;clear hrd hr2 hf2;go_wp2_with fail;refine HK4.out _ _ ⟨λ_=>ac.out _ HF.out,?_⟩;clear HK4;have E:=QA (H.out.step ak.out HF.out);have Z:=QA (S.out _ HF.out);have V:=QA (aA.out.to (az.out _ HF.out));have L:Hid (w2.heap[t6]?=some (.cells (BH (.slice F ds.length G)) 94 (0,0))):=QA (by rw[HF.out.block t6 O (by omega)];exact H6.out);have HD:=QA (ai.out.to (w':=w2) (Q:=λx=>t6<x∧(Value.slice F ds.length G).ownBlock≠some x) (AE.sub w2 (λx hx2 hp=>by
   have h2:(w.alloc (.cells #[.int .i64 0,.string ⟨#[]⟩,.string ⟨#[]⟩,.slice none 0 0,.slice none 0 0,.slice none 0 0,.int .i64 0] 174)).heap.size≤x:=hp;simp at h2;exact⟨by omega,λe=>by have h1:=(aq.out x e).2;omega⟩)))
  have T:Hid (∀j u,zs[j]?=some u→w2.cell? ((⟨w.heap.size,0,none⟩:Addr).add j)=some u):=QA (Ad (fz:=(0,0)) (by rw[B.out];exact aD.out));have J:LB t6 bx≤(w2).heap.size:=E.out.low;have W:Hid (∀u∈zs,u.oneCell'=true):=QA (by rw[B.out];intro u hu;simp at hu;rcases hu with rfl|rfl|rfl|rfl|rfl|rfl|rfl<;>rfl);refine TO (i:=5) ?_;refine AB (by decide) (λK7 HK7=>?_);simp only[QE,QL,QF,QN];go_wp2_with (first|(at_builtin;refine wpList_append_own_at _ rfl _ _ 94 rfl (LB t6 bx) 174 i0 _ 7 120 Tryz.underlying94 hi an av ar rfl (by decide) (.slice F ds.length G) ds.length xs rfl Z.out ⟨w.heap.size,0,none⟩ 1 1 zs rfl R.out T.out W.out (by unfold maxLen;omega) (by omega) J ?_;intro v' w8 hrow8 hg8 hnil8 hloc8;clear hnil8;obtain⟨g',c',rfl,aI,aN⟩:=A5 hrow8 (by omega);have o:=QA hrow8;have K:=QA hg8;have U:=QA hloc8;clear hrow8 hg8 hloc8)|fail);refine HK7.out _ _ ⟨λh=>absurd h (by decide),?_⟩;clear HK7;refine TA (i:=6) (v:=(.pointer (some ⟨g',(ds.length*7),none⟩))) rfl (Or.inl ⟨by rfl,λw _=>by go_simp⟩) ?_;simp only[Act.put,QC,QH,QG];have M:=E.out.h6 Z.out K.out L.out;have y6:w8.cell? ⟨t6,0,none⟩=some (.slice F ds.length G):=by simp[World.cell?,M,BH]
  have y7:w8.frozen? ⟨t6,0,none⟩=false:=by simp[World.frozen?,M]
  have A:xs.length=ds.length*7:=Z.out.1;have q0:=AG o.out (ds.length*7) (.int .i64 0) (by rw[← A,List.getElem?_append_right (QM _),Nat.sub_self,B.out];rfl);have q1:=AG o.out (ds.length*7+1) (.string ⟨#[]⟩) (by rw[← A,List.getElem?_append_right (by omega),QY,B.out];rfl);have q2:=AG o.out (ds.length*7+2) (.string ⟨#[]⟩) (by rw[← A,List.getElem?_append_right (by omega),QY,B.out];rfl);have q3:=AG o.out (ds.length*7+3) (.slice none 0 0) (by rw[← A,List.getElem?_append_right (by omega),QY,B.out];rfl);have q4:=AG o.out (ds.length*7+4) (.slice none 0 0) (by rw[← A,List.getElem?_append_right (by omega),QY,B.out];rfl);have q5:=AG o.out (ds.length*7+5) (.slice none 0 0) (by rw[← A,List.getElem?_append_right (by omega),QY,B.out];rfl);have q6:=AG o.out (ds.length*7+6) (.int .i64 0) (by rw[← A,List.getElem?_append_right (by omega),QY,B.out];rfl);have p0:=World.ownsRow.frozenAt o.out (ds.length*7);have p1:=World.ownsRow.frozenAt o.out (ds.length*7+1);have p2:=World.ownsRow.frozenAt o.out (ds.length*7+2);have p3:=World.ownsRow.frozenAt o.out (ds.length*7+3);have p4:=World.ownsRow.frozenAt o.out (ds.length*7+4);have p5:=World.ownsRow.frozenAt o.out (ds.length*7+5);have p6:=World.ownsRow.frozenAt o.out (ds.length*7+6);have n1:¬g'=t6:=by omega
  have n2:¬t6=g':=by omega
  have Y:=QA A.symm;clear M A;refine Ag (i:=7) (k:=8) (by kernel_rfl) ?_ ?_
  ·refine AB (by decide) (λK9 HK9=>?_);simp only[QE,QL,QF,QN];go_wp2_with fail;refine HK9.out _ _ ⟨λh=>absurd h (by decide),?_⟩;clear HK9;refine TO (i:=8) ?_;refine AB (by decide) (λKa HKa=>?_);simp only[QE,QL,QF,QN];go_wp2_with fail;refine HKa.out _ _ ⟨λh=>absurd h (by decide),?_⟩;clear HKa;refine AH (by kernel_rfl) ?_ _;go_wp2_with fail;go_end0;have C:=E.out.end1 (jj:=0) Z.out V.out HD.out rfl K.out U.out L.out o.out R.out Y.out rfl;simp only[putCells,Nat.add_assoc,ZB]at C;exact⟨rfl,C⟩
  ·refine AB (by decide) (λK9 HK9=>?_);simp only[QE,QL,QF,QN];go_wp2_with fail;refine HK9.out _ _ ⟨λh=>absurd h (by decide),?_⟩;clear HK9;refine TO (i:=7) ?_;refine AB (by decide) (λKa HKa=>?_);simp only[QE,QL,QF,QN];go_wp2_with fail;refine HKa.out _ _ ⟨λh=>absurd h (by decide),?_⟩;clear HKa;refine AH (by kernel_rfl) ?_ _;go_wp2_with fail;go_end0;have C:=E.out.end2 (jj:=0) Z.out V.out HD.out rfl K.out U.out L.out o.out R.out Y.out rfl;simp only[putCells,Nat.add_assoc,ZB]at C;exact⟨rfl,C⟩
theorem J9 (w0:World) (b g t6:Nat) (bx:List Box) (t2:Nat) (kd:Nat) (nm:ByteArray) (at_ m:Nat) (hbx0:(t2,Obj.cells #[(.pointer (some ⟨b,0,none⟩))] 165 (0,0))∈bx) (s:Rd.St) (ds:List D) (w:World)
  (hval:∀w,AL w b g s→Calls Tryz.prog 177 #[(.pointer (some ⟨b,0,none⟩))] w (Got b g w (Qr.variable_ m s).2.d (Qr.variable_ m s).1))
  (h:LI w0 b g t6 bx 96 (CM kd nm at_) 100 9 s ds w) (hl:ds.length≤1000000) :
  Calls Tryz.prog 176 #[.pointer (some ⟨t6,0,none⟩),.pointer (some ⟨t2,0,none⟩)] w λr w'=>r=.returned (.tuple #[])∧LI w0 b g t6 bx 96 (CM kd nm at_) 100 9 (Qr.variable_ m s).1 (ds++[(Qr.variable_ m s).2.d]) w':=by
 obtain⟨i0,hi,ao,aw,au⟩:=info_parts OY;obtain⟨v,h6,hG⟩:=h.ex;obtain⟨B,C,hv⟩:=hG.form;subst hv;obtain⟨⟨xs,hx,ae⟩,ay⟩:=hG;have O:∀x,(Value.slice B ds.length C).ownBlock=some x→LB t6 bx≤x∧x<w.heap.size:=hx.lt;have aI:=Bc t6 bx;have F:=block_lt h6;have lb:=h.lb;have l6:=h.l6;obtain⟨s',Z⟩:∃x,x=(Qr.variable_ m s).1:=⟨_,rfl⟩
 obtain⟨d,L⟩:∃x,x=(Qr.variable_ m s).2.d:=⟨_,rfl⟩
 have ap:Hid (∀(w:World) (P:Nat→Prop) (cs:List Value),Reads w P d cs→∃(o A t:ByteArray) (N:Bool) (k a I:Int) (M R:Option Addr) (J c1 S c2:Nat),cs=[.string o,.string A,.bool N,.int .i64 k,.string t,.slice M J c1,.slice R S c2,.int .i64 a,.int .i64 I]) :=
  QA λw P cs hh=>My (by rw[← L];exact hh)
 have ac:=QA hval;rw[← Z,← L];have aC:=QA Z;have aB:=QA L;have H:=QA h;have aE:=QA ae;have H6:=QA h6;have ar:=QA O;have aD:Hid (∀w',Fr b w w'→AE w (λx=>t6<x∧(Value.slice B ds.length C).ownBlock≠some x) w' (λx=>t6<x∧(Value.slice B ds.length C).ownBlock≠some x)) :=
  QA λw' G=>⟨G.size,λx hx2 hp=>⟨hp,G.block x hx2 (by omega)⟩⟩
 have V:Hid (∀w',Fr b w w'→w'.ownsRow (LB t6 bx) 100 9 (.slice B ds.length C) ds.length xs):=QA λw' G=>CI hx (λx hx2=>G.block x (O x hx2).2 (by have:=(O x hx2).1;omega))
 have hS:w.cell? ⟨t6,2,none⟩=some (.slice B ds.length C)∧w.cell? ⟨t2,0,none⟩=some (.pointer (some ⟨b,0,none⟩)) :=
  ⟨by simp[World.cell?,h6,CM],h.cellx hbx0⟩
 have az:=QA hS;have ah:Hid (∀w',Fr b w w'→w'.cell? ⟨t6,2,none⟩=some (.slice B ds.length C)∧w'.cell? ⟨t2,0,none⟩=some (.pointer (some ⟨b,0,none⟩))):=by
  refine QA λw' G=>⟨?_,h.cellf G hbx0⟩
  rw[G.cell (p:=⟨t6,2,none⟩) F (by show ¬t6=b;omega)];exact az.out.1
 clear h hx ae h6 O hval Z L ay;go_enter Tryz.func176,Tryz.ntmps176;go_wp2_with fail;refine AM (λw'=>w'.cell? ⟨t6,2,none⟩=some (.slice B ds.length C)∧w'.cell? ⟨t2,0,none⟩=some (.pointer (some ⟨b,0,none⟩))) 6 (by kernel_rfl) ?_;refine TK (i:=0) (v:=(.pointer (some ⟨t6,2,none⟩))) rfl (Or.inl ⟨by rfl,λw hSw=>by obtain⟨s0,s1⟩:=hSw;go_simp⟩) hS ?_;simp only[Act.put,QC,QH,QG];refine TK (i:=1) (v:=(.slice B ds.length C)) rfl (Or.inl ⟨by rfl,λw hSw=>by obtain⟨s0,s1⟩:=hSw;go_simp⟩) hS ?_;simp only[Act.put,QC,QH,QG];refine TK (i:=2) (v:=(.pointer (some ⟨b,0,none⟩))) rfl (Or.inl ⟨by rfl,λw hSw=>by obtain⟨s0,s1⟩:=hSw;go_simp⟩) hS ?_;simp only[Act.put,QC,QH,QG];clear hS;refine TO (i:=3) ?_;refine AB (by decide) (λK4 HK4=>?_);simp only[QE,QL,QF,QN];go_wp2_with fail;refine (ac.out w.drew (H.out.rd.to (QM _) rfl rfl)).mono ?_;rintro r w2 ⟨cs,rfl,hrd,hr2,hf2⟩;have G:Fr b w w2:=⟨hf2.os,hf2.tape,hf2.output,hf2.size,hf2.block⟩
 clear hf2;rw[← aC.out]at hr2;rw[← aB.out]at hrd;obtain⟨o,A,t,N,k,a,I,M,R,J,c1,S,c2,rfl⟩:=ap.out _ _ _ hrd;have af:=QA hrd;have HF:=QA G;have aF:=QA hr2;clear hrd hr2 G;go_wp2_with fail;refine HK4.out _ _ ⟨λ_=>ah.out _ HF.out,?_⟩;clear HK4;refine TO (i:=4) ?_;refine AB (by decide) (λK6 HK6=>?_);simp only[QE,QL,QF,QN];go_wp2_with fail;have K:Hid (Below w2.heap.size w2 (w2.alloc (.cells #[.string o,.string A,.bool N,.int .i64 k,.string t,.slice M J c1,.slice R S c2,.int .i64 a,.int .i64 I] 100))):=QA ((Below.refl _ _).alloc (QM _) _);have U:=QA (HF.out.trans (But.of_below (X:=λk=>k=b) K.out));refine HK6.out _ _ ⟨λ_=>ah.out _ U.out,?_⟩;clear HK6;have E:=QA ((H.out.step aF.out HF.out).below K.out);have HX:=QA (V.out _ U.out);have av:=QA (aE.out.to (aD.out _ U.out));have aj:Hid ((w2.alloc (.cells #[.string o,.string A,.bool N,.int .i64 k,.string t,.slice M J c1,.slice R S c2,.int .i64 a,.int .i64 I] 100)).heap[t6]?=some (.cells ((CM kd nm at_) (.slice B ds.length C)) 96 (0,0))):=QA (by rw[U.out.block t6 F (by omega)];exact H6.out);have HD:=QA (af.out.to (w':=w2.alloc (.cells #[.string o,.string A,.bool N,.int .i64 k,.string t,.slice M J c1,.slice R S c2,.int .i64 a,.int .i64 I] 100)) (Q:=λx=>t6<x∧(Value.slice B ds.length C).ownBlock≠some x) ⟨K.out.size,λx hx2 hp=>⟨⟨Nat.lt_of_lt_of_le F hp,λe=>by have h1:=(ar.out x e).2;have h2:w.heap.size≤x:=hp;omega⟩,K.out.block x hx2⟩⟩);have ab:Hid (∀j u,([.string o,.string A,.bool N,.int .i64 k,.string t,.slice M J c1,.slice R S c2,.int .i64 a,.int .i64 I]:List Value)[j]?=some u→(w2.alloc (.cells #[.string o,.string A,.bool N,.int .i64 k,.string t,.slice M J c1,.slice R S c2,.int .i64 a,.int .i64 I] 100)).cell? ((⟨w2.heap.size,0,none⟩:Addr).add j)=some u):=QA (Ad (fz:=(0,0)) (AC _ _));have ai:=QA (Reads.one af.out);have W:LB t6 bx≤(w2.alloc (.cells #[.string o,.string A,.bool N,.int .i64 k,.string t,.slice M J c1,.slice R S c2,.int .i64 a,.int .i64 I] 100)).heap.size:=E.out.low;refine TO (i:=5) ?_;refine AB (by decide) (λK7 HK7=>?_);simp only[QE,QL,QF,QN];go_wp2_with (first|(at_builtin;refine wpList_append_own_at _ rfl _ _ 92 rfl (LB t6 bx) 100 i0 _ 9 128 Tryz.underlying92 hi ao aw au rfl (by decide) (.slice B ds.length C) ds.length xs rfl HX.out ⟨w2.heap.size,0,none⟩ 1 1 [.string o,.string A,.bool N,.int .i64 k,.string t,.slice M J c1,.slice R S c2,.int .i64 a,.int .i64 I] rfl rfl ab.out ai.out (by unfold maxLen;omega) (by omega) W ?_;intro v' w8 hrow8 hg8 hnil8 hloc8;clear hnil8;obtain⟨g',c',rfl,aP,aR⟩:=A5 hrow8 (by omega);have ak:=QA hrow8;have Y:=QA hg8;have aq:=QA hloc8;clear hrow8 hg8 hloc8)|fail);have aa:=E.out.h6 HX.out Y.out aj.out;have y6:w8.cell? ⟨t6,2,none⟩=some (.slice B ds.length C):=by simp[World.cell?,aa,CM]
 have y7:w8.frozen? ⟨t6,2,none⟩=false:=by simp[World.frozen?,aa]
 have ad:w8.cell? ⟨t2,0,none⟩=some (.pointer (some ⟨b,0,none⟩)):=by
  have h1:=E.out.cb _ hbx0;have h2:=E.out.lx _ hbx0;simp only at h1 h2;exact AA (cs:=#[(.pointer (some ⟨b,0,none⟩))]) (T:=165) (fz:=(0,0)) (by rw[Y.out.block t2 (block_lt h1) (λe=>by have:=(HX.out.lt t2 e.symm).1;omega)];exact h1) 0 _ rfl
 refine HK7.out _ _ ⟨λ_=>⟨y6,ad⟩,?_⟩;clear HK7 ad;refine TA (i:=6) (v:=(.pointer (some ⟨t6,2,none⟩))) rfl (Or.inl ⟨by rfl,λw _=>by go_simp⟩) ?_;simp only[Act.put,QC,QH,QG];clear aa;refine TO (i:=7) ?_;refine AB (by decide) (λK9 HK9=>?_);simp only[QE,QL,QF,QN];go_wp2_with fail;refine HK9.out _ _ ⟨λh=>absurd h (by decide),?_⟩;clear HK9;refine AH (by kernel_rfl) ?_ _;go_wp2_with fail;go_end0;exact⟨rfl,E.out.end0 (jj:=2) HX.out av.out HD.out rfl Y.out aq.out aj.out ak.out rfl⟩
theorem Pa:(Tryz.prog.info? 96).map (λi=>(i.zero,i.size,i.bytes))=some (some (.agg #[.int .i64 0,.string ⟨#[]⟩,.slice none 0 0,.slice none 0 0,.slice none 0 0,.int .i64 0]),6,104):=by kernel_rfl
theorem PW:(Tryz.prog.info? 102).map (λi=>(i.zero,i.size,i.bytes))=some (some (.agg #[.string ⟨#[]⟩,.string ⟨#[]⟩,.slice none 0 0,.slice none 0 0,.int .i64 0]),5,88):=by kernel_rfl
section
variable {w : World} {P : Nat → Prop}
theorem Nr {x:Qr.Op} {cs:List Value} (h:Reads w P x.d cs):∃(a1 a2 a3:Option Addr) (c1 c2 c3:Nat),cs=[.int .i64 x.kind,.string ⟨x.name.toArray⟩,.slice a1 x.vars.length c1,.slice a2 x.dirs.length c2,.slice a3 x.sels.length c3,.int .i64 x.at_] ∧
  Reads w P (.seq 9 (x.vars.map Qr.Vd.d)) [.slice a1 x.vars.length c1]∧Reads w P (.seq 3 (x.dirs.map Qr.Dir.d)) [.slice a2 x.dirs.length c2]∧Reads w P (.seq 7 (x.sels.map Qr.Sel.d)) [.slice a3 x.sels.length c3]:=by
 unfold Qr.Op.d at h;obtain⟨Q,O,rfl,H,D⟩:=h.obj_inv.cons_inv;obtain⟨R,V,rfl,E,M⟩:=D.cons_inv;obtain⟨X,T,rfl,B,N⟩:=M.cons_inv;obtain⟨Y,S,rfl,A,L⟩:=N.cons_inv;obtain⟨W,U,rfl,o,F⟩:=L.cons_inv;obtain⟨x6,Z,rfl,J,K⟩:=F.cons_inv;obtain rfl:=H.int_inv;obtain rfl:=E.str_inv;obtain⟨b3,C,rfl,_⟩:=B.seq_inv;obtain⟨b4,I,rfl,_⟩:=A.seq_inv;obtain⟨b5,G,rfl,_⟩:=o.seq_inv;obtain rfl:=J.int_inv;obtain rfl:=K.nil_inv;simp only[QZ]at B A o ⊢;exact⟨b3,b4,b5,C,I,G,rfl,B,A,o⟩
theorem Nb {x:Qr.Fr} {cs:List Value} (h:Reads w P x.d cs):∃(a1 a2:Option Addr) (c1 c2:Nat),cs=[.string ⟨x.name.toArray⟩,.string ⟨x.on.toArray⟩,.slice a1 x.dirs.length c1,.slice a2 x.sels.length c2,.int .i64 x.at_] ∧
  Reads w P (.seq 3 (x.dirs.map Qr.Dir.d)) [.slice a1 x.dirs.length c1]∧Reads w P (.seq 7 (x.sels.map Qr.Sel.d)) [.slice a2 x.sels.length c2]:=by
 unfold Qr.Fr.d at h;obtain⟨M,L,rfl,F,C⟩:=h.obj_inv.cons_inv;obtain⟨N,S,rfl,D,J⟩:=C.cons_inv;obtain⟨U,Q,rfl,A,K⟩:=J.cons_inv;obtain⟨V,O,rfl,o,I⟩:=K.cons_inv;obtain⟨T,R,rfl,G,E⟩:=I.cons_inv;obtain rfl:=F.str_inv;obtain rfl:=D.str_inv;obtain⟨b3,B,rfl,_⟩:=A.seq_inv;obtain⟨b4,H,rfl,_⟩:=o.seq_inv;obtain rfl:=G.int_inv;obtain rfl:=E.nil_inv;simp only[QZ]at A o ⊢;exact⟨b3,b4,B,H,rfl,A,o⟩
end
def Pk (b g n kk:Nat):Prop:=∀(s:Rd.St) (w:World),AL w b g s→s.rest.length≤n→(s.err≠0∨s.rest.length≤kk)→0≤s.deep∧s.deep+kk≤800000 →
 Calls Tryz.prog 214 #[.pointer (some ⟨b,0,none⟩)] w (Got b g w (Qr.sel (n+1) (kk+1) s).2.d (Qr.sel (n+1) (kk+1) s).1)
def sbx (w0:World) (b:Nat):List Box:=[(w0.heap.size,.cells #[.pointer (some ⟨b,0,none⟩)] 165 (0,0))]
def SLI (w0:World) (b g n kk:Nat) (d1:Int) (s:Rd.St) (out:List Qr.Sel) (w:World):Prop :=
 LI w0 b g (w0.heap.size+1) (sbx w0 b) 94 BH 174 7 s (out.map Qr.Sel.d) w∧s.deep=d1∧s.rest.length≤n∧(s.err≠0∨s.rest.length≤kk)∧(s.err=0→out.length+s.rest.length≤1602)∧out.length≤1603
theorem KP (cap:Array Value) (w:World):Sem.run Tryz.prog (callFunc 213 cap) w=.ok (.enter 213 cap) w:=by kernel_rfl
theorem F0 (b g n kk:Nat) (hnb:n≤1600) (hS:Pk b g n kk) (s:Rd.St) (w:World) (h:AL w b g s) (hn:s.rest.length≤n) (hk:s.err≠0∨s.rest.length≤kk+1) (hd:0≤s.deep∧s.deep+kk+1≤800000) :
  Calls Tryz.prog 175 #[.pointer (some ⟨b,0,none⟩)] w (MK b g w 7 ((Qr.selsOf (Qr.sel (n+1) (kk+1)) s).2.map Qr.Sel.d) (Qr.selsOf (Qr.sel (n+1) (kk+1)) s).1):=by
 have Q:=h.lt;have H:=QA h;have HK:=QA hk;have HS:=QA hS;obtain⟨d0,d1⟩:=hd;clear h hk hS;have G:LI w b g (w.heap.size+1) (sbx w b) 94 BH 174 7 s [] ((w.alloc (.cells #[.pointer (some ⟨b,0,none⟩)] 165)).alloc (.cells #[.slice none 0 0] 94)):=by
  have U:Below w.heap.size w ((w.alloc (.cells #[.pointer (some ⟨b,0,none⟩)] 165)).alloc (.cells #[.slice none 0 0] 94)) :=
   ((Below.refl _ _).alloc (QM _) _).alloc (by simp) _
  refine⟨H.out.below U,λp hp=>?_,⟨.slice none 0 0,?_,Az.nil _ _ _ _ _⟩,But.of_below U,Q.1,Q.2,λp hp=>?_,by omega⟩
  ·unfold sbx at hp;rw[List.mem_singleton.1 hp];show ((w.alloc _).alloc _).heap[w.heap.size]?=_;rw[Lib.alloc_old _ _ _ (by simp)];exact AC _ _
  ·have:=AC (w.alloc (.cells #[.pointer (some ⟨b,0,none⟩)] 165)) (.cells #[.slice none 0 0] 94);rw[show (w.alloc (.cells #[.pointer (some ⟨b,0,none⟩)] 165)).heap.size=w.heap.size+1 by simp]at this;exact this
  ·unfold sbx at hp;rw[List.mem_singleton.1 hp];simp only;omega
 have W:=QA G;have K:=G.cellx (t:=w.heap.size) (v:=.pointer (some ⟨b,0,none⟩)) (T:=165) (by simp[sbx]);clear G;go_enter Tryz.func175,Tryz.ntmps175;go_wp2_with fail;refine (Cx b g s Rd.lbrc _ W.out.rd (by omega)).mono ?_;rintro r w1 ⟨rfl,h1,f1⟩;have I:=QA (W.out.step h1 f1);obtain⟨o,A⟩:∃x,x=Rd.down Rd.lbrc s:=⟨_,rfl⟩
 rw[← A]at I;have ai:=QA A;have B:Rd.Ok s o:=by rw[A];exact Rd.ok_down _ _
 have O:o.rest.length≤n:=QR B.len hn;have D:o.deep=s.deep+1:=by rw[A];exact Rd.down_deep _ _
 have X:Hid (o.err≠0∨o.rest.length≤kk):=by
  refine QA ?_;rcases HK.out with hx|hx
  ·left;rw[B.err hx];exact hx
  ·rcases Qr.down_less Rd.lbrc s with hy|hy
   ·left;rw[A];exact hy
   ·right;rw[A];omega
 have S:=QA D;have M:Hid (∀(s2:Rd.St) (out:List Qr.Sel) (w1:World),LI w b g (w.heap.size+1) (sbx w b) 94 BH 174 7 s2 (out.map Qr.Sel.d) w1→s2.rest.length≤n→(s2.err≠0∨s2.rest.length≤kk)→s2.deep=s.deep+1→out.length≤1000000 →
   Calls Tryz.prog 213 #[.pointer (some ⟨w.heap.size+1,0,none⟩),.pointer (some ⟨w.heap.size,0,none⟩)] w1 λr w'=>r=.returned (.tuple #[]) ∧
    LI w b g (w.heap.size+1) (sbx w b) 94 BH 174 7 (Qr.sel (n+1) (kk+1) s2).1 ((out++[(Qr.sel (n+1) (kk+1) s2).2]).map Qr.Sel.d) w') :=
  QA λs2 out w1 hl hr hc hdp ho=>by
   rw[List.map_append];exact LX w b g (w.heap.size+1) (sbx w b) w.heap.size (n+1) (kk+1) (by simp[sbx]) s2 (out.map Qr.Sel.d) w1
    (λw2 hr2=>HS.out s2 w2 hr2 hr hc (by rw[hdp];omega)) hl (by rw[QZ];exact ho)
 have R:=QA (Qr.sel_deep (n+1) (kk+1));have C:=QA (Qr.ok_sel (n+1) (kk+1));have P:=QA (Qr.sel_goes (n+1) kk);have V:=QA (show Qr.selsOf (Qr.sel (n+1) (kk+1)) s=(Rd.up Rd.rbrc (Rd.loop1 Rd.rbrc (Qr.sel (n+1) (kk+1)) (o.rest.length+1) o).1,(Rd.loop1 Rd.rbrc (Qr.sel (n+1) (kk+1)) (o.rest.length+1) o).2) by rw[A];rfl);clear h1 f1 K A B D;have K:w1.cell? ⟨w.heap.size,0,none⟩=some (.pointer (some ⟨b,0,none⟩)):=I.out.cellx (T:=165) (by simp[sbx]);go_wp2_with fail;refine (Cv Rd.rbrc (Qr.sel (n+1) (kk+1)) (SLI w b g n kk (s.deep+1)) b g _ _ (KP _) (λs out w' h=>h.1.rd) (λs out w1 w2 h hb=>⟨h.1.below hb,h.2⟩) (λs2 out w2 h he=>?_) (λs2 out w2 h he _=>P.out s2 he) (o.rest.length+1) o w1 ?_ (.inr (Nat.lt_succ_of_le (C.out o).len))).mono ?_
 ·refine (M.out s2 out w2 h.1 h.2.2.1 h.2.2.2.1 h.2.1 (by have:=h.2.2.2.2.2;omega)).mono ?_;rintro r w3 ⟨hre,hli⟩;have E:=(C.out s2).len;have Y:=P.out s2 he;have h5:=h.2.2.2.2.1 he;refine⟨hre,hli,by rw[R.out];exact h.2.1,QR E h.2.2.1,?_,λhe2=>?_,by rw[List.length_append];simp;omega⟩
  ·rcases h.2.2.2.1 with hx|hx
   ·exact absurd he hx
   ·right;omega
  ·rcases Y with hx|hx
   ·exact absurd he2 hx
   ·rw[List.length_append];simp;omega
 ·refine (M.out o [] w1 I.out O X.out S.out (by simp)).mono ?_;rintro r w3 ⟨hre,hli⟩;have E:=(C.out o).len;refine⟨hre,hli,by rw[R.out];exact S.out,by omega,?_,λ_=>by simp;omega,by simp⟩;rcases X.out with hx|hx
  ·left;rw[(C.out o).err hx];exact hx
  ·right;omega
 rintro r w5 ⟨rfl,hL⟩;obtain⟨L,J⟩:∃x,x=Rd.loop1 Rd.rbrc (Qr.sel (n+1) (kk+1)) (o.rest.length+1) o:=⟨_,rfl⟩
 rw[← J]at hL;have Z:=QA J;have HL:=QA hL;have ac:=hL.2.1;clear K J hL;have K:w5.cell? ⟨w.heap.size,0,none⟩=some (.pointer (some ⟨b,0,none⟩)):=HL.out.1.cellx (T:=165) (by simp[sbx]);have N:-1000000≤L.1.deep∧L.1.deep≤1000000:=by omega
 have aa:=QA N;clear ac N;go_wp2_with fail;refine (Ec b g L.1 Rd.rbrc w5 HL.out.1.rd aa.out).mono ?_;rintro r w6 ⟨rfl,h6,f6⟩;have F:=QA (HL.out.1.step h6 f6);obtain⟨v,hv,Y⟩:=F.out.ex;obtain⟨va,vc,rfl⟩:=Y.form;have k3:=AA hv 0 (.slice va (L.2.map Qr.Sel.d).length vc) rfl;have HG:=QA Y;clear hv Y h6 f6 K;go_wp2_with fail;go_ret;rw[V.out,← Z.out];refine⟨va,vc,by simp,?_,F.out.rd,F.out.fr⟩;exact HG.out.reads.to (AE.sub w6 (λx _ hp=>by
  rcases hp with hp|hp
  ·have:=hp.1;show w.heap.size≤x;omega
  ·have:=QR (Bc _ _) (HG.out.lt x hp).1;show w.heap.size≤x;omega))
structure FJ (w0:World) (b g t6 lo:Nat) (bx:List Box) (T6:TypeId) (ds:List D) (cs:List Value) (s:Rd.St) (w:World):Prop where
 rd:AL w b g s
 cb:∀p∈bx,w.heap[p.1]?=some p.2
 b6:w.heap[t6]?=some (.cells cs.toArray T6 (0,0))
 fr:Fr b w0 w
 lb:b<w0.heap.size
 lg:g<w0.heap.size
 lx:∀p∈bx,w0.heap.size≤p.1∧p.1<lo∧p.1≠t6
 l6:w0.heap.size≤t6∧t6<lo
 hi:lo≤w.heap.size
 rr:Ac w (λx=>lo≤x) ds cs
section
variable {w0 w w' : World} {b g t6 lo : Nat} {bx : List Box} {T6 : TypeId} {ds : List D} {cs : List Value} {s s' : Rd.St}
theorem FJ.step (h:FJ w0 b g t6 lo bx T6 ds cs s w) (hr:AL w' b g s') (hf:Fr b w w'):FJ w0 b g t6 lo bx T6 ds cs s' w':=by
 have lb:=h.lb;have l6:=h.l6;refine⟨hr,λp hp=>?_,?_,h.fr.trans hf,lb,h.lg,h.lx,l6,QR h.hi hf.size,h.rr.to ⟨hf.size,λx hx hp=>⟨hp,hf.block x hx (by have B:lo≤x:=hp;omega)⟩⟩⟩
 ·have o:=h.cb p hp;have A:=h.lx p hp;rw[hf.block p.1 (block_lt o) (by omega)];exact o
 ·rw[hf.block t6 (block_lt h.b6) (by omega)];exact h.b6
theorem FJ.below (h:FJ w0 b g t6 lo bx T6 ds cs s w) (hb:Below w.heap.size w w'):FJ w0 b g t6 lo bx T6 ds cs s w':=h.step (h.rd.below hb) (But.of_below hb)
theorem FJ.put (h:FJ w0 b g t6 lo bx T6 ds cs s w) (j:Nat) {d:D} {v:Value} (hv:Reads w (λx=>lo≤x) d [v]) (ho:ds.all D.one=true):FJ w0 b g t6 lo bx T6 (ds.set j d) (cs.set j v) s (w.setCell ⟨t6,j,none⟩ v):=by
 have lb:=h.lb;have lg:=h.lg;have l6:=h.l6;refine⟨h.rd.set_ne (by omega) (by omega) _ _,λp hp=>?_,?_,h.fr.setCell (.inr l6.1) v,lb,lg,h.lx,l6,by rw[AU];exact h.hi,(h.rr.set hv j ho).to ⟨by rw[AU];exact QM _,λx hx hp=>⟨hp,AK (by have A:lo≤x:=hp;omega)⟩⟩⟩
 ·have o:=h.lx p hp;rw[AK (by omega)];exact h.cb p hp
 ·have:=Af (k:=j) (v:=v) h.b6
  rwa [QC]at this
theorem FJ.data (h:FJ w0 b g t6 lo bx T6 ds cs s w) {d:D} {us:List Value} (hd:Reads w' (λx=>w.heap.size≤x) d us):Reads w' (λx=>lo≤x) d us :=
 hd.to (AE.sub w' (λx _ hp=>QR h.hi hp))
theorem FJ.fin {r:Nat} {o:Obj} (h:FJ w0 b g t6 lo bx T6 ds cs s w) (hr:(r,o)∈bx) :
  Reads (putCells w r 0 cs) (λx=>w0.heap.size≤x) (.obj ds) cs∧AL (putCells w r 0 cs) b g s∧Fr b w0 (putCells w r 0 cs):=by
 have lb:=h.lb;have lg:=h.lg;have l6:=h.l6;have D:=h.lx _ hr;simp only at D;have B:∀x,x≠r→(putCells w r 0 cs).heap[x]?=w.heap[x]?:=λx h1=>AX _ _ h1 _ _ _
 have A:=AV r cs 0 w;have C:=Ao r cs 0 w;refine⟨(Reads.obj h.rr).to ⟨by rw[A];exact QM _,λx hx hp=>⟨by have E:lo≤x:=hp;show w0.heap.size≤x;omega,B x (by have E:lo≤x:=hp;omega)⟩⟩,h.rd.to (by rw[A];exact QM _) (B b (by omega)) (B g (by omega)),⟨C.1.trans h.fr.os,C.2.1.trans h.fr.tape,C.2.2.trans h.fr.output,by rw[A];exact h.fr.size,λx hx hxb=>by
  rw[B x (by omega)];exact h.fr.block x hx hxb⟩⟩
end
end Go.Proofs.YtefjgpkpplkkgaaGreatDoor
