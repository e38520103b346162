/-
  The reader of documents: what is done for each selection, each variable (closures), walked. Documents as data: what their cells hold. The reader of documents: a selection set, walked, a selection's walk being given. A block that is filled field by field, its data beside it, other new blocks about it.
-/
import Derived.Test.YtedeapbonbbacaaGreatDoorZr17
open Go.Lib renaming hid → QA
open List renaming setIfInBounds_toArray → QC, drop_succ_cons → QE, take_succ_cons → QF, set_cons_succ → QG, set_cons_zero → QH, drop_zero → QL, take_zero → QN, length_map → QV
open Nat renaming le_refl → QM, le_trans → QQ, add_sub_cancel_left → QU, reduceAdd → QW
namespace Go.Proofs.YtedeapbonbbacaaGreatDoor
set_option maxRecDepth 100000
set_option maxHeartbeats 4000000
set_option linter.unusedSimpArgs false
set_option linter.unusedVariables false
open Go Go.RowKit
theorem Dw:(Tryz.prog.info? 34).map (λi=>(i.zero,i.size,i.bytes))=some (some (.agg #[.int .i64 0,.string ⟨#[]⟩,.string ⟨#[]⟩,.slice none 0 0,.slice none 0 0,.slice none 0 0,.int .i64 0]),7,120):=by kernel_rfl
theorem Kp:(Tryz.prog.info? 107).map (λi=>(i.zero,i.size,i.bytes))=some (some (.agg #[.string ⟨#[]⟩,.string ⟨#[]⟩,.bool false,.int .i64 0,.string ⟨#[]⟩,.slice none 0 0,.slice none 0 0,.int .i64 0,.int .i64 0]),9,128):=by kernel_rfl
def Bt (kd:Nat) (nm:ByteArray) (a:Nat) (v:Value):Array Value:=#[.int .i64 kd,.string nm,v,.slice none 0 0,.slice none 0 0,.int .i64 a]
theorem Ix {w:World} {P:Nat→Prop} {x:Qr.Sel} {cs:List Value} (h:Reads w P x.d cs):∃(a1 a2 a3:Option Addr) (c1 c2 c3:Nat),
  cs=[.int .i64 x.kind,.string ⟨x.alias.toArray⟩,.string ⟨x.name.toArray⟩,.slice a1 x.args.length c1,.slice a2 x.dirs.length c2,.slice a3 x.sels.length c3,.int .i64 x.at_] ∧
  Reads w P (.seq 7 (x.args.map Rd.A.d)) [.slice a1 x.args.length c1]∧Reads w P (.seq 3 (x.dirs.map Qr.Dir.d)) [.slice a2 x.dirs.length c2]∧Reads w P (.seq 7 (x.sels.map Qr.Sel.d)) [.slice a3 x.sels.length c3]:=by
 cases x with
 | mk k al nm ar ds ss a =>
  unfold Qr.Sel.d at h;rw[Qr.Sel.dl_map]at h;obtain⟨x1,r1,rfl,H,Q⟩:=h.obj_inv.cons_inv;obtain⟨x2,Y,rfl,O,R⟩:=Q.cons_inv;obtain⟨Z,V,rfl,G,L⟩:=R.cons_inv;obtain⟨x4,W,rfl,C,J⟩:=L.cons_inv;obtain⟨X,T,rfl,o,N⟩:=J.cons_inv;obtain⟨S,r6,rfl,B,E⟩:=N.cons_inv;obtain⟨x7,U,rfl,D,F⟩:=E.cons_inv;obtain rfl:=H.int_inv;obtain rfl:=O.str_inv;obtain rfl:=G.str_inv;obtain⟨b4,K,rfl,_⟩:=C.seq_inv;obtain⟨b5,M,rfl,_⟩:=o.seq_inv;obtain⟨b6,I,rfl,_⟩:=B.seq_inv;obtain rfl:=D.int_inv;obtain rfl:=F.nil_inv;simp only[QV]at C o B ⊢;exact⟨b4,b5,b6,K,M,I,rfl,C,o,B⟩
theorem Eh {w:World} {P:Nat→Prop} {x:Qr.Sel} {cs:List Value} (h:Reads w P x.d cs):∃(k a:Int) (al nm:ByteArray) (a1 a2 a3:Option Addr) (n1 c1 n2 c2 n3 c3:Nat),cs=[.int .i64 k,.string al,.string nm,.slice a1 n1 c1,.slice a2 n2 c2,.slice a3 n3 c3,.int .i64 a]:=by
 obtain⟨a1,a2,a3,c1,c2,c3,rfl,_⟩:=Ix h;exact⟨_,_,_,_,_,_,_,_,_,_,_,_,_,rfl⟩
theorem Jc {w:World} {P:Nat→Prop} {x:Qr.Vd} {cs:List Value} (h:Reads w P x.d cs):∃(nm ty t:ByteArray) (hb:Bool) (k a b':Int) (a1 a2:Option Addr) (n1 c1 n2 c2:Nat),cs=[.string nm,.string ty,.bool hb,.int .i64 k,.string t,.slice a1 n1 c1,.slice a2 n2 c2,.int .i64 a,.int .i64 b'] :=
 JS (x:=⟨x.name,x.type,x.has,x.dflt,x.at_⟩) h
theorem Im (w0:World) (b g t6:Nat) (bx:List Box) (t2 n kk:Nat) (hbx0:(t2,Obj.cells #[(.pointer (some ⟨b,0,none⟩))] 62 (0,0))∈bx) (s:Rd.St) (ds:List D) (w:World)
  (hval:∀w,AL w b g s→Calls Tryz.prog 65 #[(.pointer (some ⟨b,0,none⟩))] w (Got b g w (Qr.sel n kk s).2.d (Qr.sel n kk s).1))
  (h:LI w0 b g t6 bx 32 BA 34 7 s ds w) (hl:ds.length≤1000000) :
  Calls Tryz.prog 64 #[.pointer (some ⟨t6,0,none⟩),.pointer (some ⟨t2,0,none⟩)] w λr w'=>r=.returned (.tuple #[])∧LI w0 b g t6 bx 32 BA 34 7 (Qr.sel n kk s).1 (ds++[(Qr.sel n kk s).2.d]) w':=by
 obtain⟨i0,hi,aA,am,au⟩:=info_parts Dw;obtain⟨v,h6,hG⟩:=h.ex;obtain⟨G,F,hv⟩:=hG.form;subst hv;obtain⟨⟨xs,hx,az⟩,aD⟩:=hG;have ad:∀x,(Value.slice G ds.length F).ownBlock=some x→LB t6 bx≤x∧x<w.heap.size:=hx.lt;have aT:=BN t6 bx;have O:=block_lt h6;have lb:=h.lb;have l6:=h.l6;have a7:(0:Int)≤(ds.length:Int):=Int.natCast_nonneg _;have a6:(ds.length:Int)<(ds.length:Int)+1:=by omega
 obtain⟨s',ax⟩:∃x,x=(Qr.sel n kk s).1:=⟨_,rfl⟩
 obtain⟨d,af⟩:∃x,x=(Qr.sel n kk s).2.d:=⟨_,rfl⟩
 obtain⟨zs,ak⟩:∃x,x=[Value.int .i64 0,.string ⟨#[]⟩,.string ⟨#[]⟩,.slice none 0 0,.slice none 0 0,.slice none 0 0,.int .i64 0]:=⟨_,rfl⟩
 have aq:Hid (∀(w:World) (P:Nat→Prop) (cs:List Value),Reads w P d cs→∃(k' a':Int) (al nm:ByteArray) (a1 a2 a3:Option Addr) (n1 c1 n2 c2 n3 c3:Nat),cs=[.int .i64 k',.string al,.string nm,.slice a1 n1 c1,.slice a2 n2 c2,.slice a3 n3 c3,.int .i64 a']) :=
  QA λw P cs hh=>Eh (by rw[← af];exact hh)
 rw[← ax,← af]at hval ⊢;have H:=QA h;have an:=QA az;have H6:=QA h6;have aw:=QA ad;have ae:=QA hval;have B:=QA ak;have R:Hid (zs.length=1*7):=by rw[ak];exact QA rfl
 have ar:Hid (∀w',Fr b w w'→AD w (λx=>t6<x∧(Value.slice G ds.length F).ownBlock≠some x) w' (λx=>t6<x∧(Value.slice G ds.length F).ownBlock≠some x)) :=
  QA λw' hf=>⟨hf.size,λx hx2 hp=>⟨hp,hf.block x hx2 (by omega)⟩⟩
 have Z:Hid (∀w',Fr b w w'→w'.ownsRow (LB t6 bx) 34 7 (.slice G ds.length F) ds.length xs):=QA λw' hf=>BG hx (λx hx2=>hf.block x (ad x hx2).2 (by have:=(ad x hx2).1;omega))
 have hS:w.cell? ⟨t6,0,none⟩=some (.slice G ds.length F)∧w.cell? ⟨t2,0,none⟩=some (.pointer (some ⟨b,0,none⟩)) :=
  ⟨by simp[World.cell?,h6,BA],h.cellx hbx0⟩
 have aM:=QA hS;have ac:Hid (∀w',Fr b w w'→w'.cell? ⟨t6,0,none⟩=some (.slice G ds.length F)∧w'.cell? ⟨t2,0,none⟩=some (.pointer (some ⟨b,0,none⟩))):=by
  refine QA λw' hf=>⟨?_,h.cellf hf hbx0⟩
  rw[hf.cell (p:=⟨t6,0,none⟩) O (by show ¬t6=b;omega)];exact aM.out.1
 clear h hx az h6 ad hval ax af ak aD;go_enter Tryz.func64,Tryz.ntmps64;go_wp2_with fail;refine AH (λw'=>w'.cell? ⟨t6,0,none⟩=some (.slice G ds.length F)∧w'.cell? ⟨t2,0,none⟩=some (.pointer (some ⟨b,0,none⟩))) 5 (by kernel_rfl) ?_;refine TK (i:=0) (v:=(.slice G ds.length F)) rfl (Or.inl ⟨by rfl,λw hSw=>by obtain⟨s0,s1⟩:=hSw;go_simp⟩) hS ?_;simp only[Act.put,QC,QH,QG];refine TK (i:=1) (v:=(.pointer (some ⟨b,0,none⟩))) rfl (Or.inl ⟨by rfl,λw hSw=>by obtain⟨s0,s1⟩:=hSw;go_simp⟩) hS ?_;simp only[Act.put,QC,QH,QG];refine TK (i:=3) (v:=(.int .i64 ds.length)) rfl (Or.inl ⟨by rfl,λw hSw=>by obtain⟨s0,s1⟩:=hSw;go_simp⟩) hS ?_;simp only[Act.put,QC,QH,QG];clear hS;refine AR (i:=2) (k:=4) (by kernel_rfl) ?_ ?_
 ·refine AB (by decide) (λK4 HK4=>?_);simp only[QE,QL,QF,QN];go_wp2_with fail;refine (ae.out w.drew (H.out.rd.to (QM _) rfl rfl)).mono ?_;rintro r w2 ⟨cs,rfl,hrd,hr2,hf2⟩;have hf:Fr b w w2:=⟨hf2.os,hf2.tape,hf2.output,hf2.size,hf2.block⟩
  obtain⟨k',a',al,nm,a1,a2,a3,n1,c1,n2,c2,n3,c3,rfl⟩:=aq.out _ _ _ hrd;have ai:=QA hrd;have HF:=QA hf;have aj:=QA hr2;clear hrd hr2 hf2 hf;go_wp2_with fail;refine HK4.out _ _ ⟨λ_=>ac.out _ HF.out,?_⟩;clear HK4;refine TO (i:=4) ?_;refine AB (by decide) (λK6 HK6=>?_);simp only[QE,QL,QF,QN];go_wp2_with fail;have I:Hid (Below w2.heap.size w2 (w2.alloc (.cells #[.int .i64 0,.string ⟨#[]⟩,.string ⟨#[]⟩,.slice none 0 0,.slice none 0 0,.slice none 0 0,.int .i64 0] 34))):=QA ((Below.refl _ _).alloc (QM _) _);have N:=QA (HF.out.trans (But.of_below (X:=λk=>k=b) I.out));refine HK6.out _ _ ⟨λ_=>ac.out _ N.out,?_⟩;clear HK6;have E:=QA ((H.out.step aj.out HF.out).below I.out);have S:=QA (Z.out _ N.out);have T:=QA (an.out.to (ar.out _ N.out));have K:Hid ((w2.alloc (.cells #[.int .i64 0,.string ⟨#[]⟩,.string ⟨#[]⟩,.slice none 0 0,.slice none 0 0,.slice none 0 0,.int .i64 0] 34)).heap[t6]?=some (.cells (BA (.slice G ds.length F)) 32 (0,0))):=QA (by rw[N.out.block t6 O (by omega)];exact H6.out);have HD:=QA (ai.out.to (w':=w2.alloc (.cells #[.int .i64 0,.string ⟨#[]⟩,.string ⟨#[]⟩,.slice none 0 0,.slice none 0 0,.slice none 0 0,.int .i64 0] 34)) (Q:=λx=>t6<x∧(Value.slice G ds.length F).ownBlock≠some x) ⟨I.out.size,λx hx2 hp=>⟨⟨Nat.lt_of_lt_of_le O hp,λe=>by have h1:=(aw.out x e).2;have h2:w.heap.size≤x:=hp;omega⟩,I.out.block x hx2⟩⟩);have W:Hid (∀j u,zs[j]?=some u→(w2.alloc (.cells #[.int .i64 0,.string ⟨#[]⟩,.string ⟨#[]⟩,.slice none 0 0,.slice none 0 0,.slice none 0 0,.int .i64 0] 34)).cell? ((⟨w2.heap.size,0,none⟩:Addr).add j)=some u):=QA (AU (fz:=(0,0)) (by rw[B.out];exact AC _ _));have M:LB t6 bx≤(w2.alloc (.cells #[.int .i64 0,.string ⟨#[]⟩,.string ⟨#[]⟩,.slice none 0 0,.slice none 0 0,.slice none 0 0,.int .i64 0] 34)).heap.size:=E.out.low;have V:Hid (∀u∈zs,u.oneCell'=true):=QA (by rw[B.out];intro u hu;simp at hu;rcases hu with rfl|rfl|rfl|rfl|rfl|rfl|rfl<;>rfl);refine TO (i:=5) ?_;refine AB (by decide) (λK7 HK7=>?_);simp only[QE,QL,QF,QN];go_wp2_with (first|(at_builtin;refine wpList_append_own_at _ rfl _ _ 32 rfl (LB t6 bx) 34 i0 _ 7 120 Tryz.underlying32 hi aA am au rfl (by decide) (.slice G ds.length F) ds.length xs rfl S.out ⟨w2.heap.size,0,none⟩ 1 1 zs rfl R.out W.out V.out (by unfold maxLen;omega) (by omega) M ?_;intro v' w8 hrow8 hg8 hnil8 hloc8;clear hnil8;obtain⟨g',c',rfl,aN,aJ⟩:=Au hrow8 (by omega);have o:=QA hrow8;have L:=QA hg8;have Y:=QA hloc8;clear hrow8 hg8 hloc8)|fail);refine HK7.out _ _ ⟨λh=>absurd h (by decide),?_⟩;clear HK7;refine TA (i:=6) (v:=(.pointer (some ⟨g',(ds.length*7),none⟩))) rfl (Or.inl ⟨by rfl,λw _=>by go_simp⟩) ?_;simp only[Act.put,QC,QH,QG];have J:=E.out.h6 S.out L.out K.out;have y6:w8.cell? ⟨t6,0,none⟩=some (.slice G ds.length F):=by simp[World.cell?,J,BA]
  have y7:w8.frozen? ⟨t6,0,none⟩=false:=by simp[World.frozen?,J]
  have A:xs.length=ds.length*7:=S.out.1;have q0:=AG o.out (ds.length*7) (.int .i64 0) (by rw[← A,List.getElem?_append_right (QM _),Nat.sub_self,B.out];rfl);have q1:=AG o.out (ds.length*7+1) (.string ⟨#[]⟩) (by rw[← A,List.getElem?_append_right (by omega),QU,B.out];rfl);have q2:=AG o.out (ds.length*7+2) (.string ⟨#[]⟩) (by rw[← A,List.getElem?_append_right (by omega),QU,B.out];rfl);have q3:=AG o.out (ds.length*7+3) (.slice none 0 0) (by rw[← A,List.getElem?_append_right (by omega),QU,B.out];rfl);have q4:=AG o.out (ds.length*7+4) (.slice none 0 0) (by rw[← A,List.getElem?_append_right (by omega),QU,B.out];rfl);have q5:=AG o.out (ds.length*7+5) (.slice none 0 0) (by rw[← A,List.getElem?_append_right (by omega),QU,B.out];rfl);have q6:=AG o.out (ds.length*7+6) (.int .i64 0) (by rw[← A,List.getElem?_append_right (by omega),QU,B.out];rfl);have p0:=World.ownsRow.frozenAt o.out (ds.length*7);have p1:=World.ownsRow.frozenAt o.out (ds.length*7+1);have p2:=World.ownsRow.frozenAt o.out (ds.length*7+2);have p3:=World.ownsRow.frozenAt o.out (ds.length*7+3);have p4:=World.ownsRow.frozenAt o.out (ds.length*7+4);have p5:=World.ownsRow.frozenAt o.out (ds.length*7+5);have p6:=World.ownsRow.frozenAt o.out (ds.length*7+6);have n1:¬g'=t6:=by omega
  have n2:¬t6=g':=by omega
  have U:=QA A.symm;clear J A;refine AR (i:=7) (k:=8) (by kernel_rfl) ?_ ?_
  ·refine AB (by decide) (λK9 HK9=>?_);simp only[QE,QL,QF,QN];go_wp2_with fail;refine HK9.out _ _ ⟨λh=>absurd h (by decide),?_⟩;clear HK9;refine TO (i:=8) ?_;refine AB (by decide) (λKa HKa=>?_);simp only[QE,QL,QF,QN];go_wp2_with fail;refine HKa.out _ _ ⟨λh=>absurd h (by decide),?_⟩;clear HKa;refine AF (by kernel_rfl) ?_ _;go_wp2_with fail;go_end0;have C:=E.out.end1 (jj:=0) S.out T.out HD.out rfl L.out Y.out K.out o.out R.out U.out rfl;simp only[putCells,Nat.add_assoc,QW]at C;exact⟨rfl,C⟩
  ·refine AB (by decide) (λK9 HK9=>?_);simp only[QE,QL,QF,QN];go_wp2_with fail;refine HK9.out _ _ ⟨λh=>absurd h (by decide),?_⟩;clear HK9;refine TO (i:=7) ?_;refine AB (by decide) (λKa HKa=>?_);simp only[QE,QL,QF,QN];go_wp2_with fail;refine HKa.out _ _ ⟨λh=>absurd h (by decide),?_⟩;clear HKa;refine AF (by kernel_rfl) ?_ _;go_wp2_with fail;go_end0;have C:=E.out.end2 (jj:=0) S.out T.out HD.out rfl L.out Y.out K.out o.out R.out U.out rfl;simp only[putCells,Nat.add_assoc,QW]at C;exact⟨rfl,C⟩
 ·refine AB (by decide) (λK6 HK6=>?_);simp only[QE,QL,QF,QN];go_wp2_with fail;have I:Hid (Below w.heap.size w ((w.alloc (.cells #[.int .i64 0,.string ⟨#[]⟩,.string ⟨#[]⟩,.slice none 0 0,.slice none 0 0,.slice none 0 0,.int .i64 0] 34)).drew)):=QA (Below.drew ((Below.refl _ _).alloc (QM _) _));have N:=QA (But.of_below (X:=λk=>k=b) I.out);refine HK6.out _ _ ⟨λ_=>ac.out _ N.out,?_⟩;clear HK6;refine TO (i:=2) ?_;refine AB (by decide) (λK4 HK4=>?_);simp only[QE,QL,QF,QN];go_wp2_with fail;refine (ae.out _ (H.out.rd.below I.out)).mono ?_;rintro r w2 ⟨cs,rfl,hrd,hr2,hf2⟩;obtain⟨k',a',al,nm,a1,a2,a3,n1,c1,n2,c2,n3,c3,rfl⟩:=aq.out _ _ _ hrd;have HF:=QA (N.out.trans hf2);have aK:Hid (w2.heap[w.heap.size]?=some (.cells #[.int .i64 0,.string ⟨#[]⟩,.string ⟨#[]⟩,.slice none 0 0,.slice none 0 0,.slice none 0 0,.int .i64 0] 34 (0,0))):=by
   rw[hf2.block w.heap.size (by show w.heap.size<(w.alloc _).heap.size;simp) (by omega)];exact QA (AC _ _)
  have ai:=QA hrd;have aj:=QA hr2;clear hrd hr2 hf2;go_wp2_with fail;refine HK4.out _ _ ⟨λ_=>ac.out _ HF.out,?_⟩;clear HK4;have E:=QA (H.out.step aj.out HF.out);have S:=QA (Z.out _ HF.out);have T:=QA (an.out.to (ar.out _ HF.out));have K:Hid (w2.heap[t6]?=some (.cells (BA (.slice G ds.length F)) 32 (0,0))):=QA (by rw[HF.out.block t6 O (by omega)];exact H6.out);have HD:=QA (ai.out.to (w':=w2) (Q:=λx=>t6<x∧(Value.slice G ds.length F).ownBlock≠some x) (AD.sub w2 (λx hx2 hp=>by
   have h2:(w.alloc (.cells #[.int .i64 0,.string ⟨#[]⟩,.string ⟨#[]⟩,.slice none 0 0,.slice none 0 0,.slice none 0 0,.int .i64 0] 34)).heap.size≤x:=hp;simp at h2;exact⟨by omega,λe=>by have h1:=(aw.out x e).2;omega⟩)))
  have W:Hid (∀j u,zs[j]?=some u→w2.cell? ((⟨w.heap.size,0,none⟩:Addr).add j)=some u):=QA (AU (fz:=(0,0)) (by rw[B.out];exact aK.out));have M:LB t6 bx≤(w2).heap.size:=E.out.low;have V:Hid (∀u∈zs,u.oneCell'=true):=QA (by rw[B.out];intro u hu;simp at hu;rcases hu with rfl|rfl|rfl|rfl|rfl|rfl|rfl<;>rfl);refine TO (i:=5) ?_;refine AB (by decide) (λK7 HK7=>?_);simp only[QE,QL,QF,QN];go_wp2_with (first|(at_builtin;refine wpList_append_own_at _ rfl _ _ 32 rfl (LB t6 bx) 34 i0 _ 7 120 Tryz.underlying32 hi aA am au rfl (by decide) (.slice G ds.length F) ds.length xs rfl S.out ⟨w.heap.size,0,none⟩ 1 1 zs rfl R.out W.out V.out (by unfold maxLen;omega) (by omega) M ?_;intro v' w8 hrow8 hg8 hnil8 hloc8;clear hnil8;obtain⟨g',c',rfl,aN,aJ⟩:=Au hrow8 (by omega);have o:=QA hrow8;have L:=QA hg8;have Y:=QA hloc8;clear hrow8 hg8 hloc8)|fail);refine HK7.out _ _ ⟨λh=>absurd h (by decide),?_⟩;clear HK7;refine TA (i:=6) (v:=(.pointer (some ⟨g',(ds.length*7),none⟩))) rfl (Or.inl ⟨by rfl,λw _=>by go_simp⟩) ?_;simp only[Act.put,QC,QH,QG];have J:=E.out.h6 S.out L.out K.out;have y6:w8.cell? ⟨t6,0,none⟩=some (.slice G ds.length F):=by simp[World.cell?,J,BA]
  have y7:w8.frozen? ⟨t6,0,none⟩=false:=by simp[World.frozen?,J]
  have A:xs.length=ds.length*7:=S.out.1;have q0:=AG o.out (ds.length*7) (.int .i64 0) (by rw[← A,List.getElem?_append_right (QM _),Nat.sub_self,B.out];rfl);have q1:=AG o.out (ds.length*7+1) (.string ⟨#[]⟩) (by rw[← A,List.getElem?_append_right (by omega),QU,B.out];rfl);have q2:=AG o.out (ds.length*7+2) (.string ⟨#[]⟩) (by rw[← A,List.getElem?_append_right (by omega),QU,B.out];rfl);have q3:=AG o.out (ds.length*7+3) (.slice none 0 0) (by rw[← A,List.getElem?_append_right (by omega),QU,B.out];rfl);have q4:=AG o.out (ds.length*7+4) (.slice none 0 0) (by rw[← A,List.getElem?_append_right (by omega),QU,B.out];rfl);have q5:=AG o.out (ds.length*7+5) (.slice none 0 0) (by rw[← A,List.getElem?_append_right (by omega),QU,B.out];rfl);have q6:=AG o.out (ds.length*7+6) (.int .i64 0) (by rw[← A,List.getElem?_append_right (by omega),QU,B.out];rfl);have p0:=World.ownsRow.frozenAt o.out (ds.length*7);have p1:=World.ownsRow.frozenAt o.out (ds.length*7+1);have p2:=World.ownsRow.frozenAt o.out (ds.length*7+2);have p3:=World.ownsRow.frozenAt o.out (ds.length*7+3);have p4:=World.ownsRow.frozenAt o.out (ds.length*7+4);have p5:=World.ownsRow.frozenAt o.out (ds.length*7+5);have p6:=World.ownsRow.frozenAt o.out (ds.length*7+6);have n1:¬g'=t6:=by omega
  have n2:¬t6=g':=by omega
  have U:=QA A.symm;clear J A;refine AR (i:=7) (k:=8) (by kernel_rfl) ?_ ?_
  ·refine AB (by decide) (λK9 HK9=>?_);simp only[QE,QL,QF,QN];go_wp2_with fail;refine HK9.out _ _ ⟨λh=>absurd h (by decide),?_⟩;clear HK9;refine TO (i:=8) ?_;refine AB (by decide) (λKa HKa=>?_);simp only[QE,QL,QF,QN];go_wp2_with fail;refine HKa.out _ _ ⟨λh=>absurd h (by decide),?_⟩;clear HKa;refine AF (by kernel_rfl) ?_ _;go_wp2_with fail;go_end0;have C:=E.out.end1 (jj:=0) S.out T.out HD.out rfl L.out Y.out K.out o.out R.out U.out rfl;simp only[putCells,Nat.add_assoc,QW]at C;exact⟨rfl,C⟩
  ·refine AB (by decide) (λK9 HK9=>?_);simp only[QE,QL,QF,QN];go_wp2_with fail;refine HK9.out _ _ ⟨λh=>absurd h (by decide),?_⟩;clear HK9;refine TO (i:=7) ?_;refine AB (by decide) (λKa HKa=>?_);simp only[QE,QL,QF,QN];go_wp2_with fail;refine HKa.out _ _ ⟨λh=>absurd h (by decide),?_⟩;clear HKa;refine AF (by kernel_rfl) ?_ _;go_wp2_with fail;go_end0;have C:=E.out.end2 (jj:=0) S.out T.out HD.out rfl L.out Y.out K.out o.out R.out U.out rfl;simp only[putCells,Nat.add_assoc,QW]at C;exact⟨rfl,C⟩
theorem Hg (w0:World) (b g t6:Nat) (bx:List Box) (t2:Nat) (kd:Nat) (nm:ByteArray) (at_ m:Nat) (hbx0:(t2,Obj.cells #[(.pointer (some ⟨b,0,none⟩))] 62 (0,0))∈bx) (s:Rd.St) (ds:List D) (w:World)
  (hval:∀w,AL w b g s→Calls Tryz.prog 50 #[(.pointer (some ⟨b,0,none⟩))] w (Got b g w (Qr.variable_ m s).2.d (Qr.variable_ m s).1))
  (h:LI w0 b g t6 bx 39 (Bt kd nm at_) 107 9 s ds w) (hl:ds.length≤1000000) :
  Calls Tryz.prog 49 #[.pointer (some ⟨t6,0,none⟩),.pointer (some ⟨t2,0,none⟩)] w λr w'=>r=.returned (.tuple #[])∧LI w0 b g t6 bx 39 (Bt kd nm at_) 107 9 (Qr.variable_ m s).1 (ds++[(Qr.variable_ m s).2.d]) w':=by
 obtain⟨i0,hi,aC,ao,ay⟩:=info_parts Kp;obtain⟨v,h6,hG⟩:=h.ex;obtain⟨C,B,hv⟩:=hG.form;subst hv;obtain⟨⟨xs,hx,ai⟩,au⟩:=hG;have N:∀x,(Value.slice C ds.length B).ownBlock=some x→LB t6 bx≤x∧x<w.heap.size:=hx.lt;have aI:=BN t6 bx;have F:=block_lt h6;have lb:=h.lb;have l6:=h.l6;obtain⟨s',Y⟩:∃x,x=(Qr.variable_ m s).1:=⟨_,rfl⟩
 obtain⟨d,L⟩:∃x,x=(Qr.variable_ m s).2.d:=⟨_,rfl⟩
 have aw:Hid (∀(w:World) (P:Nat→Prop) (cs:List Value),Reads w P d cs→∃(o A t:ByteArray) (R:Bool) (k a S:Int) (U I:Option Addr) (J c1 M c2:Nat),cs=[.string o,.string A,.bool R,.int .i64 k,.string t,.slice U J c1,.slice I M c2,.int .i64 a,.int .i64 S]) :=
  QA λw P cs hh=>Jc (by rw[← L];exact hh)
 have ag:=QA hval;rw[← Y,← L];have aB:=QA Y;have aq:=QA L;have H:=QA h;have ap:=QA ai;have H6:=QA h6;have aA:=QA N;have ax:Hid (∀w',Fr b w w'→AD w (λx=>t6<x∧(Value.slice C ds.length B).ownBlock≠some x) w' (λx=>t6<x∧(Value.slice C ds.length B).ownBlock≠some x)) :=
  QA λw' G=>⟨G.size,λx hx2 hp=>⟨hp,G.block x hx2 (by omega)⟩⟩
 have W:Hid (∀w',Fr b w w'→w'.ownsRow (LB t6 bx) 107 9 (.slice C ds.length B) ds.length xs):=QA λw' G=>BG hx (λx hx2=>G.block x (N x hx2).2 (by have:=(N x hx2).1;omega))
 have hS:w.cell? ⟨t6,2,none⟩=some (.slice C ds.length B)∧w.cell? ⟨t2,0,none⟩=some (.pointer (some ⟨b,0,none⟩)) :=
  ⟨by simp[World.cell?,h6,Bt],h.cellx hbx0⟩
 have aD:=QA hS;have ae:Hid (∀w',Fr b w w'→w'.cell? ⟨t6,2,none⟩=some (.slice C ds.length B)∧w'.cell? ⟨t2,0,none⟩=some (.pointer (some ⟨b,0,none⟩))):=by
  refine QA λw' G=>⟨?_,h.cellf G hbx0⟩
  rw[G.cell (p:=⟨t6,2,none⟩) F (by show ¬t6=b;omega)];exact aD.out.1
 clear h hx ai h6 N hval Y L au;go_enter Tryz.func49,Tryz.ntmps49;go_wp2_with fail;refine AH (λw'=>w'.cell? ⟨t6,2,none⟩=some (.slice C ds.length B)∧w'.cell? ⟨t2,0,none⟩=some (.pointer (some ⟨b,0,none⟩))) 6 (by kernel_rfl) ?_;refine TK (i:=0) (v:=(.pointer (some ⟨t6,2,none⟩))) rfl (Or.inl ⟨by rfl,λw hSw=>by obtain⟨s0,s1⟩:=hSw;go_simp⟩) hS ?_;simp only[Act.put,QC,QH,QG];refine TK (i:=1) (v:=(.slice C ds.length B)) rfl (Or.inl ⟨by rfl,λw hSw=>by obtain⟨s0,s1⟩:=hSw;go_simp⟩) hS ?_;simp only[Act.put,QC,QH,QG];refine TK (i:=2) (v:=(.pointer (some ⟨b,0,none⟩))) rfl (Or.inl ⟨by rfl,λw hSw=>by obtain⟨s0,s1⟩:=hSw;go_simp⟩) hS ?_;simp only[Act.put,QC,QH,QG];clear hS;refine TO (i:=3) ?_;refine AB (by decide) (λK4 HK4=>?_);simp only[QE,QL,QF,QN];go_wp2_with fail;refine (ag.out w.drew (H.out.rd.to (QM _) rfl rfl)).mono ?_;rintro r w2 ⟨cs,rfl,hrd,hr2,hf2⟩;have G:Fr b w w2:=⟨hf2.os,hf2.tape,hf2.output,hf2.size,hf2.block⟩
 clear hf2;rw[← aB.out]at hr2;rw[← aq.out]at hrd;obtain⟨o,A,t,R,k,a,S,U,I,J,c1,M,c2,rfl⟩:=aw.out _ _ _ hrd;have aj:=QA hrd;have HF:=QA G;have aE:=QA hr2;clear hrd hr2 G;go_wp2_with fail;refine HK4.out _ _ ⟨λ_=>ae.out _ HF.out,?_⟩;clear HK4;refine TO (i:=4) ?_;refine AB (by decide) (λK6 HK6=>?_);simp only[QE,QL,QF,QN];go_wp2_with fail;have K:Hid (Below w2.heap.size w2 (w2.alloc (.cells #[.string o,.string A,.bool R,.int .i64 k,.string t,.slice U J c1,.slice I M c2,.int .i64 a,.int .i64 S] 107))):=QA ((Below.refl _ _).alloc (QM _) _);have O:=QA (HF.out.trans (But.of_below (X:=λk=>k=b) K.out));refine HK6.out _ _ ⟨λ_=>ae.out _ O.out,?_⟩;clear HK6;have E:=QA ((H.out.step aE.out HF.out).below K.out);have HX:=QA (W.out _ O.out);have av:=QA (ap.out.to (ax.out _ O.out));have ah:Hid ((w2.alloc (.cells #[.string o,.string A,.bool R,.int .i64 k,.string t,.slice U J c1,.slice I M c2,.int .i64 a,.int .i64 S] 107)).heap[t6]?=some (.cells ((Bt kd nm at_) (.slice C ds.length B)) 39 (0,0))):=QA (by rw[O.out.block t6 F (by omega)];exact H6.out);have HD:=QA (aj.out.to (w':=w2.alloc (.cells #[.string o,.string A,.bool R,.int .i64 k,.string t,.slice U J c1,.slice I M c2,.int .i64 a,.int .i64 S] 107)) (Q:=λx=>t6<x∧(Value.slice C ds.length B).ownBlock≠some x) ⟨K.out.size,λx hx2 hp=>⟨⟨Nat.lt_of_lt_of_le F hp,λe=>by have h1:=(aA.out x e).2;have h2:w.heap.size≤x:=hp;omega⟩,K.out.block x hx2⟩⟩);have ad:Hid (∀j u,([.string o,.string A,.bool R,.int .i64 k,.string t,.slice U J c1,.slice I M c2,.int .i64 a,.int .i64 S]:List Value)[j]?=some u→(w2.alloc (.cells #[.string o,.string A,.bool R,.int .i64 k,.string t,.slice U J c1,.slice I M c2,.int .i64 a,.int .i64 S] 107)).cell? ((⟨w2.heap.size,0,none⟩:Addr).add j)=some u):=QA (AU (fz:=(0,0)) (AC _ _));have ab:=QA (Reads.one aj.out);have aa:LB t6 bx≤(w2.alloc (.cells #[.string o,.string A,.bool R,.int .i64 k,.string t,.slice U J c1,.slice I M c2,.int .i64 a,.int .i64 S] 107)).heap.size:=E.out.low;refine TO (i:=5) ?_;refine AB (by decide) (λK7 HK7=>?_);simp only[QE,QL,QF,QN];go_wp2_with (first|(at_builtin;refine wpList_append_own_at _ rfl _ _ 37 rfl (LB t6 bx) 107 i0 _ 9 128 Tryz.underlying37 hi aC ao ay rfl (by decide) (.slice C ds.length B) ds.length xs rfl HX.out ⟨w2.heap.size,0,none⟩ 1 1 [.string o,.string A,.bool R,.int .i64 k,.string t,.slice U J c1,.slice I M c2,.int .i64 a,.int .i64 S] rfl rfl ad.out ab.out (by unfold maxLen;omega) (by omega) aa ?_;intro v' w8 hrow8 hg8 hnil8 hloc8;clear hnil8;obtain⟨g',c',rfl,aQ,aO⟩:=Au hrow8 (by omega);have af:=QA hrow8;have Z:=QA hg8;have az:=QA hloc8;clear hrow8 hg8 hloc8)|fail);have V:=E.out.h6 HX.out Z.out ah.out;have y6:w8.cell? ⟨t6,2,none⟩=some (.slice C ds.length B):=by simp[World.cell?,V,Bt]
 have y7:w8.frozen? ⟨t6,2,none⟩=false:=by simp[World.frozen?,V]
 have ac:w8.cell? ⟨t2,0,none⟩=some (.pointer (some ⟨b,0,none⟩)):=by
  have h1:=E.out.cb _ hbx0;have h2:=E.out.lx _ hbx0;simp only at h1 h2;exact AA (cs:=#[(.pointer (some ⟨b,0,none⟩))]) (T:=62) (fz:=(0,0)) (by rw[Z.out.block t2 (block_lt h1) (λe=>by have:=(HX.out.lt t2 e.symm).1;omega)];exact h1) 0 _ rfl
 refine HK7.out _ _ ⟨λ_=>⟨y6,ac⟩,?_⟩;clear HK7 ac;refine TA (i:=6) (v:=(.pointer (some ⟨t6,2,none⟩))) rfl (Or.inl ⟨by rfl,λw _=>by go_simp⟩) ?_;simp only[Act.put,QC,QH,QG];clear V;refine TO (i:=7) ?_;refine AB (by decide) (λK9 HK9=>?_);simp only[QE,QL,QF,QN];go_wp2_with fail;refine HK9.out _ _ ⟨λh=>absurd h (by decide),?_⟩;clear HK9;refine AF (by kernel_rfl) ?_ _;go_wp2_with fail;go_end0;exact⟨rfl,E.out.end0 (jj:=2) HX.out av.out HD.out rfl Z.out az.out ah.out af.out rfl⟩
theorem K8:(Tryz.prog.info? 39).map (λi=>(i.zero,i.size,i.bytes))=some (some (.agg #[.int .i64 0,.string ⟨#[]⟩,.slice none 0 0,.slice none 0 0,.slice none 0 0,.int .i64 0]),6,104):=by kernel_rfl
theorem Ja:(Tryz.prog.info? 36).map (λi=>(i.zero,i.size,i.bytes))=some (some (.agg #[.string ⟨#[]⟩,.string ⟨#[]⟩,.slice none 0 0,.slice none 0 0,.int .i64 0]),5,88):=by kernel_rfl
section
variable {w : World} {P : Nat → Prop}
theorem J4 {x:Qr.Op} {cs:List Value} (h:Reads w P x.d cs):∃(a1 a2 a3:Option Addr) (c1 c2 c3:Nat),cs=[.int .i64 x.kind,.string ⟨x.name.toArray⟩,.slice a1 x.vars.length c1,.slice a2 x.dirs.length c2,.slice a3 x.sels.length c3,.int .i64 x.at_] ∧
  Reads w P (.seq 9 (x.vars.map Qr.Vd.d)) [.slice a1 x.vars.length c1]∧Reads w P (.seq 3 (x.dirs.map Qr.Dir.d)) [.slice a2 x.dirs.length c2]∧Reads w P (.seq 7 (x.sels.map Qr.Sel.d)) [.slice a3 x.sels.length c3]:=by
 unfold Qr.Op.d at h;obtain⟨W,Y,rfl,D,M⟩:=h.obj_inv.cons_inv;obtain⟨x2,U,rfl,K,N⟩:=M.cons_inv;obtain⟨V,R,rfl,A,G⟩:=N.cons_inv;obtain⟨Z,S,rfl,B,E⟩:=G.cons_inv;obtain⟨T,Q,rfl,o,J⟩:=E.cons_inv;obtain⟨O,X,rfl,L,C⟩:=J.cons_inv;obtain rfl:=D.int_inv;obtain rfl:=K.str_inv;obtain⟨b3,I,rfl,_⟩:=A.seq_inv;obtain⟨b4,F,rfl,_⟩:=B.seq_inv;obtain⟨b5,H,rfl,_⟩:=o.seq_inv;obtain rfl:=L.int_inv;obtain rfl:=C.nil_inv;simp only[QV]at A B o ⊢;exact⟨b3,b4,b5,I,F,H,rfl,A,B,o⟩
theorem KS {x:Qr.Fr} {cs:List Value} (h:Reads w P x.d cs):∃(a1 a2:Option Addr) (c1 c2:Nat),cs=[.string ⟨x.name.toArray⟩,.string ⟨x.on.toArray⟩,.slice a1 x.dirs.length c1,.slice a2 x.sels.length c2,.int .i64 x.at_] ∧
  Reads w P (.seq 3 (x.dirs.map Qr.Dir.d)) [.slice a1 x.dirs.length c1]∧Reads w P (.seq 7 (x.sels.map Qr.Sel.d)) [.slice a2 x.sels.length c2]:=by
 unfold Qr.Fr.d at h;obtain⟨S,T,rfl,C,J⟩:=h.obj_inv.cons_inv;obtain⟨V,Q,rfl,I,K⟩:=J.cons_inv;obtain⟨R,M,rfl,o,F⟩:=K.cons_inv;obtain⟨U,N,rfl,A,D⟩:=F.cons_inv;obtain⟨O,L,rfl,B,H⟩:=D.cons_inv;obtain rfl:=C.str_inv;obtain rfl:=I.str_inv;obtain⟨b3,G,rfl,_⟩:=o.seq_inv;obtain⟨b4,E,rfl,_⟩:=A.seq_inv;obtain rfl:=B.int_inv;obtain rfl:=H.nil_inv;simp only[QV]at o A ⊢;exact⟨b3,b4,G,E,rfl,o,A⟩
end
def LO (b g n kk:Nat):Prop:=∀(s:Rd.St) (w:World),AL w b g s→s.rest.length≤n→(s.err≠0∨s.rest.length≤kk)→0≤s.deep∧s.deep+kk≤800000 →
 Calls Tryz.prog 65 #[.pointer (some ⟨b,0,none⟩)] w (Got b g w (Qr.sel (n+1) (kk+1) s).2.d (Qr.sel (n+1) (kk+1) s).1)
def sbx (w0:World) (b:Nat):List Box:=[(w0.heap.size,.cells #[.pointer (some ⟨b,0,none⟩)] 62 (0,0))]
def SLI (w0:World) (b g n kk:Nat) (d1:Int) (s:Rd.St) (out:List Qr.Sel) (w:World):Prop :=
 LI w0 b g (w0.heap.size+1) (sbx w0 b) 32 BA 34 7 s (out.map Qr.Sel.d) w∧s.deep=d1∧s.rest.length≤n∧(s.err≠0∨s.rest.length≤kk)∧(s.err=0→out.length+s.rest.length≤1602)∧out.length≤1603
theorem IR (cap:Array Value) (w:World):Sem.run Tryz.prog (callFunc 64 cap) w=.ok (.enter 64 cap) w:=by kernel_rfl
theorem Ek (b g n kk:Nat) (hnb:n≤1600) (hS:LO b g n kk) (s:Rd.St) (w:World) (h:AL w b g s) (hn:s.rest.length≤n) (hk:s.err≠0∨s.rest.length≤kk+1) (hd:0≤s.deep∧s.deep+kk+1≤800000) :
  Calls Tryz.prog 46 #[.pointer (some ⟨b,0,none⟩)] w (JZ b g w 7 ((Qr.selsOf (Qr.sel (n+1) (kk+1)) s).2.map Qr.Sel.d) (Qr.selsOf (Qr.sel (n+1) (kk+1)) s).1):=by
 have P:=h.lt;have H:=QA h;have HK:=QA hk;have HS:=QA hS;obtain⟨d0,d1⟩:=hd;clear h hk hS;have I:LI w b g (w.heap.size+1) (sbx w b) 32 BA 34 7 s [] ((w.alloc (.cells #[.pointer (some ⟨b,0,none⟩)] 62)).alloc (.cells #[.slice none 0 0] 32)):=by
  have S:Below w.heap.size w ((w.alloc (.cells #[.pointer (some ⟨b,0,none⟩)] 62)).alloc (.cells #[.slice none 0 0] 32)) :=
   ((Below.refl _ _).alloc (QM _) _).alloc (by simp) _
  refine⟨H.out.below S,λp hp=>?_,⟨.slice none 0 0,?_,AY.nil _ _ _ _ _⟩,But.of_below S,P.1,P.2,λp hp=>?_,by omega⟩
  ·unfold sbx at hp;rw[List.mem_singleton.1 hp];show ((w.alloc _).alloc _).heap[w.heap.size]?=_;rw[Lib.alloc_old _ _ _ (by simp)];exact AC _ _
  ·have:=AC (w.alloc (.cells #[.pointer (some ⟨b,0,none⟩)] 62)) (.cells #[.slice none 0 0] 32);rw[show (w.alloc (.cells #[.pointer (some ⟨b,0,none⟩)] 62)).heap.size=w.heap.size+1 by simp]at this;exact this
  ·unfold sbx at hp;rw[List.mem_singleton.1 hp];simp only;omega
 have R:=QA I;have O:=I.cellx (t:=w.heap.size) (v:=.pointer (some ⟨b,0,none⟩)) (T:=62) (by simp[sbx]);clear I;go_enter Tryz.func46,Tryz.ntmps46;go_wp2_with fail;refine (CZ b g s Rd.lbrc _ R.out.rd (by omega)).mono ?_;rintro r w1 ⟨rfl,h1,f1⟩;have G:=QA (R.out.step h1 f1);obtain⟨o,A⟩:∃x,x=Rd.down Rd.lbrc s:=⟨_,rfl⟩
 rw[← A]at G;have aj:=QA A;have B:Rd.Ok s o:=by rw[A];exact Rd.ok_down _ _
 have K:o.rest.length≤n:=QQ B.len hn;have D:o.deep=s.deep+1:=by rw[A];exact Rd.down_deep _ _
 have N:Hid (o.err≠0∨o.rest.length≤kk):=by
  refine QA ?_;rcases HK.out with hx|hx
  ·left;rw[B.err hx];exact hx
  ·rcases Qr.down_less Rd.lbrc s with hy|hy
   ·left;rw[A];exact hy
   ·right;rw[A];omega
 have M:=QA D;have U:Hid (∀(s2:Rd.St) (out:List Qr.Sel) (w1:World),LI w b g (w.heap.size+1) (sbx w b) 32 BA 34 7 s2 (out.map Qr.Sel.d) w1→s2.rest.length≤n→(s2.err≠0∨s2.rest.length≤kk)→s2.deep=s.deep+1→out.length≤1000000 →
   Calls Tryz.prog 64 #[.pointer (some ⟨w.heap.size+1,0,none⟩),.pointer (some ⟨w.heap.size,0,none⟩)] w1 λr w'=>r=.returned (.tuple #[]) ∧
    LI w b g (w.heap.size+1) (sbx w b) 32 BA 34 7 (Qr.sel (n+1) (kk+1) s2).1 ((out++[(Qr.sel (n+1) (kk+1) s2).2]).map Qr.Sel.d) w') :=
  QA λs2 out w1 hl hr hc hdp ho=>by
   rw[List.map_append];exact Im w b g (w.heap.size+1) (sbx w b) w.heap.size (n+1) (kk+1) (by simp[sbx]) s2 (out.map Qr.Sel.d) w1
    (λw2 hr2=>HS.out s2 w2 hr2 hr hc (by rw[hdp];omega)) hl (by rw[QV];exact ho)
 have V:=QA (Qr.sel_deep (n+1) (kk+1));have C:=QA (Qr.ok_sel (n+1) (kk+1));have Q:=QA (Qr.sel_goes (n+1) kk);have W:=QA (show Qr.selsOf (Qr.sel (n+1) (kk+1)) s=(Rd.up Rd.rbrc (Rd.loop1 Rd.rbrc (Qr.sel (n+1) (kk+1)) (o.rest.length+1) o).1,(Rd.loop1 Rd.rbrc (Qr.sel (n+1) (kk+1)) (o.rest.length+1) o).2) by rw[A];rfl);clear h1 f1 O A B D;have O:w1.cell? ⟨w.heap.size,0,none⟩=some (.pointer (some ⟨b,0,none⟩)):=G.out.cellx (T:=62) (by simp[sbx]);go_wp2_with fail;refine (CY Rd.rbrc (Qr.sel (n+1) (kk+1)) (SLI w b g n kk (s.deep+1)) b g _ _ (IR _) (λs out w' h=>h.1.rd) (λs out w1 w2 h hb=>⟨h.1.below hb,h.2⟩) (λs2 out w2 h he=>?_) (λs2 out w2 h he _=>Q.out s2 he) (o.rest.length+1) o w1 ?_ (.inr (Nat.lt_succ_of_le (C.out o).len))).mono ?_
 ·refine (U.out s2 out w2 h.1 h.2.2.1 h.2.2.2.1 h.2.1 (by have:=h.2.2.2.2.2;omega)).mono ?_;rintro r w3 ⟨hre,hli⟩;have E:=(C.out s2).len;have Y:=Q.out s2 he;have h5:=h.2.2.2.2.1 he;refine⟨hre,hli,by rw[V.out];exact h.2.1,QQ E h.2.2.1,?_,λhe2=>?_,by rw[List.length_append];simp;omega⟩
  ·rcases h.2.2.2.1 with hx|hx
   ·exact absurd he hx
   ·right;omega
  ·rcases Y with hx|hx
   ·exact absurd he2 hx
   ·rw[List.length_append];simp;omega
 ·refine (U.out o [] w1 G.out K N.out M.out (by simp)).mono ?_;rintro r w3 ⟨hre,hli⟩;have E:=(C.out o).len;refine⟨hre,hli,by rw[V.out];exact M.out,by omega,?_,λ_=>by simp;omega,by simp⟩;rcases N.out with hx|hx
  ·left;rw[(C.out o).err hx];exact hx
  ·right;omega
 rintro r w5 ⟨rfl,hL⟩;obtain⟨L,J⟩:∃x,x=Rd.loop1 Rd.rbrc (Qr.sel (n+1) (kk+1)) (o.rest.length+1) o:=⟨_,rfl⟩
 rw[← J]at hL;have ac:=QA J;have Z:=QA hL;have ab:=hL.2.1;clear O J hL;have O:w5.cell? ⟨w.heap.size,0,none⟩=some (.pointer (some ⟨b,0,none⟩)):=Z.out.1.cellx (T:=62) (by simp[sbx]);have X:-1000000≤L.1.deep∧L.1.deep≤1000000:=by omega
 have aa:=QA X;clear ab X;go_wp2_with fail;refine (Dx b g L.1 Rd.rbrc w5 Z.out.1.rd aa.out).mono ?_;rintro r w6 ⟨rfl,h6,f6⟩;have F:=QA (Z.out.1.step h6 f6);obtain⟨v,hv,Y⟩:=F.out.ex;obtain⟨va,vc,rfl⟩:=Y.form;have k3:=AA hv 0 (.slice va (L.2.map Qr.Sel.d).length vc) rfl;have HG:=QA Y;clear hv Y h6 f6 O;go_wp2_with fail;go_ret;rw[W.out,← ac.out];refine⟨va,vc,by simp,?_,F.out.rd,F.out.fr⟩;exact HG.out.reads.to (AD.sub w6 (λx _ hp=>by
  rcases hp with hp|hp
  ·have:=hp.1;show w.heap.size≤x;omega
  ·have:=QQ (BN _ _) (HG.out.lt x hp).1;show w.heap.size≤x;omega))
structure FJ (w0:World) (b g t6 lo:Nat) (bx:List Box) (T6:TypeId) (ds:List D) (cs:List Value) (s:Rd.St) (w:World):Prop where
 rd:AL w b g s
 cb:∀p∈bx,w.heap[p.1]?=some p.2
 b6:w.heap[t6]?=some (.cells cs.toArray T6 (0,0))
 fr:Fr b w0 w
 lb:b<w0.heap.size
 lg:g<w0.heap.size
 lx:∀p∈bx,w0.heap.size≤p.1∧p.1<lo∧p.1≠t6
 l6:w0.heap.size≤t6∧t6<lo
 hi:lo≤w.heap.size
 rr:Af w (λx=>lo≤x) ds cs
section
variable {w0 w w' : World} {b g t6 lo : Nat} {bx : List Box} {T6 : TypeId} {ds : List D} {cs : List Value} {s s' : Rd.St}
theorem FJ.step (h:FJ w0 b g t6 lo bx T6 ds cs s w) (hr:AL w' b g s') (hf:Fr b w w'):FJ w0 b g t6 lo bx T6 ds cs s' w':=by
 have lb:=h.lb;have l6:=h.l6;refine⟨hr,λp hp=>?_,?_,h.fr.trans hf,lb,h.lg,h.lx,l6,QQ h.hi hf.size,h.rr.to ⟨hf.size,λx hx hp=>⟨hp,hf.block x hx (by have B:lo≤x:=hp;omega)⟩⟩⟩
 ·have o:=h.cb p hp;have A:=h.lx p hp;rw[hf.block p.1 (block_lt o) (by omega)];exact o
 ·rw[hf.block t6 (block_lt h.b6) (by omega)];exact h.b6
theorem FJ.below (h:FJ w0 b g t6 lo bx T6 ds cs s w) (hb:Below w.heap.size w w'):FJ w0 b g t6 lo bx T6 ds cs s w':=h.step (h.rd.below hb) (But.of_below hb)
theorem FJ.put (h:FJ w0 b g t6 lo bx T6 ds cs s w) (j:Nat) {d:D} {v:Value} (hv:Reads w (λx=>lo≤x) d [v]) (ho:ds.all D.one=true):FJ w0 b g t6 lo bx T6 (ds.set j d) (cs.set j v) s (w.setCell ⟨t6,j,none⟩ v):=by
 have lb:=h.lb;have lg:=h.lg;have l6:=h.l6;refine⟨h.rd.set_ne (by omega) (by omega) _ _,λp hp=>?_,?_,h.fr.setCell (.inr l6.1) v,lb,lg,h.lx,l6,by rw[AP];exact h.hi,(h.rr.set hv j ho).to ⟨by rw[AP];exact QM _,λx hx hp=>⟨hp,AJ (by have A:lo≤x:=hp;omega)⟩⟩⟩
 ·have o:=h.lx p hp;rw[AJ (by omega)];exact h.cb p hp
 ·have:=Ai (k:=j) (v:=v) h.b6
  rwa [QC]at this
theorem FJ.data (h:FJ w0 b g t6 lo bx T6 ds cs s w) {d:D} {us:List Value} (hd:Reads w' (λx=>w.heap.size≤x) d us):Reads w' (λx=>lo≤x) d us :=
 hd.to (AD.sub w' (λx _ hp=>QQ h.hi hp))
theorem FJ.fin {r:Nat} {o:Obj} (h:FJ w0 b g t6 lo bx T6 ds cs s w) (hr:(r,o)∈bx) :
  Reads (putCells w r 0 cs) (λx=>w0.heap.size≤x) (.obj ds) cs∧AL (putCells w r 0 cs) b g s∧Fr b w0 (putCells w r 0 cs):=by
 have lb:=h.lb;have lg:=h.lg;have l6:=h.l6;have D:=h.lx _ hr;simp only at D;have B:∀x,x≠r→(putCells w r 0 cs).heap[x]?=w.heap[x]?:=λx h1=>AX _ _ h1 _ _ _
 have A:=AV r cs 0 w;have C:=Ak r cs 0 w;refine⟨(Reads.obj h.rr).to ⟨by rw[A];exact QM _,λx hx hp=>⟨by have E:lo≤x:=hp;show w0.heap.size≤x;omega,B x (by have E:lo≤x:=hp;omega)⟩⟩,h.rd.to (by rw[A];exact QM _) (B b (by omega)) (B g (by omega)),⟨C.1.trans h.fr.os,C.2.1.trans h.fr.tape,C.2.2.trans h.fr.output,by rw[A];exact h.fr.size,λx hx hxb=>by
  rw[B x (by omega)];exact h.fr.block x hx hxb⟩⟩
end
end Go.Proofs.YtedeapbonbbacaaGreatDoor
