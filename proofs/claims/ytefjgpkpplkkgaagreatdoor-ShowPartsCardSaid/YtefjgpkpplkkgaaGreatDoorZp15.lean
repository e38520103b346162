/-
  The reader of documents: what is done for each selection, each variable (closures), walked. Documents as data: what their cells hold. The reader of documents: a selection set, walked, a selection's walk being given. A block that is filled field by field, its data beside it, other new blocks about it.
-/
import Derived.Test.YtefjgpkpplkkgaaGreatDoorZp14
open Go.Lib renaming hid → QA
open List renaming setIfInBounds_toArray → QC, drop_succ_cons → QE, take_succ_cons → QF, set_cons_succ → QG, set_cons_zero → QH, drop_zero → QL, take_zero → QN, length_map → QX
open Nat renaming le_refl → QM, le_trans → QR, add_sub_cancel_left → QV, reduceAdd → QY
namespace Go.Proofs.YtefjgpkpplkkgaaGreatDoor
set_option linter.unusedSimpArgs false
set_option linter.unusedVariables false
open Go Go.RowKit
theorem infoSel:(Tryz.prog.info? 174).map (fun i=>(i.zero,i.size,i.bytes))=some (some (.agg #[.int .i64 0,.string ⟨#[]⟩,.string ⟨#[]⟩,.slice none 0 0,.slice none 0 0,.slice none 0 0,.int .i64 0]),7,120):=by kernel_rfl
theorem infoVd:(Tryz.prog.info? 100).map (fun i=>(i.zero,i.size,i.bytes))=some (some (.agg #[.string ⟨#[]⟩,.string ⟨#[]⟩,.bool false,.int .i64 0,.string ⟨#[]⟩,.slice none 0 0,.slice none 0 0,.int .i64 0,.int .i64 0]),9,128):=by kernel_rfl
def mkOpV (kd:Nat) (nm:ByteArray) (a:Nat) (v:Value):Array Value:=#[.int .i64 kd,.string nm,v,.slice none 0 0,.slice none 0 0,.int .i64 a]
theorem Sel_open {w:World} {P:Nat→Prop} {x:Qr.Sel} {cs:List Value} (h:Reads w P x.d cs):∃ (a1 a2 a3:Option Addr) (c1 c2 c3:Nat),
  cs=[.int .i64 x.kind,.string ⟨x.alias.toArray⟩,.string ⟨x.name.toArray⟩,.slice a1 x.args.length c1,.slice a2 x.dirs.length c2,.slice a3 x.sels.length c3,.int .i64 x.at_] ∧
  Reads w P (.seq 7 (x.args.map Rd.A.d)) [.slice a1 x.args.length c1]∧Reads w P (.seq 3 (x.dirs.map Qr.Dir.d)) [.slice a2 x.dirs.length c2]∧Reads w P (.seq 7 (x.sels.map Qr.Sel.d)) [.slice a3 x.sels.length c3]:=by
 cases x with
 | mk k al nm ar ds ss a =>
  unfold Qr.Sel.d at h
  rw[Qr.Sel.dl_map] at h
  obtain ⟨V,Z,rfl,L,I⟩:=h.obj_inv.cons_inv
  obtain ⟨x2,r2,rfl,H,N⟩:=I.cons_inv
  obtain ⟨T,Y,rfl,F,O⟩:=N.cons_inv
  obtain ⟨U,S,rfl,o,Q⟩:=O.cons_inv
  obtain ⟨x5,W,rfl,C,G⟩:=Q.cons_inv
  obtain ⟨X,r6,rfl,B,D⟩:=G.cons_inv
  obtain ⟨x7,r7,rfl,R,J⟩:=D.cons_inv
  obtain rfl:=L.int_inv
  obtain rfl:=H.str_inv
  obtain rfl:=F.str_inv
  obtain ⟨b4,M,rfl,_⟩:=o.seq_inv
  obtain ⟨b5,K,rfl,_⟩:=C.seq_inv
  obtain ⟨b6,E,rfl,_⟩:=B.seq_inv
  obtain rfl:=R.int_inv
  obtain rfl:=J.nil_inv
  simp only[QX] at o C B ⊢
  exact ⟨b4,b5,b6,M,K,E,rfl,o,C,B⟩
theorem Sel_cells {w:World} {P:Nat→Prop} {x:Qr.Sel} {cs:List Value} (h:Reads w P x.d cs):∃ (k a:Int) (al nm:ByteArray) (a1 a2 a3:Option Addr) (n1 c1 n2 c2 n3 c3:Nat),cs=[.int .i64 k,.string al,.string nm,.slice a1 n1 c1,.slice a2 n2 c2,.slice a3 n3 c3,.int .i64 a]:=by
 obtain ⟨a1,a2,a3,c1,c2,c3,rfl,_⟩:=Sel_open h
 exact ⟨_,_,_,_,_,_,_,_,_,_,_,_,_,rfl⟩
theorem Vd_cells {w:World} {P:Nat→Prop} {x:Qr.Vd} {cs:List Value} (h:Reads w P x.d cs):∃ (nm ty t:ByteArray) (hb:Bool) (k a b':Int) (a1 a2:Option Addr) (n1 c1 n2 c2:Nat),cs=[.string nm,.string ty,.bool hb,.int .i64 k,.string t,.slice a1 n1 c1,.slice a2 n2 c2,.int .i64 a,.int .i64 b'] :=
 In_cells (x:=⟨x.name,x.type,x.has,x.dflt,x.at_⟩) h
set_option maxHeartbeats 1000000 in
set_option maxRecDepth 100000 in
theorem selsC_any (w0:World) (b g t6:Nat) (bx:List Box) (t2 n kk:Nat) (hbx0:(t2,Obj.cells #[(.pointer (some ⟨b,0,none⟩))] 165 (0,0))∈bx) (s:Rd.St) (ds:List D) (w:World)
  (hval:∀ w,RdAt w b g s→Calls Tryz.prog 214 #[(.pointer (some ⟨b,0,none⟩))] w (Got b g w (Qr.sel n kk s).2.d (Qr.sel n kk s).1))
  (h:LI w0 b g t6 bx 94 mkOne 174 7 s ds w) (hl:ds.length≤1000000) :
  Calls Tryz.prog 213 #[.pointer (some ⟨t6,0,none⟩),.pointer (some ⟨t2,0,none⟩)] w fun r w'=>r=.returned (.tuple #[])∧LI w0 b g t6 bx 94 mkOne 174 7 (Qr.sel n kk s).1 (ds++[(Qr.sel n kk s).2.d]) w':=by
 obtain ⟨i0,hi,aq,ao,ay⟩:=info_parts infoSel
 obtain ⟨v,h6,hG⟩:=h.ex
 obtain ⟨F,G,hv⟩:=hG.form
 subst hv
 obtain ⟨⟨xs,hx,am⟩,aR⟩:=hG
 have ab:∀ x,(Value.slice F ds.length G).ownBlock=some x→LB t6 bx≤x∧x<w.heap.size:=hx.lt
 have aT:=LB_t6 t6 bx
 have O:=block_lt h6
 have lb:=h.lb
 have l6:=h.l6
 have be:(0:Int)≤(ds.length:Int):=Int.natCast_nonneg _
 have a4:(ds.length:Int)<(ds.length:Int)+1:=by omega
 obtain ⟨s',aB⟩:∃ x,x=(Qr.sel n kk s).1:=⟨_,rfl⟩
 obtain ⟨d,ag⟩:∃ x,x=(Qr.sel n kk s).2.d:=⟨_,rfl⟩
 obtain ⟨zs,ah⟩:∃ x,x=[Value.int .i64 0,.string ⟨#[]⟩,.string ⟨#[]⟩,.slice none 0 0,.slice none 0 0,.slice none 0 0,.int .i64 0]:=⟨_,rfl⟩
 have au:Hid (∀ (w:World) (P:Nat→Prop) (cs:List Value),Reads w P d cs→∃ (k' a':Int) (al nm:ByteArray) (a1 a2 a3:Option Addr) (n1 c1 n2 c2 n3 c3:Nat),cs=[.int .i64 k',.string al,.string nm,.slice a1 n1 c1,.slice a2 n2 c2,.slice a3 n3 c3,.int .i64 a']) :=
  QA fun w P cs hh=>Sel_cells (by rw[← ag];exact hh)
 rw[← aB,← ag] at hval ⊢
 have H:=QA h
 have aA:=QA am
 have H6:=QA h6
 have ap:=QA ab
 have ae:=QA hval
 have B:=QA ah
 have R:Hid (zs.length=1*7):=by rw[ah];exact QA rfl
 have az:Hid (∀ w',Fr b w w'→Stands w (fun x=>t6<x∧(Value.slice F ds.length G).ownBlock≠some x) w' (fun x=>t6<x∧(Value.slice F ds.length G).ownBlock≠some x)) :=
  QA fun w' hf=>⟨hf.size,fun x hx2 hp=>⟨hp,hf.block x hx2 (by omega)⟩⟩
 have Y:Hid (∀ w',Fr b w w'→w'.ownsRow (LB t6 bx) 174 7 (.slice F ds.length G) ds.length xs):=QA fun w' hf=>row_to hx (fun x hx2=>hf.block x (ab x hx2).2 (by have:=(ab x hx2).1;omega))
 have hS:w.cell? ⟨t6,0,none⟩=some (.slice F ds.length G)∧w.cell? ⟨t2,0,none⟩=some (.pointer (some ⟨b,0,none⟩)) :=
  ⟨by simp[World.cell?,h6,mkOne],h.cellx hbx0⟩
 have aP:=QA hS
 have ad:Hid (∀ w',Fr b w w'→w'.cell? ⟨t6,0,none⟩=some (.slice F ds.length G)∧w'.cell? ⟨t2,0,none⟩=some (.pointer (some ⟨b,0,none⟩))):=by
  refine QA fun w' hf=>⟨?_,h.cellf hf hbx0⟩
  rw[hf.cell (p:=⟨t6,0,none⟩) O (by show ¬ t6=b;omega)]
  exact aP.out.1
 clear h hx am h6 ab hval aB ag ah aR
 go_enter Tryz.func213,Tryz.ntmps213
 go_wp2_with fail
 refine wp_region_phase (fun w'=>w'.cell? ⟨t6,0,none⟩=some (.slice F ds.length G)∧w'.cell? ⟨t2,0,none⟩=some (.pointer (some ⟨b,0,none⟩))) 5 (by kernel_rfl) ?_
 refine wpAnyB_take (i:=0) (v:=(.slice F ds.length G)) (by kernel_rfl) (by decide) rfl (by kernel_rfl) (by kernel_rfl) (by kernel_rfl) (fun _ _ _ h=>h) (Or.inl ⟨by rfl,fun w hSw=>by obtain ⟨s0,s1⟩:=hSw;go_simp⟩) hS ?_;simp only[Act.put,QC,QH,QG]
 refine wpAnyB_take (i:=1) (v:=(.pointer (some ⟨b,0,none⟩))) (by kernel_rfl) (by decide) rfl (by kernel_rfl) (by kernel_rfl) (by kernel_rfl) (fun _ _ _ h=>h) (Or.inl ⟨by rfl,fun w hSw=>by obtain ⟨s0,s1⟩:=hSw;go_simp⟩) hS ?_;simp only[Act.put,QC,QH,QG]
 refine wpAnyB_take (i:=3) (v:=(.int .i64 ds.length)) (by kernel_rfl) (by decide) rfl (by kernel_rfl) (by kernel_rfl) (by kernel_rfl) (fun _ _ _ h=>h) (Or.inl ⟨by rfl,fun w hSw=>by obtain ⟨s0,s1⟩:=hSw;go_simp⟩) hS ?_;simp only[Act.put,QC,QH,QG]
 clear hS
 refine wpAnyB_two (i:=2) (k:=4) (by kernel_rfl) ?_ ?_
 ·refine wpOp_intro (by decide) (fun K4 HK4=>?_);simp only[QE,QL,QF,QN]
  go_wp2_with fail
  refine (ae.out w.drew (H.out.rd.to (QM _) rfl rfl)).mono ?_
  rintro r w2 ⟨cs,rfl,hrd,hr2,hf2⟩
  have hf:Fr b w w2:=⟨hf2.os,hf2.tape,hf2.output,hf2.size,hf2.block⟩
  obtain ⟨k',a',al,nm,a1,a2,a3,n1,c1,n2,c2,n3,c3,rfl⟩:=au.out _ _ _ hrd
  have af:=QA hrd
  have HF:=QA hf
  have aj:=QA hr2
  clear hrd hr2 hf2 hf
  go_wp2_with fail
  refine HK4.out _ _ ⟨fun _=>ad.out _ HF.out,?_⟩
  clear HK4
  refine wpAnyB_one (i:=4) (by kernel_rfl) ?_
  refine wpOp_intro (by decide) (fun K6 HK6=>?_);simp only[QE,QL,QF,QN]
  go_wp2_with fail
  have M:Hid (Below w2.heap.size w2 (w2.alloc (.cells #[.int .i64 0,.string ⟨#[]⟩,.string ⟨#[]⟩,.slice none 0 0,.slice none 0 0,.slice none 0 0,.int .i64 0] 174))):=QA ((Below.refl _ _).alloc (QM _) _)
  have I:=QA (HF.out.trans (But.of_below (X:=fun k=>k=b) M.out))
  refine HK6.out _ _ ⟨fun _=>ad.out _ I.out,?_⟩
  clear HK6
  have E:=QA ((H.out.step aj.out HF.out).below M.out)
  have V:=QA (Y.out _ I.out)
  have S:=QA (aA.out.to (az.out _ I.out))
  have N:Hid ((w2.alloc (.cells #[.int .i64 0,.string ⟨#[]⟩,.string ⟨#[]⟩,.slice none 0 0,.slice none 0 0,.slice none 0 0,.int .i64 0] 174)).heap[t6]?=some (.cells (mkOne (.slice F ds.length G)) 94 (0,0))):=QA (by rw[I.out.block t6 O (by omega)];exact H6.out)
  have HD:=QA (af.out.to (w':=w2.alloc (.cells #[.int .i64 0,.string ⟨#[]⟩,.string ⟨#[]⟩,.slice none 0 0,.slice none 0 0,.slice none 0 0,.int .i64 0] 174)) (Q:=fun x=>t6<x∧(Value.slice F ds.length G).ownBlock≠some x) ⟨M.out.size,fun x hx2 hp=>⟨⟨Nat.lt_of_lt_of_le O hp,fun e=>by have h1:=(ap.out x e).2;have h2:w.heap.size≤x:=hp;omega⟩,M.out.block x hx2⟩⟩)
  have W:Hid (∀ j u,zs[j]?=some u→(w2.alloc (.cells #[.int .i64 0,.string ⟨#[]⟩,.string ⟨#[]⟩,.slice none 0 0,.slice none 0 0,.slice none 0 0,.int .i64 0] 174)).cell? ((⟨w2.heap.size,0,none⟩:Addr).add j)=some u):=QA (lit_cells (fz:=(0,0)) (by rw[B.out];exact heap_at_new _ _))
  have K:LB t6 bx≤(w2.alloc (.cells #[.int .i64 0,.string ⟨#[]⟩,.string ⟨#[]⟩,.slice none 0 0,.slice none 0 0,.slice none 0 0,.int .i64 0] 174)).heap.size:=E.out.low
  have T:Hid (∀ u∈zs,u.oneCell'=true):=QA (by rw[B.out];intro u hu;simp at hu;rcases hu with rfl|rfl|rfl|rfl|rfl|rfl|rfl<;>rfl)
  refine wpAnyB_one (i:=5) (by kernel_rfl) ?_
  refine wpOp_intro (by decide) (fun K7 HK7=>?_);simp only[QE,QL,QF,QN]
  go_wp2_with (first|(at_builtin;refine wpList_append_own_at _ rfl _ _ 94 rfl (LB t6 bx) 174 i0 _ 7 120 Tryz.underlying94 hi aq ao ay rfl (by decide) (.slice F ds.length G) ds.length xs rfl V.out ⟨w2.heap.size,0,none⟩ 1 1 zs rfl R.out W.out T.out (by unfold maxLen;omega) (by omega) K ?_;intro v' w8 hrow8 hg8 hnil8 hloc8;clear hnil8;obtain ⟨g',c',rfl,aJ,aD⟩:=rowForm hrow8 (by omega);have o:=QA hrow8;have L:=QA hg8;have U:=QA hloc8;clear hrow8 hg8 hloc8)|fail)
  refine HK7.out _ _ ⟨fun h=>absurd h (by decide),?_⟩
  clear HK7
  refine wpAnyB_takeAny (i:=6) (v:=(.pointer (some ⟨g',(ds.length*7),none⟩))) (by decide) rfl (by kernel_rfl) (by kernel_rfl) (by kernel_rfl) (fun _ _ _ h=>h) (Or.inl ⟨by rfl,fun w _=>by go_simp⟩) ?_;simp only[Act.put,QC,QH,QG]
  have J:=E.out.h6 V.out L.out N.out
  have y6:w8.cell? ⟨t6,0,none⟩=some (.slice F ds.length G):=by simp[World.cell?,J,mkOne]
  have y7:w8.frozen? ⟨t6,0,none⟩=false:=by simp[World.frozen?,J]
  have A:xs.length=ds.length*7:=V.out.1
  have q0:=row_cell o.out (ds.length*7) (.int .i64 0) (by rw[← A,List.getElem?_append_right (QM _),Nat.sub_self,B.out];rfl)
  have q1:=row_cell o.out (ds.length*7+1) (.string ⟨#[]⟩) (by rw[← A,List.getElem?_append_right (by omega),QV,B.out];rfl)
  have q2:=row_cell o.out (ds.length*7+2) (.string ⟨#[]⟩) (by rw[← A,List.getElem?_append_right (by omega),QV,B.out];rfl)
  have q3:=row_cell o.out (ds.length*7+3) (.slice none 0 0) (by rw[← A,List.getElem?_append_right (by omega),QV,B.out];rfl)
  have q4:=row_cell o.out (ds.length*7+4) (.slice none 0 0) (by rw[← A,List.getElem?_append_right (by omega),QV,B.out];rfl)
  have q5:=row_cell o.out (ds.length*7+5) (.slice none 0 0) (by rw[← A,List.getElem?_append_right (by omega),QV,B.out];rfl)
  have q6:=row_cell o.out (ds.length*7+6) (.int .i64 0) (by rw[← A,List.getElem?_append_right (by omega),QV,B.out];rfl)
  have p0:=World.ownsRow.frozenAt o.out (ds.length*7)
  have p1:=World.ownsRow.frozenAt o.out (ds.length*7+1)
  have p2:=World.ownsRow.frozenAt o.out (ds.length*7+2)
  have p3:=World.ownsRow.frozenAt o.out (ds.length*7+3)
  have p4:=World.ownsRow.frozenAt o.out (ds.length*7+4)
  have p5:=World.ownsRow.frozenAt o.out (ds.length*7+5)
  have p6:=World.ownsRow.frozenAt o.out (ds.length*7+6)
  have n1:¬ g'=t6:=by omega
  have n2:¬ t6=g':=by omega
  have Z:=QA A.symm
  clear J A
  refine wpAnyB_two (i:=7) (k:=8) (by kernel_rfl) ?_ ?_
  ·refine wpOp_intro (by decide) (fun K9 HK9=>?_);simp only[QE,QL,QF,QN]
   go_wp2_with fail
   refine HK9.out _ _ ⟨fun h=>absurd h (by decide),?_⟩
   clear HK9
   refine wpAnyB_one (i:=8) (by kernel_rfl) ?_
   refine wpOp_intro (by decide) (fun Ka HKa=>?_);simp only[QE,QL,QF,QN]
   go_wp2_with fail
   refine HKa.out _ _ ⟨fun h=>absurd h (by decide),?_⟩
   clear HKa
   refine wpAnyB_done (by kernel_rfl) ?_ _
   go_wp2_with fail
   go_end0
   have C:=E.out.end1 (jj:=0) V.out S.out HD.out rfl L.out U.out N.out o.out R.out Z.out rfl
   simp only[putCells,Nat.add_assoc,QY] at C
   exact ⟨rfl,C⟩
  ·refine wpOp_intro (by decide) (fun K9 HK9=>?_);simp only[QE,QL,QF,QN]
   go_wp2_with fail
   refine HK9.out _ _ ⟨fun h=>absurd h (by decide),?_⟩
   clear HK9
   refine wpAnyB_one (i:=7) (by kernel_rfl) ?_
   refine wpOp_intro (by decide) (fun Ka HKa=>?_);simp only[QE,QL,QF,QN]
   go_wp2_with fail
   refine HKa.out _ _ ⟨fun h=>absurd h (by decide),?_⟩
   clear HKa
   refine wpAnyB_done (by kernel_rfl) ?_ _
   go_wp2_with fail
   go_end0
   have C:=E.out.end2 (jj:=0) V.out S.out HD.out rfl L.out U.out N.out o.out R.out Z.out rfl
   simp only[putCells,Nat.add_assoc,QY] at C
   exact ⟨rfl,C⟩
 ·refine wpOp_intro (by decide) (fun K6 HK6=>?_);simp only[QE,QL,QF,QN]
  go_wp2_with fail
  have M:Hid (Below w.heap.size w ((w.alloc (.cells #[.int .i64 0,.string ⟨#[]⟩,.string ⟨#[]⟩,.slice none 0 0,.slice none 0 0,.slice none 0 0,.int .i64 0] 174)).drew)):=QA (Below.drew ((Below.refl _ _).alloc (QM _) _))
  have I:=QA (But.of_below (X:=fun k=>k=b) M.out)
  refine HK6.out _ _ ⟨fun _=>ad.out _ I.out,?_⟩
  clear HK6
  refine wpAnyB_one (i:=2) (by kernel_rfl) ?_
  refine wpOp_intro (by decide) (fun K4 HK4=>?_);simp only[QE,QL,QF,QN]
  go_wp2_with fail
  refine (ae.out _ (H.out.rd.below M.out)).mono ?_
  rintro r w2 ⟨cs,rfl,hrd,hr2,hf2⟩
  obtain ⟨k',a',al,nm,a1,a2,a3,n1,c1,n2,c2,n3,c3,rfl⟩:=au.out _ _ _ hrd
  have HF:=QA (I.out.trans hf2)
  have aM:Hid (w2.heap[w.heap.size]?=some (.cells #[.int .i64 0,.string ⟨#[]⟩,.string ⟨#[]⟩,.slice none 0 0,.slice none 0 0,.slice none 0 0,.int .i64 0] 174 (0,0))):=by
   rw[hf2.block w.heap.size (by show w.heap.size<(w.alloc _).heap.size;simp) (by omega)]
   exact QA (heap_at_new _ _)
  have af:=QA hrd
  have aj:=QA hr2
  clear hrd hr2 hf2
  go_wp2_with fail
  refine HK4.out _ _ ⟨fun _=>ad.out _ HF.out,?_⟩
  clear HK4
  have E:=QA (H.out.step aj.out HF.out)
  have V:=QA (Y.out _ HF.out)
  have S:=QA (aA.out.to (az.out _ HF.out))
  have N:Hid (w2.heap[t6]?=some (.cells (mkOne (.slice F ds.length G)) 94 (0,0))):=QA (by rw[HF.out.block t6 O (by omega)];exact H6.out)
  have HD:=QA (af.out.to (w':=w2) (Q:=fun x=>t6<x∧(Value.slice F ds.length G).ownBlock≠some x) (Stands.sub w2 (fun x hx2 hp=>by
   have h2:(w.alloc (.cells #[.int .i64 0,.string ⟨#[]⟩,.string ⟨#[]⟩,.slice none 0 0,.slice none 0 0,.slice none 0 0,.int .i64 0] 174)).heap.size≤x:=hp
   simp at h2
   exact ⟨by omega,fun e=>by have h1:=(ap.out x e).2;omega⟩)))
  have W:Hid (∀ j u,zs[j]?=some u→w2.cell? ((⟨w.heap.size,0,none⟩:Addr).add j)=some u):=QA (lit_cells (fz:=(0,0)) (by rw[B.out];exact aM.out))
  have K:LB t6 bx≤(w2).heap.size:=E.out.low
  have T:Hid (∀ u∈zs,u.oneCell'=true):=QA (by rw[B.out];intro u hu;simp at hu;rcases hu with rfl|rfl|rfl|rfl|rfl|rfl|rfl<;>rfl)
  refine wpAnyB_one (i:=5) (by kernel_rfl) ?_
  refine wpOp_intro (by decide) (fun K7 HK7=>?_);simp only[QE,QL,QF,QN]
  go_wp2_with (first|(at_builtin;refine wpList_append_own_at _ rfl _ _ 94 rfl (LB t6 bx) 174 i0 _ 7 120 Tryz.underlying94 hi aq ao ay rfl (by decide) (.slice F ds.length G) ds.length xs rfl V.out ⟨w.heap.size,0,none⟩ 1 1 zs rfl R.out W.out T.out (by unfold maxLen;omega) (by omega) K ?_;intro v' w8 hrow8 hg8 hnil8 hloc8;clear hnil8;obtain ⟨g',c',rfl,aJ,aD⟩:=rowForm hrow8 (by omega);have o:=QA hrow8;have L:=QA hg8;have U:=QA hloc8;clear hrow8 hg8 hloc8)|fail)
  refine HK7.out _ _ ⟨fun h=>absurd h (by decide),?_⟩
  clear HK7
  refine wpAnyB_takeAny (i:=6) (v:=(.pointer (some ⟨g',(ds.length*7),none⟩))) (by decide) rfl (by kernel_rfl) (by kernel_rfl) (by kernel_rfl) (fun _ _ _ h=>h) (Or.inl ⟨by rfl,fun w _=>by go_simp⟩) ?_;simp only[Act.put,QC,QH,QG]
  have J:=E.out.h6 V.out L.out N.out
  have y6:w8.cell? ⟨t6,0,none⟩=some (.slice F ds.length G):=by simp[World.cell?,J,mkOne]
  have y7:w8.frozen? ⟨t6,0,none⟩=false:=by simp[World.frozen?,J]
  have A:xs.length=ds.length*7:=V.out.1
  have q0:=row_cell o.out (ds.length*7) (.int .i64 0) (by rw[← A,List.getElem?_append_right (QM _),Nat.sub_self,B.out];rfl)
  have q1:=row_cell o.out (ds.length*7+1) (.string ⟨#[]⟩) (by rw[← A,List.getElem?_append_right (by omega),QV,B.out];rfl)
  have q2:=row_cell o.out (ds.length*7+2) (.string ⟨#[]⟩) (by rw[← A,List.getElem?_append_right (by omega),QV,B.out];rfl)
  have q3:=row_cell o.out (ds.length*7+3) (.slice none 0 0) (by rw[← A,List.getElem?_append_right (by omega),QV,B.out];rfl)
  have q4:=row_cell o.out (ds.length*7+4) (.slice none 0 0) (by rw[← A,List.getElem?_append_right (by omega),QV,B.out];rfl)
  have q5:=row_cell o.out (ds.length*7+5) (.slice none 0 0) (by rw[← A,List.getElem?_append_right (by omega),QV,B.out];rfl)
  have q6:=row_cell o.out (ds.length*7+6) (.int .i64 0) (by rw[← A,List.getElem?_append_right (by omega),QV,B.out];rfl)
  have p0:=World.ownsRow.frozenAt o.out (ds.length*7)
  have p1:=World.ownsRow.frozenAt o.out (ds.length*7+1)
  have p2:=World.ownsRow.frozenAt o.out (ds.length*7+2)
  have p3:=World.ownsRow.frozenAt o.out (ds.length*7+3)
  have p4:=World.ownsRow.frozenAt o.out (ds.length*7+4)
  have p5:=World.ownsRow.frozenAt o.out (ds.length*7+5)
  have p6:=World.ownsRow.frozenAt o.out (ds.length*7+6)
  have n1:¬ g'=t6:=by omega
  have n2:¬ t6=g':=by omega
  have Z:=QA A.symm
  clear J A
  refine wpAnyB_two (i:=7) (k:=8) (by kernel_rfl) ?_ ?_
  ·refine wpOp_intro (by decide) (fun K9 HK9=>?_);simp only[QE,QL,QF,QN]
   go_wp2_with fail
   refine HK9.out _ _ ⟨fun h=>absurd h (by decide),?_⟩
   clear HK9
   refine wpAnyB_one (i:=8) (by kernel_rfl) ?_
   refine wpOp_intro (by decide) (fun Ka HKa=>?_);simp only[QE,QL,QF,QN]
   go_wp2_with fail
   refine HKa.out _ _ ⟨fun h=>absurd h (by decide),?_⟩
   clear HKa
   refine wpAnyB_done (by kernel_rfl) ?_ _
   go_wp2_with fail
   go_end0
   have C:=E.out.end1 (jj:=0) V.out S.out HD.out rfl L.out U.out N.out o.out R.out Z.out rfl
   simp only[putCells,Nat.add_assoc,QY] at C
   exact ⟨rfl,C⟩
  ·refine wpOp_intro (by decide) (fun K9 HK9=>?_);simp only[QE,QL,QF,QN]
   go_wp2_with fail
   refine HK9.out _ _ ⟨fun h=>absurd h (by decide),?_⟩
   clear HK9
   refine wpAnyB_one (i:=7) (by kernel_rfl) ?_
   refine wpOp_intro (by decide) (fun Ka HKa=>?_);simp only[QE,QL,QF,QN]
   go_wp2_with fail
   refine HKa.out _ _ ⟨fun h=>absurd h (by decide),?_⟩
   clear HKa
   refine wpAnyB_done (by kernel_rfl) ?_ _
   go_wp2_with fail
   go_end0
   have C:=E.out.end2 (jj:=0) V.out S.out HD.out rfl L.out U.out N.out o.out R.out Z.out rfl
   simp only[putCells,Nat.add_assoc,QY] at C
   exact ⟨rfl,C⟩
set_option maxHeartbeats 1000000 in
set_option maxRecDepth 100000 in
theorem opC_any (w0:World) (b g t6:Nat) (bx:List Box) (t2:Nat) (kd:Nat) (nm:ByteArray) (at_ m:Nat) (hbx0:(t2,Obj.cells #[(.pointer (some ⟨b,0,none⟩))] 165 (0,0))∈bx) (s:Rd.St) (ds:List D) (w:World)
  (hval:∀ w,RdAt w b g s→Calls Tryz.prog 177 #[(.pointer (some ⟨b,0,none⟩))] w (Got b g w (Qr.variable_ m s).2.d (Qr.variable_ m s).1))
  (h:LI w0 b g t6 bx 96 (mkOpV kd nm at_) 100 9 s ds w) (hl:ds.length≤1000000) :
  Calls Tryz.prog 176 #[.pointer (some ⟨t6,0,none⟩),.pointer (some ⟨t2,0,none⟩)] w fun r w'=>r=.returned (.tuple #[])∧LI w0 b g t6 bx 96 (mkOpV kd nm at_) 100 9 (Qr.variable_ m s).1 (ds++[(Qr.variable_ m s).2.d]) w':=by
 obtain ⟨i0,hi,au,aq,aB⟩:=info_parts infoVd
 obtain ⟨v,h6,hG⟩:=h.ex
 obtain ⟨B,C,hv⟩:=hG.form
 subst hv
 obtain ⟨⟨xs,hx,ad⟩,aF⟩:=hG
 have U:∀ x,(Value.slice B ds.length C).ownBlock=some x→LB t6 bx≤x∧x<w.heap.size:=hx.lt
 have aH:=LB_t6 t6 bx
 have F:=block_lt h6
 have lb:=h.lb
 have l6:=h.l6
 obtain ⟨s',aa⟩:∃ x,x=(Qr.variable_ m s).1:=⟨_,rfl⟩
 obtain ⟨d,M⟩:∃ x,x=(Qr.variable_ m s).2.d:=⟨_,rfl⟩
 have ay:Hid (∀ (w:World) (P:Nat→Prop) (cs:List Value),Reads w P d cs→∃ (o A t:ByteArray) (I:Bool) (k a N:Int) (O J:Option Addr) (R c1 S c2:Nat),cs=[.string o,.string A,.bool I,.int .i64 k,.string t,.slice O R c1,.slice J S c2,.int .i64 a,.int .i64 N]) :=
  QA fun w P cs hh=>Vd_cells (by rw[← M];exact hh)
 have ak:=QA hval
 rw[← aa,← M]
 have ao:=QA aa
 have aw:=QA M
 have H:=QA h
 have aE:=QA ad
 have H6:=QA h6
 have ar:=QA U
 have aD:Hid (∀ w',Fr b w w'→Stands w (fun x=>t6<x∧(Value.slice B ds.length C).ownBlock≠some x) w' (fun x=>t6<x∧(Value.slice B ds.length C).ownBlock≠some x)) :=
  QA fun w' G=>⟨G.size,fun x hx2 hp=>⟨hp,G.block x hx2 (by omega)⟩⟩
 have Z:Hid (∀ w',Fr b w w'→w'.ownsRow (LB t6 bx) 100 9 (.slice B ds.length C) ds.length xs):=QA fun w' G=>row_to hx (fun x hx2=>G.block x (U x hx2).2 (by have:=(U x hx2).1;omega))
 have hS:w.cell? ⟨t6,2,none⟩=some (.slice B ds.length C)∧w.cell? ⟨t2,0,none⟩=some (.pointer (some ⟨b,0,none⟩)) :=
  ⟨by simp[World.cell?,h6,mkOpV],h.cellx hbx0⟩
 have aA:=QA hS
 have aj:Hid (∀ w',Fr b w w'→w'.cell? ⟨t6,2,none⟩=some (.slice B ds.length C)∧w'.cell? ⟨t2,0,none⟩=some (.pointer (some ⟨b,0,none⟩))):=by
  refine QA fun w' G=>⟨?_,h.cellf G hbx0⟩
  rw[G.cell (p:=⟨t6,2,none⟩) F (by show ¬ t6=b;omega)]
  exact aA.out.1
 clear h hx ad h6 U hval aa M aF
 go_enter Tryz.func176,Tryz.ntmps176
 go_wp2_with fail
 refine wp_region_phase (fun w'=>w'.cell? ⟨t6,2,none⟩=some (.slice B ds.length C)∧w'.cell? ⟨t2,0,none⟩=some (.pointer (some ⟨b,0,none⟩))) 6 (by kernel_rfl) ?_
 refine wpAnyB_take (i:=0) (v:=(.pointer (some ⟨t6,2,none⟩))) (by kernel_rfl) (by decide) rfl (by kernel_rfl) (by kernel_rfl) (by kernel_rfl) (fun _ _ _ h=>h) (Or.inl ⟨by rfl,fun w hSw=>by obtain ⟨s0,s1⟩:=hSw;go_simp⟩) hS ?_;simp only[Act.put,QC,QH,QG]
 refine wpAnyB_take (i:=1) (v:=(.slice B ds.length C)) (by kernel_rfl) (by decide) rfl (by kernel_rfl) (by kernel_rfl) (by kernel_rfl) (fun _ _ _ h=>h) (Or.inl ⟨by rfl,fun w hSw=>by obtain ⟨s0,s1⟩:=hSw;go_simp⟩) hS ?_;simp only[Act.put,QC,QH,QG]
 refine wpAnyB_take (i:=2) (v:=(.pointer (some ⟨b,0,none⟩))) (by kernel_rfl) (by decide) rfl (by kernel_rfl) (by kernel_rfl) (by kernel_rfl) (fun _ _ _ h=>h) (Or.inl ⟨by rfl,fun w hSw=>by obtain ⟨s0,s1⟩:=hSw;go_simp⟩) hS ?_;simp only[Act.put,QC,QH,QG]
 clear hS
 refine wpAnyB_one (i:=3) (by kernel_rfl) ?_
 refine wpOp_intro (by decide) (fun K4 HK4=>?_);simp only[QE,QL,QF,QN]
 go_wp2_with fail
 refine (ak.out w.drew (H.out.rd.to (QM _) rfl rfl)).mono ?_
 rintro r w2 ⟨cs,rfl,hrd,hr2,hf2⟩
 have G:Fr b w w2:=⟨hf2.os,hf2.tape,hf2.output,hf2.size,hf2.block⟩
 clear hf2
 rw[← ao.out] at hr2
 rw[← aw.out] at hrd
 obtain ⟨o,A,t,I,k,a,N,O,J,R,c1,S,c2,rfl⟩:=ay.out _ _ _ hrd
 have ab:=QA hrd
 have HF:=QA G
 have ax:=QA hr2
 clear hrd hr2 G
 go_wp2_with fail
 refine HK4.out _ _ ⟨fun _=>aj.out _ HF.out,?_⟩
 clear HK4
 refine wpAnyB_one (i:=4) (by kernel_rfl) ?_
 refine wpOp_intro (by decide) (fun K6 HK6=>?_);simp only[QE,QL,QF,QN]
 go_wp2_with fail
 have L:Hid (Below w2.heap.size w2 (w2.alloc (.cells #[.string o,.string A,.bool I,.int .i64 k,.string t,.slice O R c1,.slice J S c2,.int .i64 a,.int .i64 N] 100))):=QA ((Below.refl _ _).alloc (QM _) _)
 have K:=QA (HF.out.trans (But.of_below (X:=fun k=>k=b) L.out))
 refine HK6.out _ _ ⟨fun _=>aj.out _ K.out,?_⟩
 clear HK6
 have E:=QA ((H.out.step ax.out HF.out).below L.out)
 have HX:=QA (Z.out _ K.out)
 have ap:=QA (aE.out.to (aD.out _ K.out))
 have ai:Hid ((w2.alloc (.cells #[.string o,.string A,.bool I,.int .i64 k,.string t,.slice O R c1,.slice J S c2,.int .i64 a,.int .i64 N] 100)).heap[t6]?=some (.cells ((mkOpV kd nm at_) (.slice B ds.length C)) 96 (0,0))):=QA (by rw[K.out.block t6 F (by omega)];exact H6.out)
 have HD:=QA (ab.out.to (w':=w2.alloc (.cells #[.string o,.string A,.bool I,.int .i64 k,.string t,.slice O R c1,.slice J S c2,.int .i64 a,.int .i64 N] 100)) (Q:=fun x=>t6<x∧(Value.slice B ds.length C).ownBlock≠some x) ⟨L.out.size,fun x hx2 hp=>⟨⟨Nat.lt_of_lt_of_le F hp,fun e=>by have h1:=(ar.out x e).2;have h2:w.heap.size≤x:=hp;omega⟩,L.out.block x hx2⟩⟩)
 have ah:Hid (∀ j u,([.string o,.string A,.bool I,.int .i64 k,.string t,.slice O R c1,.slice J S c2,.int .i64 a,.int .i64 N]:List Value)[j]?=some u→(w2.alloc (.cells #[.string o,.string A,.bool I,.int .i64 k,.string t,.slice O R c1,.slice J S c2,.int .i64 a,.int .i64 N] 100)).cell? ((⟨w2.heap.size,0,none⟩:Addr).add j)=some u):=QA (lit_cells (fz:=(0,0)) (heap_at_new _ _))
 have af:=QA (Reads.one ab.out)
 have W:LB t6 bx≤(w2.alloc (.cells #[.string o,.string A,.bool I,.int .i64 k,.string t,.slice O R c1,.slice J S c2,.int .i64 a,.int .i64 N] 100)).heap.size:=E.out.low
 refine wpAnyB_one (i:=5) (by kernel_rfl) ?_
 refine wpOp_intro (by decide) (fun K7 HK7=>?_);simp only[QE,QL,QF,QN]
 go_wp2_with (first|(at_builtin;refine wpList_append_own_at _ rfl _ _ 92 rfl (LB t6 bx) 100 i0 _ 9 128 Tryz.underlying92 hi au aq aB rfl (by decide) (.slice B ds.length C) ds.length xs rfl HX.out ⟨w2.heap.size,0,none⟩ 1 1 [.string o,.string A,.bool I,.int .i64 k,.string t,.slice O R c1,.slice J S c2,.int .i64 a,.int .i64 N] rfl rfl ah.out af.out (by unfold maxLen;omega) (by omega) W ?_;intro v' w8 hrow8 hg8 hnil8 hloc8;clear hnil8;obtain ⟨g',c',rfl,aQ,aM⟩:=rowForm hrow8 (by omega);have ae:=QA hrow8;have Y:=QA hg8;have av:=QA hloc8;clear hrow8 hg8 hloc8)|fail)
 have V:=E.out.h6 HX.out Y.out ai.out
 have y6:w8.cell? ⟨t6,2,none⟩=some (.slice B ds.length C):=by simp[World.cell?,V,mkOpV]
 have y7:w8.frozen? ⟨t6,2,none⟩=false:=by simp[World.frozen?,V]
 have ac:w8.cell? ⟨t2,0,none⟩=some (.pointer (some ⟨b,0,none⟩)):=by
  have h1:=E.out.cb _ hbx0
  have h2:=E.out.lx _ hbx0
  simp only at h1 h2
  exact blk_cell (cs:=#[(.pointer (some ⟨b,0,none⟩))]) (T:=165) (fz:=(0,0)) (by rw[Y.out.block t2 (block_lt h1) (fun e=>by have:=(HX.out.lt t2 e.symm).1;omega)];exact h1) 0 _ rfl
 refine HK7.out _ _ ⟨fun _=>⟨y6,ac⟩,?_⟩
 clear HK7 ac
 refine wpAnyB_takeAny (i:=6) (v:=(.pointer (some ⟨t6,2,none⟩))) (by decide) rfl (by kernel_rfl) (by kernel_rfl) (by kernel_rfl) (fun _ _ _ h=>h) (Or.inl ⟨by rfl,fun w _=>by go_simp⟩) ?_;simp only[Act.put,QC,QH,QG]
 clear V
 refine wpAnyB_one (i:=7) (by kernel_rfl) ?_
 refine wpOp_intro (by decide) (fun K9 HK9=>?_);simp only[QE,QL,QF,QN]
 go_wp2_with fail
 refine HK9.out _ _ ⟨fun h=>absurd h (by decide),?_⟩
 clear HK9
 refine wpAnyB_done (by kernel_rfl) ?_ _
 go_wp2_with fail
 go_end0
 exact ⟨rfl,E.out.end0 (jj:=2) HX.out ap.out HD.out rfl Y.out av.out ai.out ae.out rfl⟩
theorem infoOp:(Tryz.prog.info? 96).map (fun i=>(i.zero,i.size,i.bytes))=some (some (.agg #[.int .i64 0,.string ⟨#[]⟩,.slice none 0 0,.slice none 0 0,.slice none 0 0,.int .i64 0]),6,104):=by kernel_rfl
theorem infoFr:(Tryz.prog.info? 102).map (fun i=>(i.zero,i.size,i.bytes))=some (some (.agg #[.string ⟨#[]⟩,.string ⟨#[]⟩,.slice none 0 0,.slice none 0 0,.int .i64 0]),5,88):=by kernel_rfl
section
variable {w : World} {P : Nat → Prop}
theorem Op_open {x:Qr.Op} {cs:List Value} (h:Reads w P x.d cs):∃ (a1 a2 a3:Option Addr) (c1 c2 c3:Nat),cs=[.int .i64 x.kind,.string ⟨x.name.toArray⟩,.slice a1 x.vars.length c1,.slice a2 x.dirs.length c2,.slice a3 x.sels.length c3,.int .i64 x.at_] ∧
  Reads w P (.seq 9 (x.vars.map Qr.Vd.d)) [.slice a1 x.vars.length c1]∧Reads w P (.seq 3 (x.dirs.map Qr.Dir.d)) [.slice a2 x.dirs.length c2]∧Reads w P (.seq 7 (x.sels.map Qr.Sel.d)) [.slice a3 x.sels.length c3]:=by
 unfold Qr.Op.d at h
 obtain ⟨S,W,rfl,J,F⟩:=h.obj_inv.cons_inv
 obtain ⟨X,Y,rfl,E,L⟩:=F.cons_inv
 obtain ⟨Q,V,rfl,o,M⟩:=L.cons_inv
 obtain ⟨R,O,rfl,A,N⟩:=M.cons_inv
 obtain ⟨Z,T,rfl,B,D⟩:=N.cons_inv
 obtain ⟨U,r6,rfl,G,C⟩:=D.cons_inv
 obtain rfl:=J.int_inv
 obtain rfl:=E.str_inv
 obtain ⟨b3,H,rfl,_⟩:=o.seq_inv
 obtain ⟨b4,K,rfl,_⟩:=A.seq_inv
 obtain ⟨b5,I,rfl,_⟩:=B.seq_inv
 obtain rfl:=G.int_inv
 obtain rfl:=C.nil_inv
 simp only[QX] at o A B ⊢
 exact ⟨b3,b4,b5,H,K,I,rfl,o,A,B⟩
theorem Fr_open {x:Qr.Fr} {cs:List Value} (h:Reads w P x.d cs):∃ (a1 a2:Option Addr) (c1 c2:Nat),cs=[.string ⟨x.name.toArray⟩,.string ⟨x.on.toArray⟩,.slice a1 x.dirs.length c1,.slice a2 x.sels.length c2,.int .i64 x.at_] ∧
  Reads w P (.seq 3 (x.dirs.map Qr.Dir.d)) [.slice a1 x.dirs.length c1]∧Reads w P (.seq 7 (x.sels.map Qr.Sel.d)) [.slice a2 x.sels.length c2]:=by
 unfold Qr.Fr.d at h
 obtain ⟨O,S,rfl,F,D⟩:=h.obj_inv.cons_inv
 obtain ⟨T,U,rfl,C,I⟩:=D.cons_inv
 obtain ⟨M,R,rfl,o,J⟩:=I.cons_inv
 obtain ⟨N,L,rfl,A,K⟩:=J.cons_inv
 obtain ⟨V,Q,rfl,G,B⟩:=K.cons_inv
 obtain rfl:=F.str_inv
 obtain rfl:=C.str_inv
 obtain ⟨b3,E,rfl,_⟩:=o.seq_inv
 obtain ⟨b4,H,rfl,_⟩:=A.seq_inv
 obtain rfl:=G.int_inv
 obtain rfl:=B.nil_inv
 simp only[QX] at o A ⊢
 exact ⟨b3,b4,E,H,rfl,o,A⟩
end
def SelC (b g n kk:Nat):Prop:=∀ (s:Rd.St) (w:World),RdAt w b g s→s.rest.length≤n→(s.err≠0∨s.rest.length≤kk)→0≤s.deep∧s.deep+kk≤800000 →
 Calls Tryz.prog 214 #[.pointer (some ⟨b,0,none⟩)] w (Got b g w (Qr.sel (n+1) (kk+1) s).2.d (Qr.sel (n+1) (kk+1) s).1)
def sbx (w0:World) (b:Nat):List Box:=[(w0.heap.size,.cells #[.pointer (some ⟨b,0,none⟩)] 165 (0,0))]
def SLI (w0:World) (b g n kk:Nat) (d1:Int) (s:Rd.St) (out:List Qr.Sel) (w:World):Prop :=
 LI w0 b g (w0.heap.size+1) (sbx w0 b) 94 mkOne 174 7 s (out.map Qr.Sel.d) w∧s.deep=d1∧s.rest.length≤n∧(s.err≠0∨s.rest.length≤kk)∧(s.err=0→out.length+s.rest.length≤1602)∧out.length≤1603
theorem enters_SC (cap:Array Value) (w:World):Sem.run Tryz.prog (callFunc 213 cap) w=.ok (.enter 213 cap) w:=by kernel_rfl
set_option maxHeartbeats 1000000 in
set_option maxRecDepth 100000 in
theorem sels_step (b g n kk:Nat) (hnb:n≤1600) (hS:SelC b g n kk) (s:Rd.St) (w:World) (h:RdAt w b g s) (hn:s.rest.length≤n) (hk:s.err≠0∨s.rest.length≤kk+1) (hd:0≤s.deep∧s.deep+kk+1≤800000) :
  Calls Tryz.prog 175 #[.pointer (some ⟨b,0,none⟩)] w (GotL b g w 7 ((Qr.selsOf (Qr.sel (n+1) (kk+1)) s).2.map Qr.Sel.d) (Qr.selsOf (Qr.sel (n+1) (kk+1)) s).1):=by
 have N:=h.lt
 have H:=QA h
 have HK:=QA hk
 have HS:=QA hS
 obtain ⟨d0,d1⟩:=hd
 clear h hk hS
 have I:LI w b g (w.heap.size+1) (sbx w b) 94 mkOne 174 7 s [] ((w.alloc (.cells #[.pointer (some ⟨b,0,none⟩)] 165)).alloc (.cells #[.slice none 0 0] 94)):=by
  have R:Below w.heap.size w ((w.alloc (.cells #[.pointer (some ⟨b,0,none⟩)] 165)).alloc (.cells #[.slice none 0 0] 94)) :=
   ((Below.refl _ _).alloc (QM _) _).alloc (by simp) _
  refine ⟨H.out.below R,fun p hp=>?_,⟨.slice none 0 0,?_,Grows.nil _ _ _ _ _⟩,But.of_below R,N.1,N.2,fun p hp=>?_,by omega⟩
  ·unfold sbx at hp
   rw[List.mem_singleton.1 hp]
   show ((w.alloc _).alloc _).heap[w.heap.size]?=_
   rw[Lib.alloc_old _ _ _ (by simp)];exact heap_at_new _ _
  ·have:=heap_at_new (w.alloc (.cells #[.pointer (some ⟨b,0,none⟩)] 165)) (.cells #[.slice none 0 0] 94)
   rw[show (w.alloc (.cells #[.pointer (some ⟨b,0,none⟩)] 165)).heap.size=w.heap.size+1 by simp] at this
   exact this
  ·unfold sbx at hp
   rw[List.mem_singleton.1 hp]
   simp only
   omega
 have K:=QA I
 have M:=I.cellx (t:=w.heap.size) (v:=.pointer (some ⟨b,0,none⟩)) (T:=165) (by simp[sbx])
 clear I
 go_enter Tryz.func175,Tryz.ntmps175
 go_wp2_with fail
 refine (rdown_any b g s Rd.lbrc _ K.out.rd (by omega)).mono ?_
 rintro r w1 ⟨rfl,h1,f1⟩
 have G:=QA (K.out.step h1 f1)
 obtain ⟨A,o⟩:∃ x,x=Rd.down Rd.lbrc s:=⟨_,rfl⟩
 rw[← o] at G
 have ai:=QA o
 have B:Rd.Ok s A:=by rw[o];exact Rd.ok_down _ _
 have V:A.rest.length≤n:=QR B.len hn
 have D:A.deep=s.deep+1:=by rw[o];exact Rd.down_deep _ _
 have O:Hid (A.err≠0∨A.rest.length≤kk):=by
  refine QA ?_
  rcases HK.out with hx|hx
  ·left;rw[B.err hx];exact hx
  ·rcases Qr.down_less Rd.lbrc s with hy|hy
   ·left;rw[o];exact hy
   ·right;rw[o];omega
 have P:=QA D
 have Y:Hid (∀ (s2:Rd.St) (out:List Qr.Sel) (w1:World),LI w b g (w.heap.size+1) (sbx w b) 94 mkOne 174 7 s2 (out.map Qr.Sel.d) w1→s2.rest.length≤n→(s2.err≠0∨s2.rest.length≤kk)→s2.deep=s.deep+1→out.length≤1000000 →
   Calls Tryz.prog 213 #[.pointer (some ⟨w.heap.size+1,0,none⟩),.pointer (some ⟨w.heap.size,0,none⟩)] w1 fun r w'=>r=.returned (.tuple #[]) ∧
    LI w b g (w.heap.size+1) (sbx w b) 94 mkOne 174 7 (Qr.sel (n+1) (kk+1) s2).1 ((out++[(Qr.sel (n+1) (kk+1) s2).2]).map Qr.Sel.d) w') :=
  QA fun s2 out w1 hl hr hc hdp ho=>by
   rw[List.map_append]
   exact selsC_any w b g (w.heap.size+1) (sbx w b) w.heap.size (n+1) (kk+1) (by simp[sbx]) s2 (out.map Qr.Sel.d) w1
    (fun w2 hr2=>HS.out s2 w2 hr2 hr hc (by rw[hdp];omega)) hl (by rw[QX];exact ho)
 have Q:=QA (Qr.sel_deep (n+1) (kk+1))
 have C:=QA (Qr.ok_sel (n+1) (kk+1))
 have X:=QA (Qr.sel_goes (n+1) kk)
 have S:=QA (show Qr.selsOf (Qr.sel (n+1) (kk+1)) s=(Rd.up Rd.rbrc (Rd.loop1 Rd.rbrc (Qr.sel (n+1) (kk+1)) (A.rest.length+1) A).1,(Rd.loop1 Rd.rbrc (Qr.sel (n+1) (kk+1)) (A.rest.length+1) A).2) by rw[o];rfl)
 clear h1 f1 M o B D
 have M:w1.cell? ⟨w.heap.size,0,none⟩=some (.pointer (some ⟨b,0,none⟩)):=G.out.cellx (T:=165) (by simp[sbx])
 go_wp2_with fail
 refine (some1_any Rd.rbrc (Qr.sel (n+1) (kk+1)) (SLI w b g n kk (s.deep+1)) b g _ _ (enters_SC _) (fun s out w' h=>h.1.rd) (fun s out w1 w2 h hb=>⟨h.1.below hb,h.2⟩) (fun s2 out w2 h he=>?_) (fun s2 out w2 h he _=>X.out s2 he) (A.rest.length+1) A w1 ?_ (.inr (Nat.lt_succ_of_le (C.out A).len))).mono ?_
 ·refine (Y.out s2 out w2 h.1 h.2.2.1 h.2.2.2.1 h.2.1 (by have:=h.2.2.2.2.2;omega)).mono ?_
  rintro r w3 ⟨hre,hli⟩
  have E:=(C.out s2).len
  have U:=X.out s2 he
  have h5:=h.2.2.2.2.1 he
  refine ⟨hre,hli,by rw[Q.out];exact h.2.1,QR E h.2.2.1,?_,fun he2=>?_,by rw[List.length_append];simp;omega⟩
  ·rcases h.2.2.2.1 with hx|hx
   ·exact absurd he hx
   ·right;omega
  ·rcases U with hx|hx
   ·exact absurd he2 hx
   ·rw[List.length_append]
    simp
    omega
 ·refine (Y.out A [] w1 G.out V O.out P.out (by simp)).mono ?_
  rintro r w3 ⟨hre,hli⟩
  have E:=(C.out A).len
  refine ⟨hre,hli,by rw[Q.out];exact P.out,by omega,?_,fun _=>by simp;omega,by simp⟩
  rcases O.out with hx|hx
  ·left;rw[(C.out A).err hx];exact hx
  ·right;omega
 rintro r w5 ⟨rfl,hL⟩
 obtain ⟨L,F⟩:∃ x,x=Rd.loop1 Rd.rbrc (Qr.sel (n+1) (kk+1)) (A.rest.length+1) A:=⟨_,rfl⟩
 rw[← F] at hL
 have ab:=QA F
 have HL:=QA hL
 have Z:=hL.2.1
 clear M F hL
 have M:w5.cell? ⟨w.heap.size,0,none⟩=some (.pointer (some ⟨b,0,none⟩)):=HL.out.1.cellx (T:=165) (by simp[sbx])
 have W:-1000000≤L.1.deep∧L.1.deep≤1000000:=by omega
 have ac:=QA W
 clear Z W
 go_wp2_with fail
 refine (rup_any b g L.1 Rd.rbrc w5 HL.out.1.rd ac.out).mono ?_
 rintro r w6 ⟨rfl,h6,f6⟩
 have J:=QA (HL.out.1.step h6 f6)
 obtain ⟨v,hv,U⟩:=J.out.ex
 obtain ⟨va,vc,rfl⟩:=U.form
 have k3:=blk_cell hv 0 (.slice va (L.2.map Qr.Sel.d).length vc) rfl
 have HG:=QA U
 clear hv U h6 f6 M
 go_wp2_with fail
 go_ret
 rw[S.out,← ab.out]
 refine ⟨va,vc,by simp,?_,J.out.rd,J.out.fr⟩
 exact HG.out.reads.to (Stands.sub w6 (fun x _ hp=>by
  rcases hp with hp|hp
  ·have:=hp.1;show w.heap.size≤x;omega
  ·have:=QR (LB_t6 _ _) (HG.out.lt x hp).1;show w.heap.size≤x;omega))
structure FJ (w0:World) (b g t6 lo:Nat) (bx:List Box) (T6:TypeId) (ds:List D) (cs:List Value) (s:Rd.St) (w:World):Prop where
 rd:RdAt w b g s
 cb:∀ p∈bx,w.heap[p.1]?=some p.2
 b6:w.heap[t6]?=some (.cells cs.toArray T6 (0,0))
 fr:Fr b w0 w
 lb:b<w0.heap.size
 lg:g<w0.heap.size
 lx:∀ p∈bx,w0.heap.size≤p.1∧p.1<lo∧p.1≠t6
 l6:w0.heap.size≤t6∧t6<lo
 hi:lo≤w.heap.size
 rr:ReadsR w (fun x=>lo≤x) ds cs
section
variable {w0 w w' : World} {b g t6 lo : Nat} {bx : List Box} {T6 : TypeId} {ds : List D} {cs : List Value} {s s' : Rd.St}
theorem FJ.step (h:FJ w0 b g t6 lo bx T6 ds cs s w) (hr:RdAt w' b g s') (hf:Fr b w w'):FJ w0 b g t6 lo bx T6 ds cs s' w':=by
 have lb:=h.lb
 have l6:=h.l6
 refine ⟨hr,fun p hp=>?_,?_,h.fr.trans hf,lb,h.lg,h.lx,l6,QR h.hi hf.size,h.rr.to ⟨hf.size,fun x hx hp=>⟨hp,hf.block x hx (by have B:lo≤x:=hp;omega)⟩⟩⟩
 ·have o:=h.cb p hp
  have A:=h.lx p hp
  rw[hf.block p.1 (block_lt o) (by omega)]
  exact o
 ·rw[hf.block t6 (block_lt h.b6) (by omega)]
  exact h.b6
theorem FJ.below (h:FJ w0 b g t6 lo bx T6 ds cs s w) (hb:Below w.heap.size w w'):FJ w0 b g t6 lo bx T6 ds cs s w':=h.step (h.rd.below hb) (But.of_below hb)
theorem FJ.put (h:FJ w0 b g t6 lo bx T6 ds cs s w) (j:Nat) {d:D} {v:Value} (hv:Reads w (fun x=>lo≤x) d [v]) (ho:ds.all D.one=true):FJ w0 b g t6 lo bx T6 (ds.set j d) (cs.set j v) s (w.setCell ⟨t6,j,none⟩ v):=by
 have lb:=h.lb
 have lg:=h.lg
 have l6:=h.l6
 refine ⟨h.rd.set_ne (by omega) (by omega) _ _,fun p hp=>?_,?_,h.fr.setCell (.inr l6.1) v,lb,lg,h.lx,l6,by rw[size_set];exact h.hi,(h.rr.set hv j ho).to ⟨by rw[size_set];exact QM _,fun x hx hp=>⟨hp,heap_set_ne (by have A:lo≤x:=hp;omega)⟩⟩⟩
 ·have o:=h.lx p hp
  rw[heap_set_ne (by omega)]
  exact h.cb p hp
 ·have:=heap_set1 (k:=j) (v:=v) h.b6
  rwa [QC] at this
theorem FJ.data (h:FJ w0 b g t6 lo bx T6 ds cs s w) {d:D} {us:List Value} (hd:Reads w' (fun x=>w.heap.size≤x) d us):Reads w' (fun x=>lo≤x) d us :=
 hd.to (Stands.sub w' (fun x _ hp=>QR h.hi hp))
theorem FJ.fin {r:Nat} {o:Obj} (h:FJ w0 b g t6 lo bx T6 ds cs s w) (hr:(r,o)∈bx) :
  Reads (putCells w r 0 cs) (fun x=>w0.heap.size≤x) (.obj ds) cs∧RdAt (putCells w r 0 cs) b g s∧Fr b w0 (putCells w r 0 cs):=by
 have lb:=h.lb
 have lg:=h.lg
 have l6:=h.l6
 have C:=h.lx _ hr
 simp only at C
 have B:∀ x,x≠r→(putCells w r 0 cs).heap[x]?=w.heap[x]?:=fun x h1=>putCells_ne _ _ h1 _ _ _
 have A:=putCells_size r cs 0 w
 have D:=putCells_os r cs 0 w
 refine ⟨(Reads.obj h.rr).to ⟨by rw[A];exact QM _,fun x hx hp=>⟨by have E:lo≤x:=hp;show w0.heap.size≤x;omega,B x (by have E:lo≤x:=hp;omega)⟩⟩,h.rd.to (by rw[A];exact QM _) (B b (by omega)) (B g (by omega)),⟨D.1.trans h.fr.os,D.2.1.trans h.fr.tape,D.2.2.trans h.fr.output,by rw[A];exact h.fr.size,fun x hx hxb=>by
  rw[B x (by omega)]
  exact h.fr.block x hx hxb⟩⟩
end
end Go.Proofs.YtefjgpkpplkkgaaGreatDoor
