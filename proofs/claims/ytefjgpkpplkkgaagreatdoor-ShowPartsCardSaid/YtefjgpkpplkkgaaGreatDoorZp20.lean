/-
  The reader of documents: an operation behind its kind, walked. The reader of documents: an operation, walked. Two rows that grow, in one block, beside the reader.
-/
import Derived.Test.YtefjgpkpplkkgaaGreatDoorZp18
import Derived.Test.YtefjgpkpplkkgaaGreatDoorZp19
import Derived.Test.YtefjgpkpplkkgaaGreatDoorZp13
open Array renaming getInternal_eq_getElem → QD
open Go.Lib renaming hid → QA
open List renaming setIfInBounds_toArray → QC, drop_succ_cons → QE, take_succ_cons → QF, set_cons_succ → QG, set_cons_zero → QH, getElem_cons_zero → QI, getElem_cons_succ → QJ, getElem_toArray → QK, drop_zero → QL, take_zero → QN, mem_cons_self → QP, length_append → QT, mem_cons_of_mem → QU, length_map → QX, getElem?_eq_getElem → ZJ
open Nat renaming le_refl → QM, le_trans → QR, reduceAdd → QY
namespace Go.Proofs.YtefjgpkpplkkgaaGreatDoor
set_option linter.unusedSimpArgs false
set_option linter.unusedVariables false
open Go Go.RowKit
theorem enters_OC (cap:Array Value) (w:World):Sem.run Tryz.prog (callFunc 176 cap) w=.ok (.enter 176 cap) w:=by kernel_rfl
noncomputable def opTail:Code:=(Tryz.f113.body.map (fun c=>sndC (sndC (sndC (sndC c))))).getD .skip
theorem FJ.li {w0 w:World} {b g t6 k:Nat} {bx:List Box} {T6 E:TypeId} {mk:Value→Array Value} {ds:List D} {cs:List Value} {s:Rd.St} (h:FJ w0 b g t6 (t6+1) bx T6 ds cs s w) (hm:cs.toArray=mk (.slice none 0 0)):LI w0 b g t6 bx T6 mk E k s [] w :=
 ⟨h.rd,h.cb,⟨_,by rw[← hm];exact h.b6,Grows.nil _ _ _ _ _⟩,h.fr,h.lb,h.lg,fun p hp=>⟨(h.lx p hp).1,(h.lx p hp).2.2⟩,h.l6.1⟩
set_option maxHeartbeats 4000000 in
set_option maxRecDepth 100000 in
theorem op_tail (b g n:Nat) (hnb:n≤1600) (s:Rd.St) (w:World) (HN:Hid (s.rest.length≤n)) (d0:0≤s.deep) (d1:s.deep≤700000) (kd pa t6:Nat) (st0:Rd.St) (w6:World) (hl6:w.heap.size+2≤t6)
  (HF0:Hid (FJ w b g t6 (t6+1) [(w.heap.size,Obj.cells #[(.pointer (some ⟨b,0,none⟩))] 165 (0,0)),(w.heap.size+1,Obj.cells #[.int .i64 0,.string ⟨#[]⟩,.slice none 0 0,.slice none 0 0,.slice none 0 0,.int .i64 0] 96 (0,0))] 96 [.int kd,.str [],.seq 9 [],.seq 3 [],.seq 7 [],.int pa] [.int .i64 kd,.string ⟨#[]⟩,.slice none 0 0,.slice none 0 0,.slice none 0 0,.int .i64 pa] st0 w6)) (HOK0:Hid (Rd.Ok s st0)) (HDP0:Hid (st0.deep=s.deep)) (HOP:Hid (Qr.op (n+1) s=Qr.opRest (n+1) kd pa st0)) (c4 c5 c6 c7 c8 c9 c10 c11 c12 c13 c14 c15 c16 c17 c18 c19 c20 c21 c22 c23 c24 c25 c26 c27:Value) :
  Code.wp Tryz.prog opTail (bodyPost Tryz.prog Tryz.f113 (Got b g w (Qr.op (n+1) s).2.d (Qr.op (n+1) s).1)) ⟨#[.pointer (some ⟨b,0,none⟩),.pointer (some ⟨w.heap.size,0,none⟩),.pointer (some ⟨w.heap.size+1,0,none⟩),.pointer (some ⟨t6,0,none⟩),c4,c5,c6,c7,c8,c9,c10,c11,c12,c13,c14,c15,c16,c17,c18,c19,c20,c21,c22,c23,c24,c25,c26,c27,undef,undef,undef,undef,undef,undef,undef,undef,undef,undef,undef,undef,undef,undef,undef,undef,undef,undef,undef,undef,undef,undef,undef,undef,undef,undef,undef,undef,undef],[]⟩ w6:=by
 obtain ⟨lo,aX⟩:∃ x,x=t6+1:=⟨_,rfl⟩
 have n1:¬ t6=w.heap.size:=by omega
 have n2:¬ w.heap.size=t6:=by omega
 have n3:¬ t6=w.heap.size+1:=by omega
 have n4:¬ w.heap.size+1=t6:=by omega
 have aA:=QA aX
 rw[← aX] at HF0
 clear aX hl6
 conv=>arg 2;whnf
 have Z:=blk_cell (HF0.out.cb (w.heap.size,Obj.cells #[(.pointer (some ⟨b,0,none⟩))] 165 (0,0)) QP) 0 (.pointer (some ⟨b,0,none⟩)) rfl
 go_wp2_with fail
 refine (rword0_any b g st0 w6 HF0.out.rd).mono ?_
 rintro r w7 ⟨rfl,hb7⟩
 clear Z
 have aB:Hid (FJ w b g t6 lo [(w.heap.size,Obj.cells #[(.pointer (some ⟨b,0,none⟩))] 165 (0,0)),(w.heap.size+1,Obj.cells #[.int .i64 0,.string ⟨#[]⟩,.slice none 0 0,.slice none 0 0,.slice none 0 0,.int .i64 0] 96 (0,0))] 96 [.int kd,.str [],.seq 9 [],.seq 3 [],.seq 7 [],.int pa] [.int .i64 kd,.string ⟨#[]⟩,.slice none 0 0,.slice none 0 0,.slice none 0 0,.int .i64 pa] st0 (w7)):=QA (HF0.out.below hb7)
 obtain ⟨B,hB⟩:∃ B,B=Rd.isN st0:=⟨_,rfl⟩
 have HB:=QA hB
 rw[← hB]
 clear hB hb7
 cases B
 ·have Z:=blk_cell (aB.out.cb (w.heap.size,Obj.cells #[(.pointer (some ⟨b,0,none⟩))] 165 (0,0)) QP) 0 (.pointer (some ⟨b,0,none⟩)) rfl
  have aJ:Hid (Qr.nameIf st0=(st0,([]:List UInt8))):=by unfold Qr.nameIf;rw[if_neg (by rw[isW_nil,← HB.out];simp)];exact QA rfl
  go_wp2_with fail
  refine (rtake_any b g st0 Rd.lpar _ aB.out.rd).mono ?_
  rintro r w20 ⟨rfl,h20,f20⟩
  clear Z
  have W:Hid (FJ w b g t6 lo [(w.heap.size,Obj.cells #[(.pointer (some ⟨b,0,none⟩))] 165 (0,0)),(w.heap.size+1,Obj.cells #[.int .i64 0,.string ⟨#[]⟩,.slice none 0 0,.slice none 0 0,.slice none 0 0,.int .i64 0] 96 (0,0))] 96 [.int kd,.str [],.seq 9 [],.seq 3 [],.seq 7 [],.int pa] [.int .i64 kd,.string ⟨#[]⟩,.slice none 0 0,.slice none 0 0,.slice none 0 0,.int .i64 pa] (Rd.take Rd.lpar st0) (w20)):=QA (aB.out.step h20 f20)
  obtain ⟨C,hC⟩:∃ B,B=Rd.isS st0 Rd.lpar:=⟨_,rfl⟩
  have HC:=QA hC
  rw[← hC]
  clear hC h20 f20
  cases C
  ·have HT:Hid (Rd.take Rd.lpar st0=st0):=by unfold Rd.take;rw[if_neg (by rw[← HC.out];simp)];exact QA rfl
   have ab:Hid (FJ w b g t6 lo [(w.heap.size,Obj.cells #[(.pointer (some ⟨b,0,none⟩))] 165 (0,0)),(w.heap.size+1,Obj.cells #[.int .i64 0,.string ⟨#[]⟩,.slice none 0 0,.slice none 0 0,.slice none 0 0,.int .i64 0] 96 (0,0))] 96 [.int kd,.str [],.seq 9 [],.seq 3 [],.seq 7 [],.int pa] [.int .i64 kd,.string ⟨#[]⟩,.slice none 0 0,.slice none 0 0,.slice none 0 0,.int .i64 pa] st0 (w20)):=by rw[HT.out] at W;exact W
   have HV:Hid (Qr.vars (n+1) st0=(st0,[])):=by unfold Qr.vars;rw[if_neg (by rw[← HC.out];simp)];exact QA rfl
   have Z:=blk_cell (ab.out.cb (w.heap.size,Obj.cells #[(.pointer (some ⟨b,0,none⟩))] 165 (0,0)) QP) 0 (.pointer (some ⟨b,0,none⟩)) rfl
   go_wp2_with fail
   refine (dirs_any b g n hnb st0 _ ab.out.rd (QR HOK0.out.len HN.out) (by rw[HDP0.out];omega)).mono ?_
   rintro r w31x ⟨ra31,rc31,rfl,hrd,h31,f31⟩
   clear Z
   obtain ⟨D,P⟩:∃ x,x=Qr.dirs (n+1) st0:=⟨_,rfl⟩
   rw[← P] at hrd h31 ⊢
   have S:=QA P
   have H:=ab.out.data hrd
   obtain ⟨F,O⟩:∃ x,x=D.2.length:=⟨_,rfl⟩
   rw[QX,← O] at H ⊢
   have J:Hid (Rd.Ok s D.1):=by rw[S.out];exact QA (HOK0.out.trans (Qr.ok_dirs (n+1) _))
   have I:Hid (D.1.deep=s.deep):=by rw[S.out,Qr.dirs_deep];exact HDP0
   have K:Hid (FJ w b g t6 lo [(w.heap.size,Obj.cells #[(.pointer (some ⟨b,0,none⟩))] 165 (0,0)),(w.heap.size+1,Obj.cells #[.int .i64 0,.string ⟨#[]⟩,.slice none 0 0,.slice none 0 0,.slice none 0 0,.int .i64 0] 96 (0,0))] 96 [.int kd,.str [],.seq 9 [],.seq 3 [],.seq 7 [],.int pa] [.int .i64 kd,.string ⟨#[]⟩,.slice none 0 0,.slice none 0 0,.slice none 0 0,.int .i64 pa] D.1 (w31x)):=QA (ab.out.step h31 f31)
   have Y:=QA H
   clear hrd h31 f31 P H O
   have y3:=blk_cell K.out.b6 3 (.slice none 0 0) rfl
   have ah:=blk_free K.out.b6 3
   have M:Hid (FJ w b g t6 lo [(w.heap.size,Obj.cells #[(.pointer (some ⟨b,0,none⟩))] 165 (0,0)),(w.heap.size+1,Obj.cells #[.int .i64 0,.string ⟨#[]⟩,.slice none 0 0,.slice none 0 0,.slice none 0 0,.int .i64 0] 96 (0,0))] 96 [.int kd,.str [],.seq 9 [],.seq 3 (D.2.map Qr.Dir.d),.seq 7 [],.int pa] [.int .i64 kd,.string ⟨#[]⟩,.slice none 0 0,.slice ra31 F rc31,.slice none 0 0,.int .i64 pa] D.1 ((w31x).setCell ⟨t6,3,none⟩ (.slice ra31 F rc31))):=QA (K.out.put 3 (Y.out) rfl)
   have Z:=blk_cell (K.out.cb (w.heap.size,Obj.cells #[(.pointer (some ⟨b,0,none⟩))] 165 (0,0)) QP) 0 (.pointer (some ⟨b,0,none⟩)) rfl
   go_wp2_with fail
   refine (sels_any b g n hnb D.1 _ M.out.rd (QR J.out.len HN.out) (by rw[I.out];omega)).mono ?_
   rintro r w33x ⟨ra33,rc33,rfl,hrd,h33,f33⟩
   clear Z
   obtain ⟨G,N⟩:∃ x,x=Qr.sels (n+1) (n+1) D.1:=⟨_,rfl⟩
   rw[← N] at hrd h33 ⊢
   have U:=QA N
   have H:=M.out.data hrd
   obtain ⟨R,O⟩:∃ x,x=G.2.length:=⟨_,rfl⟩
   rw[QX,← O] at H ⊢
   have an:Hid (Rd.Ok s G.1):=by rw[U.out];exact QA (J.out.trans (Qr.ok_selsOf _ (Qr.ok_sel (n+1) (n+1)) _))
   have al:Hid (G.1.deep=s.deep):=by rw[U.out,show (Qr.sels (n+1) (n+1) _).1.deep=_ from Qr.selsOf_deep _ (Qr.sel_deep (n+1) (n+1)) _];exact I
   have o:Hid (FJ w b g t6 lo [(w.heap.size,Obj.cells #[(.pointer (some ⟨b,0,none⟩))] 165 (0,0)),(w.heap.size+1,Obj.cells #[.int .i64 0,.string ⟨#[]⟩,.slice none 0 0,.slice none 0 0,.slice none 0 0,.int .i64 0] 96 (0,0))] 96 [.int kd,.str [],.seq 9 [],.seq 3 (D.2.map Qr.Dir.d),.seq 7 [],.int pa] [.int .i64 kd,.string ⟨#[]⟩,.slice none 0 0,.slice ra31 F rc31,.slice none 0 0,.int .i64 pa] G.1 (w33x)):=QA (M.out.step h33 f33)
   have aa:=QA H
   clear hrd h33 f33 N H O
   have y4:=blk_cell o.out.b6 4 (.slice none 0 0) rfl
   have a0:=blk_free o.out.b6 4
   have ag:Hid (FJ w b g t6 lo [(w.heap.size,Obj.cells #[(.pointer (some ⟨b,0,none⟩))] 165 (0,0)),(w.heap.size+1,Obj.cells #[.int .i64 0,.string ⟨#[]⟩,.slice none 0 0,.slice none 0 0,.slice none 0 0,.int .i64 0] 96 (0,0))] 96 [.int kd,.str [],.seq 9 [],.seq 3 (D.2.map Qr.Dir.d),.seq 7 (G.2.map Qr.Sel.d),.int pa] [.int .i64 kd,.string ⟨#[]⟩,.slice none 0 0,.slice ra31 F rc31,.slice ra33 R rc33,.int .i64 pa] G.1 ((w33x).setCell ⟨t6,4,none⟩ (.slice ra33 R rc33))):=QA (o.out.put 4 (aa.out) rfl)
   have HR:Hid (Qr.op (n+1) s=(G.1,⟨kd,([]:List UInt8),[],D.2,G.2,pa⟩)):=by
    refine QA ?_
    rw[HOP.out]
    unfold Qr.opRest
    dsimp only
    rw[aJ.out,HV.out,← S.out,← U.out]
   clear y3 ah
   have y0:=blk_cell o.out.b6 0 (.int .i64 kd) rfl
   have a9:=blk_free o.out.b6 0
   have y1:=blk_cell o.out.b6 1 (.string ⟨#[]⟩) rfl
   have aG:=blk_free o.out.b6 1
   have y2:=blk_cell o.out.b6 2 (.slice none 0 0) rfl
   have a3:=blk_free o.out.b6 2
   have y3:=blk_cell o.out.b6 3 (.slice ra31 F rc31) rfl
   have ah:=blk_free o.out.b6 3
   have y5:=blk_cell o.out.b6 5 (.int .i64 pa) rfl
   have bd:=blk_free o.out.b6 5
   have z0:=blk_cell (o.out.cb (w.heap.size+1,Obj.cells #[.int .i64 0,.string ⟨#[]⟩,.slice none 0 0,.slice none 0 0,.slice none 0 0,.int .i64 0] 96 (0,0)) (QU _ QP)) 0 (.int .i64 0) rfl
   have a2:=blk_free (o.out.cb (w.heap.size+1,Obj.cells #[.int .i64 0,.string ⟨#[]⟩,.slice none 0 0,.slice none 0 0,.slice none 0 0,.int .i64 0] 96 (0,0)) (QU _ QP)) 0
   have z1:=blk_cell (o.out.cb (w.heap.size+1,Obj.cells #[.int .i64 0,.string ⟨#[]⟩,.slice none 0 0,.slice none 0 0,.slice none 0 0,.int .i64 0] 96 (0,0)) (QU _ QP)) 1 (.string ⟨#[]⟩) rfl
   have a7:=blk_free (o.out.cb (w.heap.size+1,Obj.cells #[.int .i64 0,.string ⟨#[]⟩,.slice none 0 0,.slice none 0 0,.slice none 0 0,.int .i64 0] 96 (0,0)) (QU _ QP)) 1
   have z2:=blk_cell (o.out.cb (w.heap.size+1,Obj.cells #[.int .i64 0,.string ⟨#[]⟩,.slice none 0 0,.slice none 0 0,.slice none 0 0,.int .i64 0] 96 (0,0)) (QU _ QP)) 2 (.slice none 0 0) rfl
   have a1:=blk_free (o.out.cb (w.heap.size+1,Obj.cells #[.int .i64 0,.string ⟨#[]⟩,.slice none 0 0,.slice none 0 0,.slice none 0 0,.int .i64 0] 96 (0,0)) (QU _ QP)) 2
   have z3:=blk_cell (o.out.cb (w.heap.size+1,Obj.cells #[.int .i64 0,.string ⟨#[]⟩,.slice none 0 0,.slice none 0 0,.slice none 0 0,.int .i64 0] 96 (0,0)) (QU _ QP)) 3 (.slice none 0 0) rfl
   have aY:=blk_free (o.out.cb (w.heap.size+1,Obj.cells #[.int .i64 0,.string ⟨#[]⟩,.slice none 0 0,.slice none 0 0,.slice none 0 0,.int .i64 0] 96 (0,0)) (QU _ QP)) 3
   have z4:=blk_cell (o.out.cb (w.heap.size+1,Obj.cells #[.int .i64 0,.string ⟨#[]⟩,.slice none 0 0,.slice none 0 0,.slice none 0 0,.int .i64 0] 96 (0,0)) (QU _ QP)) 4 (.slice none 0 0) rfl
   have a6:=blk_free (o.out.cb (w.heap.size+1,Obj.cells #[.int .i64 0,.string ⟨#[]⟩,.slice none 0 0,.slice none 0 0,.slice none 0 0,.int .i64 0] 96 (0,0)) (QU _ QP)) 4
   have z5:=blk_cell (o.out.cb (w.heap.size+1,Obj.cells #[.int .i64 0,.string ⟨#[]⟩,.slice none 0 0,.slice none 0 0,.slice none 0 0,.int .i64 0] 96 (0,0)) (QU _ QP)) 5 (.int .i64 0) rfl
   have aZ:=blk_free (o.out.cb (w.heap.size+1,Obj.cells #[.int .i64 0,.string ⟨#[]⟩,.slice none 0 0,.slice none 0 0,.slice none 0 0,.int .i64 0] 96 (0,0)) (QU _ QP)) 5
   have T:=ag.out.fin (r:=w.heap.size+1) (QU _ QP)
   simp only[putCells,QY,Nat.zero_add] at T
   have ar:=QA T
   clear T
   go_wp2_with fail
   refine bodyPost_ret (v:=.agg #[.int .i64 kd,.string ⟨#[]⟩,.slice none 0 0,.slice ra31 F rc31,.slice ra33 R rc33,.int .i64 pa]) (by simp[results,Tryz.results113,go_sem,z0,z1,z2,z3,z4,z5,n3,n4]) rfl ?_
   rw[HR.out]
   exact ⟨_,rfl,ar.out⟩
  ·have HT:Hid (Rd.take Rd.lpar st0=Rd.next st0):=by unfold Rd.take;rw[if_pos HC.out.symm];exact QA rfl
   have aI:Hid (LI w b g t6 [(w.heap.size,Obj.cells #[(.pointer (some ⟨b,0,none⟩))] 165 (0,0)),(w.heap.size+1,Obj.cells #[.int .i64 0,.string ⟨#[]⟩,.slice none 0 0,.slice none 0 0,.slice none 0 0,.int .i64 0] 96 (0,0))] 96 (mkOpV kd ⟨([]:List UInt8).toArray⟩ pa) 100 9 (Rd.next st0) [] w20):=by
    rw[HT.out,aA.out] at W
    exact QA (W.out.li rfl)
   have aD:=QA (Rd.next_sign HC.out.symm)
   have aP:Hid ((Rd.next st0).deep=s.deep):=by rw[Rd.next_deep,HDP0.out];exact QA rfl
   have aH:Hid (∀ (s1:Rd.St) (out:List Qr.Vd) (w1:World),LI w b g t6 [(w.heap.size,Obj.cells #[(.pointer (some ⟨b,0,none⟩))] 165 (0,0)),(w.heap.size+1,Obj.cells #[.int .i64 0,.string ⟨#[]⟩,.slice none 0 0,.slice none 0 0,.slice none 0 0,.int .i64 0] 96 (0,0))] 96 (mkOpV kd ⟨([]:List UInt8).toArray⟩ pa) 100 9 s1 (out.map Qr.Vd.d) w1→s1.rest.length≤n→s1.deep=s.deep→out.length≤1000000 →
     Calls Tryz.prog 176 #[.pointer (some ⟨t6,0,none⟩),.pointer (some ⟨w.heap.size,0,none⟩)] w1 fun r w'=>r=.returned (.tuple #[])∧LI w b g t6 [(w.heap.size,Obj.cells #[(.pointer (some ⟨b,0,none⟩))] 165 (0,0)),(w.heap.size+1,Obj.cells #[.int .i64 0,.string ⟨#[]⟩,.slice none 0 0,.slice none 0 0,.slice none 0 0,.int .i64 0] 96 (0,0))] 96 (mkOpV kd ⟨([]:List UInt8).toArray⟩ pa) 100 9 (Qr.variable_ (n+1) s1).1 ((out++[(Qr.variable_ (n+1) s1).2]).map Qr.Vd.d) w') :=
    QA fun s1 out w1 hl hr hdp ho=>by
     rw[List.map_append]
     exact opC_any w b g t6 [(w.heap.size,Obj.cells #[(.pointer (some ⟨b,0,none⟩))] 165 (0,0)),(w.heap.size+1,Obj.cells #[.int .i64 0,.string ⟨#[]⟩,.slice none 0 0,.slice none 0 0,.slice none 0 0,.int .i64 0] 96 (0,0))] w.heap.size kd ⟨([]:List UInt8).toArray⟩ pa (n+1) QP s1 (out.map Qr.Vd.d) w1 (fun w2 hr2=>variable_any b g n hnb s1 w2 hr2 (.inr hr) (by rw[hdp];omega)) hl (by rw[QX];exact ho)
   have aO:=QA (Qr.variable_deep (n+1))
   have aF:=QA (Qr.ok_variable (n+1))
   have ap:=QA (Qr.variable_goes (n+1))
   have bk:(Rd.next st0).rest.length+1≤n:=by have h1:=aD.out.1;have h2:=HOK0.out.len;have h3:=HN.out;omega
   have Z:=blk_cell (aI.out.cb (w.heap.size,Obj.cells #[(.pointer (some ⟨b,0,none⟩))] 165 (0,0)) QP) 0 (.pointer (some ⟨b,0,none⟩)) rfl
   go_wp2_with fail
   refine (some1_any Rd.rpar (Qr.variable_ (n+1)) (FLI w b g t6 [(w.heap.size,Obj.cells #[(.pointer (some ⟨b,0,none⟩))] 165 (0,0)),(w.heap.size+1,Obj.cells #[.int .i64 0,.string ⟨#[]⟩,.slice none 0 0,.slice none 0 0,.slice none 0 0,.int .i64 0] 96 (0,0))] 96 (mkOpV kd ⟨([]:List UInt8).toArray⟩ pa) 100 9 Qr.Vd.d n s.deep) b g _ _ (enters_OC _) (fun s out w' h=>h.1.rd) (fun s out w1 w2 h hb=>⟨h.1.below hb,h.2⟩) (fun s1 out w2 h he=>?_) (fun s1 out w2 h he _=>ap.out s1 he) (n+1) (Rd.next st0) w20 ?_ ?_).mono ?_
   ·refine (aH.out s1 out w2 h.1 h.2.2.1 h.2.1 (by have:=h.2.2.2.2;omega)).mono ?_
    rintro r w3 ⟨hre,hli⟩
    refine ⟨hre,hli,by rw[aO.out];exact h.2.1,QR (aF.out s1).len h.2.2.1,fun he2=>?_,by have:=h.2.2.2.1 he;rw[QT];simp;omega⟩
    rcases ap.out s1 he with hx|hx
    ·exact absurd he2 hx
    ·have:=h.2.2.2.1 he
     rw[QT]
     simp
     omega
   ·refine (aH.out (Rd.next st0) [] w20 aI.out (by omega) aP.out (by simp)).mono ?_
    rintro r w3 ⟨hre,hli⟩
    have be:=(aF.out (Rd.next st0)).len
    exact ⟨hre,hli,by rw[aO.out];exact aP.out,by omega,fun _=>by simp;omega,by simp⟩
   ·rcases ap.out (Rd.next st0) aD.out.2 with hx|hx
    ·exact .inl hx
    ·exact .inr (by omega)
   rintro r w21 ⟨rfl,hL⟩
   obtain ⟨L,ao⟩:∃ x,x=Rd.loop1 Rd.rpar (Qr.variable_ (n+1)) (n+1) (Rd.next st0):=⟨_,rfl⟩
   rw[← ao] at hL
   have a4:=QA ao
   have HL:=QA hL.1
   clear Z hL ao
   have Z:=blk_cell (HL.out.cb (w.heap.size,Obj.cells #[(.pointer (some ⟨b,0,none⟩))] 165 (0,0)) QP) 0 (.pointer (some ⟨b,0,none⟩)) rfl
   go_wp2_with fail
   refine (rwant_any b g L.1 Rd.rpar w21 HL.out.rd).mono ?_
   rintro r w22 ⟨rfl,h22,f22⟩
   clear Z
   have V:=HL.out.step h22 f22
   obtain ⟨X,ai⟩:∃ x,x=Rd.want Rd.rpar L.1:=⟨_,rfl⟩
   rw[← ai] at V
   have HV:Hid (Qr.vars (n+1) st0=(X,L.2)):=by unfold Qr.vars;rw[if_pos HC.out.symm,← a4.out,← ai];exact QA rfl
   obtain ⟨v,am,ak⟩:=V.ex
   obtain ⟨va,vc,rfl⟩:=ak.form
   have ay:=ak.reads.to (Q:=fun x=>lo≤x) (Stands.sub w22 (fun x _ hp=>by
    rw[aA.out]
    rcases hp with hp|hp
    ·exact hp.1
    ·exact QR (LB_t6 _ _) (ak.lt x hp).1))
   obtain ⟨vl,aM⟩:∃ x,x=(L.2.map Qr.Vd.d).length:=⟨_,rfl⟩
   rw[← aM] at ay am
   have aj:Hid (Rd.Ok s X):=by have h1:=HOK0.out.trans (Qr.ok_vars (n+1) st0);rw[HV.out] at h1;exact QA h1
   have af:Hid (X.deep=s.deep):=by have h1:=Qr.vars_deep (n+1) st0;rw[HV.out] at h1;exact QA (h1.trans HDP0.out)
   have ac:Hid (FJ w b g t6 lo [(w.heap.size,Obj.cells #[(.pointer (some ⟨b,0,none⟩))] 165 (0,0)),(w.heap.size+1,Obj.cells #[.int .i64 0,.string ⟨#[]⟩,.slice none 0 0,.slice none 0 0,.slice none 0 0,.int .i64 0] 96 (0,0))] 96 [.int kd,.str [],.seq 9 (L.2.map Qr.Vd.d),.seq 3 [],.seq 7 [],.int pa] [.int .i64 kd,.string ⟨#[]⟩,.slice va vl vc,.slice none 0 0,.slice none 0 0,.int .i64 pa] X (w22)):=QA ⟨V.rd,V.cb,am,V.fr,V.lb,V.lg,fun p hp=>⟨(V.lx0 p hp).1,(W.out.lx p hp).2.1,(V.lx0 p hp).2⟩,W.out.l6,by have:=block_lt am;rw[aA.out];omega,.cons (.int _) (.cons (.str _) (.cons ay (.cons (.seq (cap:=0) .nil) (.cons (.seq (cap:=0) .nil) (.cons (.int _) .nil)))))⟩
   clear am ak ay aM V h22 f22 ai
   have Z:=blk_cell (ac.out.cb (w.heap.size,Obj.cells #[(.pointer (some ⟨b,0,none⟩))] 165 (0,0)) QP) 0 (.pointer (some ⟨b,0,none⟩)) rfl
   go_wp2_with fail
   refine (dirs_any b g n hnb X _ ac.out.rd (QR aj.out.len HN.out) (by rw[af.out];omega)).mono ?_
   rintro r w31x ⟨ra31,rc31,rfl,hrd,h31,f31⟩
   clear Z
   obtain ⟨D,P⟩:∃ x,x=Qr.dirs (n+1) X:=⟨_,rfl⟩
   rw[← P] at hrd h31 ⊢
   have S:=QA P
   have H:=ac.out.data hrd
   obtain ⟨F,O⟩:∃ x,x=D.2.length:=⟨_,rfl⟩
   rw[QX,← O] at H ⊢
   have J:Hid (Rd.Ok s D.1):=by rw[S.out];exact QA (aj.out.trans (Qr.ok_dirs (n+1) _))
   have I:Hid (D.1.deep=s.deep):=by rw[S.out,Qr.dirs_deep];exact af
   have K:Hid (FJ w b g t6 lo [(w.heap.size,Obj.cells #[(.pointer (some ⟨b,0,none⟩))] 165 (0,0)),(w.heap.size+1,Obj.cells #[.int .i64 0,.string ⟨#[]⟩,.slice none 0 0,.slice none 0 0,.slice none 0 0,.int .i64 0] 96 (0,0))] 96 [.int kd,.str [],.seq 9 (L.2.map Qr.Vd.d),.seq 3 [],.seq 7 [],.int pa] [.int .i64 kd,.string ⟨#[]⟩,.slice va vl vc,.slice none 0 0,.slice none 0 0,.int .i64 pa] D.1 (w31x)):=QA (ac.out.step h31 f31)
   have Y:=QA H
   clear hrd h31 f31 P H O
   have y3:=blk_cell K.out.b6 3 (.slice none 0 0) rfl
   have ah:=blk_free K.out.b6 3
   have M:Hid (FJ w b g t6 lo [(w.heap.size,Obj.cells #[(.pointer (some ⟨b,0,none⟩))] 165 (0,0)),(w.heap.size+1,Obj.cells #[.int .i64 0,.string ⟨#[]⟩,.slice none 0 0,.slice none 0 0,.slice none 0 0,.int .i64 0] 96 (0,0))] 96 [.int kd,.str [],.seq 9 (L.2.map Qr.Vd.d),.seq 3 (D.2.map Qr.Dir.d),.seq 7 [],.int pa] [.int .i64 kd,.string ⟨#[]⟩,.slice va vl vc,.slice ra31 F rc31,.slice none 0 0,.int .i64 pa] D.1 ((w31x).setCell ⟨t6,3,none⟩ (.slice ra31 F rc31))):=QA (K.out.put 3 (Y.out) rfl)
   have Z:=blk_cell (K.out.cb (w.heap.size,Obj.cells #[(.pointer (some ⟨b,0,none⟩))] 165 (0,0)) QP) 0 (.pointer (some ⟨b,0,none⟩)) rfl
   go_wp2_with fail
   refine (sels_any b g n hnb D.1 _ M.out.rd (QR J.out.len HN.out) (by rw[I.out];omega)).mono ?_
   rintro r w33x ⟨ra33,rc33,rfl,hrd,h33,f33⟩
   clear Z
   obtain ⟨G,N⟩:∃ x,x=Qr.sels (n+1) (n+1) D.1:=⟨_,rfl⟩
   rw[← N] at hrd h33 ⊢
   have U:=QA N
   have H:=M.out.data hrd
   obtain ⟨R,O⟩:∃ x,x=G.2.length:=⟨_,rfl⟩
   rw[QX,← O] at H ⊢
   have an:Hid (Rd.Ok s G.1):=by rw[U.out];exact QA (J.out.trans (Qr.ok_selsOf _ (Qr.ok_sel (n+1) (n+1)) _))
   have al:Hid (G.1.deep=s.deep):=by rw[U.out,show (Qr.sels (n+1) (n+1) _).1.deep=_ from Qr.selsOf_deep _ (Qr.sel_deep (n+1) (n+1)) _];exact I
   have o:Hid (FJ w b g t6 lo [(w.heap.size,Obj.cells #[(.pointer (some ⟨b,0,none⟩))] 165 (0,0)),(w.heap.size+1,Obj.cells #[.int .i64 0,.string ⟨#[]⟩,.slice none 0 0,.slice none 0 0,.slice none 0 0,.int .i64 0] 96 (0,0))] 96 [.int kd,.str [],.seq 9 (L.2.map Qr.Vd.d),.seq 3 (D.2.map Qr.Dir.d),.seq 7 [],.int pa] [.int .i64 kd,.string ⟨#[]⟩,.slice va vl vc,.slice ra31 F rc31,.slice none 0 0,.int .i64 pa] G.1 (w33x)):=QA (M.out.step h33 f33)
   have aa:=QA H
   clear hrd h33 f33 N H O
   have y4:=blk_cell o.out.b6 4 (.slice none 0 0) rfl
   have a0:=blk_free o.out.b6 4
   have ag:Hid (FJ w b g t6 lo [(w.heap.size,Obj.cells #[(.pointer (some ⟨b,0,none⟩))] 165 (0,0)),(w.heap.size+1,Obj.cells #[.int .i64 0,.string ⟨#[]⟩,.slice none 0 0,.slice none 0 0,.slice none 0 0,.int .i64 0] 96 (0,0))] 96 [.int kd,.str [],.seq 9 (L.2.map Qr.Vd.d),.seq 3 (D.2.map Qr.Dir.d),.seq 7 (G.2.map Qr.Sel.d),.int pa] [.int .i64 kd,.string ⟨#[]⟩,.slice va vl vc,.slice ra31 F rc31,.slice ra33 R rc33,.int .i64 pa] G.1 ((w33x).setCell ⟨t6,4,none⟩ (.slice ra33 R rc33))):=QA (o.out.put 4 (aa.out) rfl)
   have HR:Hid (Qr.op (n+1) s=(G.1,⟨kd,([]:List UInt8),L.2,D.2,G.2,pa⟩)):=by
    refine QA ?_
    rw[HOP.out]
    unfold Qr.opRest
    dsimp only
    rw[aJ.out,HV.out,← S.out,← U.out]
   clear y3 ah
   have y0:=blk_cell o.out.b6 0 (.int .i64 kd) rfl
   have a9:=blk_free o.out.b6 0
   have y1:=blk_cell o.out.b6 1 (.string ⟨#[]⟩) rfl
   have aG:=blk_free o.out.b6 1
   have y2:=blk_cell o.out.b6 2 (.slice va vl vc) rfl
   have a3:=blk_free o.out.b6 2
   have y3:=blk_cell o.out.b6 3 (.slice ra31 F rc31) rfl
   have ah:=blk_free o.out.b6 3
   have y5:=blk_cell o.out.b6 5 (.int .i64 pa) rfl
   have bd:=blk_free o.out.b6 5
   have z0:=blk_cell (o.out.cb (w.heap.size+1,Obj.cells #[.int .i64 0,.string ⟨#[]⟩,.slice none 0 0,.slice none 0 0,.slice none 0 0,.int .i64 0] 96 (0,0)) (QU _ QP)) 0 (.int .i64 0) rfl
   have a2:=blk_free (o.out.cb (w.heap.size+1,Obj.cells #[.int .i64 0,.string ⟨#[]⟩,.slice none 0 0,.slice none 0 0,.slice none 0 0,.int .i64 0] 96 (0,0)) (QU _ QP)) 0
   have z1:=blk_cell (o.out.cb (w.heap.size+1,Obj.cells #[.int .i64 0,.string ⟨#[]⟩,.slice none 0 0,.slice none 0 0,.slice none 0 0,.int .i64 0] 96 (0,0)) (QU _ QP)) 1 (.string ⟨#[]⟩) rfl
   have a7:=blk_free (o.out.cb (w.heap.size+1,Obj.cells #[.int .i64 0,.string ⟨#[]⟩,.slice none 0 0,.slice none 0 0,.slice none 0 0,.int .i64 0] 96 (0,0)) (QU _ QP)) 1
   have z2:=blk_cell (o.out.cb (w.heap.size+1,Obj.cells #[.int .i64 0,.string ⟨#[]⟩,.slice none 0 0,.slice none 0 0,.slice none 0 0,.int .i64 0] 96 (0,0)) (QU _ QP)) 2 (.slice none 0 0) rfl
   have a1:=blk_free (o.out.cb (w.heap.size+1,Obj.cells #[.int .i64 0,.string ⟨#[]⟩,.slice none 0 0,.slice none 0 0,.slice none 0 0,.int .i64 0] 96 (0,0)) (QU _ QP)) 2
   have z3:=blk_cell (o.out.cb (w.heap.size+1,Obj.cells #[.int .i64 0,.string ⟨#[]⟩,.slice none 0 0,.slice none 0 0,.slice none 0 0,.int .i64 0] 96 (0,0)) (QU _ QP)) 3 (.slice none 0 0) rfl
   have aY:=blk_free (o.out.cb (w.heap.size+1,Obj.cells #[.int .i64 0,.string ⟨#[]⟩,.slice none 0 0,.slice none 0 0,.slice none 0 0,.int .i64 0] 96 (0,0)) (QU _ QP)) 3
   have z4:=blk_cell (o.out.cb (w.heap.size+1,Obj.cells #[.int .i64 0,.string ⟨#[]⟩,.slice none 0 0,.slice none 0 0,.slice none 0 0,.int .i64 0] 96 (0,0)) (QU _ QP)) 4 (.slice none 0 0) rfl
   have a6:=blk_free (o.out.cb (w.heap.size+1,Obj.cells #[.int .i64 0,.string ⟨#[]⟩,.slice none 0 0,.slice none 0 0,.slice none 0 0,.int .i64 0] 96 (0,0)) (QU _ QP)) 4
   have z5:=blk_cell (o.out.cb (w.heap.size+1,Obj.cells #[.int .i64 0,.string ⟨#[]⟩,.slice none 0 0,.slice none 0 0,.slice none 0 0,.int .i64 0] 96 (0,0)) (QU _ QP)) 5 (.int .i64 0) rfl
   have aZ:=blk_free (o.out.cb (w.heap.size+1,Obj.cells #[.int .i64 0,.string ⟨#[]⟩,.slice none 0 0,.slice none 0 0,.slice none 0 0,.int .i64 0] 96 (0,0)) (QU _ QP)) 5
   have T:=ag.out.fin (r:=w.heap.size+1) (QU _ QP)
   simp only[putCells,QY,Nat.zero_add] at T
   have ar:=QA T
   clear T
   go_wp2_with fail
   refine bodyPost_ret (v:=.agg #[.int .i64 kd,.string ⟨#[]⟩,.slice va vl vc,.slice ra31 F rc31,.slice ra33 R rc33,.int .i64 pa]) (by simp[results,Tryz.results113,go_sem,z0,z1,z2,z3,z4,z5,n3,n4]) rfl ?_
   rw[HR.out]
   exact ⟨_,rfl,ar.out⟩
 ·have Z:=blk_cell (aB.out.cb (w.heap.size,Obj.cells #[(.pointer (some ⟨b,0,none⟩))] 165 (0,0)) QP) 0 (.pointer (some ⟨b,0,none⟩)) rfl
  go_wp2_with fail
  refine (rname_any b g st0 _ aB.out.rd).mono ?_
  rintro r w11x ⟨rfl,h11,f11⟩
  clear Z
  obtain ⟨E,aE⟩:∃ x,x=(Rd.name st0).1:=⟨_,rfl⟩
  rw[← aE] at h11
  have aw:=QA aE
  have ad:Hid (Rd.Ok s E):=by rw[aw.out];exact QA (HOK0.out.trans (Rd.ok_name _))
  have ae:Hid (E.deep=s.deep):=by rw[aw.out,Rd.name_deep];exact HDP0
  obtain ⟨A,av⟩:∃ x,x=(Rd.name st0).2:=⟨_,rfl⟩
  rw[← av]
  have ba:=QA av
  clear av
  have az:Hid (FJ w b g t6 lo [(w.heap.size,Obj.cells #[(.pointer (some ⟨b,0,none⟩))] 165 (0,0)),(w.heap.size+1,Obj.cells #[.int .i64 0,.string ⟨#[]⟩,.slice none 0 0,.slice none 0 0,.slice none 0 0,.int .i64 0] 96 (0,0))] 96 [.int kd,.str [],.seq 9 [],.seq 3 [],.seq 7 [],.int pa] [.int .i64 kd,.string ⟨#[]⟩,.slice none 0 0,.slice none 0 0,.slice none 0 0,.int .i64 pa] E (w11x)):=QA (aB.out.step h11 f11)
  clear h11 f11 aE
  have y1:=blk_cell az.out.b6 1 (.string ⟨#[]⟩) rfl
  have aG:=blk_free az.out.b6 1
  have aQ:Hid (FJ w b g t6 lo [(w.heap.size,Obj.cells #[(.pointer (some ⟨b,0,none⟩))] 165 (0,0)),(w.heap.size+1,Obj.cells #[.int .i64 0,.string ⟨#[]⟩,.slice none 0 0,.slice none 0 0,.slice none 0 0,.int .i64 0] 96 (0,0))] 96 [.int kd,.str A,.seq 9 [],.seq 3 [],.seq 7 [],.int pa] [.int .i64 kd,.string ⟨A.toArray⟩,.slice none 0 0,.slice none 0 0,.slice none 0 0,.int .i64 pa] E ((w11x).setCell ⟨t6,1,none⟩ (.string ⟨A.toArray⟩))):=QA (az.out.put 1 (.str A) rfl)
  have Z:=blk_cell (az.out.cb (w.heap.size,Obj.cells #[(.pointer (some ⟨b,0,none⟩))] 165 (0,0)) QP) 0 (.pointer (some ⟨b,0,none⟩)) rfl
  have aJ:Hid (Qr.nameIf st0=(E,A)):=by unfold Qr.nameIf;rw[if_pos (by rw[isW_nil,← HB.out])];exact QA (Prod.ext aw.out.symm ba.out.symm)
  go_wp2_with fail
  refine (rtake_any b g E Rd.lpar _ aQ.out.rd).mono ?_
  rintro r w20 ⟨rfl,h20,f20⟩
  clear Z
  clear y1 aG
  have W:Hid (FJ w b g t6 lo [(w.heap.size,Obj.cells #[(.pointer (some ⟨b,0,none⟩))] 165 (0,0)),(w.heap.size+1,Obj.cells #[.int .i64 0,.string ⟨#[]⟩,.slice none 0 0,.slice none 0 0,.slice none 0 0,.int .i64 0] 96 (0,0))] 96 [.int kd,.str A,.seq 9 [],.seq 3 [],.seq 7 [],.int pa] [.int .i64 kd,.string ⟨A.toArray⟩,.slice none 0 0,.slice none 0 0,.slice none 0 0,.int .i64 pa] (Rd.take Rd.lpar E) (w20)):=QA (aQ.out.step h20 f20)
  obtain ⟨C,hC⟩:∃ B,B=Rd.isS E Rd.lpar:=⟨_,rfl⟩
  have HC:=QA hC
  rw[← hC]
  clear hC h20 f20
  cases C
  ·have HT:Hid (Rd.take Rd.lpar E=E):=by unfold Rd.take;rw[if_neg (by rw[← HC.out];simp)];exact QA rfl
   have ab:Hid (FJ w b g t6 lo [(w.heap.size,Obj.cells #[(.pointer (some ⟨b,0,none⟩))] 165 (0,0)),(w.heap.size+1,Obj.cells #[.int .i64 0,.string ⟨#[]⟩,.slice none 0 0,.slice none 0 0,.slice none 0 0,.int .i64 0] 96 (0,0))] 96 [.int kd,.str A,.seq 9 [],.seq 3 [],.seq 7 [],.int pa] [.int .i64 kd,.string ⟨A.toArray⟩,.slice none 0 0,.slice none 0 0,.slice none 0 0,.int .i64 pa] E (w20)):=by rw[HT.out] at W;exact W
   have HV:Hid (Qr.vars (n+1) E=(E,[])):=by unfold Qr.vars;rw[if_neg (by rw[← HC.out];simp)];exact QA rfl
   have Z:=blk_cell (ab.out.cb (w.heap.size,Obj.cells #[(.pointer (some ⟨b,0,none⟩))] 165 (0,0)) QP) 0 (.pointer (some ⟨b,0,none⟩)) rfl
   go_wp2_with fail
   refine (dirs_any b g n hnb E _ ab.out.rd (QR ad.out.len HN.out) (by rw[ae.out];omega)).mono ?_
   rintro r w31x ⟨ra31,rc31,rfl,hrd,h31,f31⟩
   clear Z
   obtain ⟨D,P⟩:∃ x,x=Qr.dirs (n+1) E:=⟨_,rfl⟩
   rw[← P] at hrd h31 ⊢
   have S:=QA P
   have H:=ab.out.data hrd
   obtain ⟨F,O⟩:∃ x,x=D.2.length:=⟨_,rfl⟩
   rw[QX,← O] at H ⊢
   have J:Hid (Rd.Ok s D.1):=by rw[S.out];exact QA (ad.out.trans (Qr.ok_dirs (n+1) _))
   have I:Hid (D.1.deep=s.deep):=by rw[S.out,Qr.dirs_deep];exact ae
   have K:Hid (FJ w b g t6 lo [(w.heap.size,Obj.cells #[(.pointer (some ⟨b,0,none⟩))] 165 (0,0)),(w.heap.size+1,Obj.cells #[.int .i64 0,.string ⟨#[]⟩,.slice none 0 0,.slice none 0 0,.slice none 0 0,.int .i64 0] 96 (0,0))] 96 [.int kd,.str A,.seq 9 [],.seq 3 [],.seq 7 [],.int pa] [.int .i64 kd,.string ⟨A.toArray⟩,.slice none 0 0,.slice none 0 0,.slice none 0 0,.int .i64 pa] D.1 (w31x)):=QA (ab.out.step h31 f31)
   have Y:=QA H
   clear hrd h31 f31 P H O
   have y3:=blk_cell K.out.b6 3 (.slice none 0 0) rfl
   have ah:=blk_free K.out.b6 3
   have M:Hid (FJ w b g t6 lo [(w.heap.size,Obj.cells #[(.pointer (some ⟨b,0,none⟩))] 165 (0,0)),(w.heap.size+1,Obj.cells #[.int .i64 0,.string ⟨#[]⟩,.slice none 0 0,.slice none 0 0,.slice none 0 0,.int .i64 0] 96 (0,0))] 96 [.int kd,.str A,.seq 9 [],.seq 3 (D.2.map Qr.Dir.d),.seq 7 [],.int pa] [.int .i64 kd,.string ⟨A.toArray⟩,.slice none 0 0,.slice ra31 F rc31,.slice none 0 0,.int .i64 pa] D.1 ((w31x).setCell ⟨t6,3,none⟩ (.slice ra31 F rc31))):=QA (K.out.put 3 (Y.out) rfl)
   have Z:=blk_cell (K.out.cb (w.heap.size,Obj.cells #[(.pointer (some ⟨b,0,none⟩))] 165 (0,0)) QP) 0 (.pointer (some ⟨b,0,none⟩)) rfl
   go_wp2_with fail
   refine (sels_any b g n hnb D.1 _ M.out.rd (QR J.out.len HN.out) (by rw[I.out];omega)).mono ?_
   rintro r w33x ⟨ra33,rc33,rfl,hrd,h33,f33⟩
   clear Z
   obtain ⟨G,N⟩:∃ x,x=Qr.sels (n+1) (n+1) D.1:=⟨_,rfl⟩
   rw[← N] at hrd h33 ⊢
   have U:=QA N
   have H:=M.out.data hrd
   obtain ⟨R,O⟩:∃ x,x=G.2.length:=⟨_,rfl⟩
   rw[QX,← O] at H ⊢
   have an:Hid (Rd.Ok s G.1):=by rw[U.out];exact QA (J.out.trans (Qr.ok_selsOf _ (Qr.ok_sel (n+1) (n+1)) _))
   have al:Hid (G.1.deep=s.deep):=by rw[U.out,show (Qr.sels (n+1) (n+1) _).1.deep=_ from Qr.selsOf_deep _ (Qr.sel_deep (n+1) (n+1)) _];exact I
   have o:Hid (FJ w b g t6 lo [(w.heap.size,Obj.cells #[(.pointer (some ⟨b,0,none⟩))] 165 (0,0)),(w.heap.size+1,Obj.cells #[.int .i64 0,.string ⟨#[]⟩,.slice none 0 0,.slice none 0 0,.slice none 0 0,.int .i64 0] 96 (0,0))] 96 [.int kd,.str A,.seq 9 [],.seq 3 (D.2.map Qr.Dir.d),.seq 7 [],.int pa] [.int .i64 kd,.string ⟨A.toArray⟩,.slice none 0 0,.slice ra31 F rc31,.slice none 0 0,.int .i64 pa] G.1 (w33x)):=QA (M.out.step h33 f33)
   have aa:=QA H
   clear hrd h33 f33 N H O
   have y4:=blk_cell o.out.b6 4 (.slice none 0 0) rfl
   have a0:=blk_free o.out.b6 4
   have ag:Hid (FJ w b g t6 lo [(w.heap.size,Obj.cells #[(.pointer (some ⟨b,0,none⟩))] 165 (0,0)),(w.heap.size+1,Obj.cells #[.int .i64 0,.string ⟨#[]⟩,.slice none 0 0,.slice none 0 0,.slice none 0 0,.int .i64 0] 96 (0,0))] 96 [.int kd,.str A,.seq 9 [],.seq 3 (D.2.map Qr.Dir.d),.seq 7 (G.2.map Qr.Sel.d),.int pa] [.int .i64 kd,.string ⟨A.toArray⟩,.slice none 0 0,.slice ra31 F rc31,.slice ra33 R rc33,.int .i64 pa] G.1 ((w33x).setCell ⟨t6,4,none⟩ (.slice ra33 R rc33))):=QA (o.out.put 4 (aa.out) rfl)
   have HR:Hid (Qr.op (n+1) s=(G.1,⟨kd,A,[],D.2,G.2,pa⟩)):=by
    refine QA ?_
    rw[HOP.out]
    unfold Qr.opRest
    dsimp only
    rw[aJ.out,HV.out,← S.out,← U.out]
   clear y3 ah
   have y0:=blk_cell o.out.b6 0 (.int .i64 kd) rfl
   have a9:=blk_free o.out.b6 0
   have y1:=blk_cell o.out.b6 1 (.string ⟨A.toArray⟩) rfl
   have aG:=blk_free o.out.b6 1
   have y2:=blk_cell o.out.b6 2 (.slice none 0 0) rfl
   have a3:=blk_free o.out.b6 2
   have y3:=blk_cell o.out.b6 3 (.slice ra31 F rc31) rfl
   have ah:=blk_free o.out.b6 3
   have y5:=blk_cell o.out.b6 5 (.int .i64 pa) rfl
   have bd:=blk_free o.out.b6 5
   have z0:=blk_cell (o.out.cb (w.heap.size+1,Obj.cells #[.int .i64 0,.string ⟨#[]⟩,.slice none 0 0,.slice none 0 0,.slice none 0 0,.int .i64 0] 96 (0,0)) (QU _ QP)) 0 (.int .i64 0) rfl
   have a2:=blk_free (o.out.cb (w.heap.size+1,Obj.cells #[.int .i64 0,.string ⟨#[]⟩,.slice none 0 0,.slice none 0 0,.slice none 0 0,.int .i64 0] 96 (0,0)) (QU _ QP)) 0
   have z1:=blk_cell (o.out.cb (w.heap.size+1,Obj.cells #[.int .i64 0,.string ⟨#[]⟩,.slice none 0 0,.slice none 0 0,.slice none 0 0,.int .i64 0] 96 (0,0)) (QU _ QP)) 1 (.string ⟨#[]⟩) rfl
   have a7:=blk_free (o.out.cb (w.heap.size+1,Obj.cells #[.int .i64 0,.string ⟨#[]⟩,.slice none 0 0,.slice none 0 0,.slice none 0 0,.int .i64 0] 96 (0,0)) (QU _ QP)) 1
   have z2:=blk_cell (o.out.cb (w.heap.size+1,Obj.cells #[.int .i64 0,.string ⟨#[]⟩,.slice none 0 0,.slice none 0 0,.slice none 0 0,.int .i64 0] 96 (0,0)) (QU _ QP)) 2 (.slice none 0 0) rfl
   have a1:=blk_free (o.out.cb (w.heap.size+1,Obj.cells #[.int .i64 0,.string ⟨#[]⟩,.slice none 0 0,.slice none 0 0,.slice none 0 0,.int .i64 0] 96 (0,0)) (QU _ QP)) 2
   have z3:=blk_cell (o.out.cb (w.heap.size+1,Obj.cells #[.int .i64 0,.string ⟨#[]⟩,.slice none 0 0,.slice none 0 0,.slice none 0 0,.int .i64 0] 96 (0,0)) (QU _ QP)) 3 (.slice none 0 0) rfl
   have aY:=blk_free (o.out.cb (w.heap.size+1,Obj.cells #[.int .i64 0,.string ⟨#[]⟩,.slice none 0 0,.slice none 0 0,.slice none 0 0,.int .i64 0] 96 (0,0)) (QU _ QP)) 3
   have z4:=blk_cell (o.out.cb (w.heap.size+1,Obj.cells #[.int .i64 0,.string ⟨#[]⟩,.slice none 0 0,.slice none 0 0,.slice none 0 0,.int .i64 0] 96 (0,0)) (QU _ QP)) 4 (.slice none 0 0) rfl
   have a6:=blk_free (o.out.cb (w.heap.size+1,Obj.cells #[.int .i64 0,.string ⟨#[]⟩,.slice none 0 0,.slice none 0 0,.slice none 0 0,.int .i64 0] 96 (0,0)) (QU _ QP)) 4
   have z5:=blk_cell (o.out.cb (w.heap.size+1,Obj.cells #[.int .i64 0,.string ⟨#[]⟩,.slice none 0 0,.slice none 0 0,.slice none 0 0,.int .i64 0] 96 (0,0)) (QU _ QP)) 5 (.int .i64 0) rfl
   have aZ:=blk_free (o.out.cb (w.heap.size+1,Obj.cells #[.int .i64 0,.string ⟨#[]⟩,.slice none 0 0,.slice none 0 0,.slice none 0 0,.int .i64 0] 96 (0,0)) (QU _ QP)) 5
   have T:=ag.out.fin (r:=w.heap.size+1) (QU _ QP)
   simp only[putCells,QY,Nat.zero_add] at T
   have ar:=QA T
   clear T
   go_wp2_with fail
   refine bodyPost_ret (v:=.agg #[.int .i64 kd,.string ⟨A.toArray⟩,.slice none 0 0,.slice ra31 F rc31,.slice ra33 R rc33,.int .i64 pa]) (by simp[results,Tryz.results113,go_sem,z0,z1,z2,z3,z4,z5,n3,n4]) rfl ?_
   rw[HR.out]
   exact ⟨_,rfl,ar.out⟩
  ·have HT:Hid (Rd.take Rd.lpar E=Rd.next E):=by unfold Rd.take;rw[if_pos HC.out.symm];exact QA rfl
   have aI:Hid (LI w b g t6 [(w.heap.size,Obj.cells #[(.pointer (some ⟨b,0,none⟩))] 165 (0,0)),(w.heap.size+1,Obj.cells #[.int .i64 0,.string ⟨#[]⟩,.slice none 0 0,.slice none 0 0,.slice none 0 0,.int .i64 0] 96 (0,0))] 96 (mkOpV kd ⟨A.toArray⟩ pa) 100 9 (Rd.next E) [] w20):=by
    rw[HT.out,aA.out] at W
    exact QA (W.out.li rfl)
   have aD:=QA (Rd.next_sign HC.out.symm)
   have aP:Hid ((Rd.next E).deep=s.deep):=by rw[Rd.next_deep,ae.out];exact QA rfl
   have aH:Hid (∀ (s1:Rd.St) (out:List Qr.Vd) (w1:World),LI w b g t6 [(w.heap.size,Obj.cells #[(.pointer (some ⟨b,0,none⟩))] 165 (0,0)),(w.heap.size+1,Obj.cells #[.int .i64 0,.string ⟨#[]⟩,.slice none 0 0,.slice none 0 0,.slice none 0 0,.int .i64 0] 96 (0,0))] 96 (mkOpV kd ⟨A.toArray⟩ pa) 100 9 s1 (out.map Qr.Vd.d) w1→s1.rest.length≤n→s1.deep=s.deep→out.length≤1000000 →
     Calls Tryz.prog 176 #[.pointer (some ⟨t6,0,none⟩),.pointer (some ⟨w.heap.size,0,none⟩)] w1 fun r w'=>r=.returned (.tuple #[])∧LI w b g t6 [(w.heap.size,Obj.cells #[(.pointer (some ⟨b,0,none⟩))] 165 (0,0)),(w.heap.size+1,Obj.cells #[.int .i64 0,.string ⟨#[]⟩,.slice none 0 0,.slice none 0 0,.slice none 0 0,.int .i64 0] 96 (0,0))] 96 (mkOpV kd ⟨A.toArray⟩ pa) 100 9 (Qr.variable_ (n+1) s1).1 ((out++[(Qr.variable_ (n+1) s1).2]).map Qr.Vd.d) w') :=
    QA fun s1 out w1 hl hr hdp ho=>by
     rw[List.map_append]
     exact opC_any w b g t6 [(w.heap.size,Obj.cells #[(.pointer (some ⟨b,0,none⟩))] 165 (0,0)),(w.heap.size+1,Obj.cells #[.int .i64 0,.string ⟨#[]⟩,.slice none 0 0,.slice none 0 0,.slice none 0 0,.int .i64 0] 96 (0,0))] w.heap.size kd ⟨A.toArray⟩ pa (n+1) QP s1 (out.map Qr.Vd.d) w1 (fun w2 hr2=>variable_any b g n hnb s1 w2 hr2 (.inr hr) (by rw[hdp];omega)) hl (by rw[QX];exact ho)
   have aO:=QA (Qr.variable_deep (n+1))
   have aF:=QA (Qr.ok_variable (n+1))
   have ap:=QA (Qr.variable_goes (n+1))
   have bk:(Rd.next E).rest.length+1≤n:=by have h1:=aD.out.1;have h2:=ad.out.len;have h3:=HN.out;omega
   have Z:=blk_cell (aI.out.cb (w.heap.size,Obj.cells #[(.pointer (some ⟨b,0,none⟩))] 165 (0,0)) QP) 0 (.pointer (some ⟨b,0,none⟩)) rfl
   go_wp2_with fail
   refine (some1_any Rd.rpar (Qr.variable_ (n+1)) (FLI w b g t6 [(w.heap.size,Obj.cells #[(.pointer (some ⟨b,0,none⟩))] 165 (0,0)),(w.heap.size+1,Obj.cells #[.int .i64 0,.string ⟨#[]⟩,.slice none 0 0,.slice none 0 0,.slice none 0 0,.int .i64 0] 96 (0,0))] 96 (mkOpV kd ⟨A.toArray⟩ pa) 100 9 Qr.Vd.d n s.deep) b g _ _ (enters_OC _) (fun s out w' h=>h.1.rd) (fun s out w1 w2 h hb=>⟨h.1.below hb,h.2⟩) (fun s1 out w2 h he=>?_) (fun s1 out w2 h he _=>ap.out s1 he) (n+1) (Rd.next E) w20 ?_ ?_).mono ?_
   ·refine (aH.out s1 out w2 h.1 h.2.2.1 h.2.1 (by have:=h.2.2.2.2;omega)).mono ?_
    rintro r w3 ⟨hre,hli⟩
    refine ⟨hre,hli,by rw[aO.out];exact h.2.1,QR (aF.out s1).len h.2.2.1,fun he2=>?_,by have:=h.2.2.2.1 he;rw[QT];simp;omega⟩
    rcases ap.out s1 he with hx|hx
    ·exact absurd he2 hx
    ·have:=h.2.2.2.1 he
     rw[QT]
     simp
     omega
   ·refine (aH.out (Rd.next E) [] w20 aI.out (by omega) aP.out (by simp)).mono ?_
    rintro r w3 ⟨hre,hli⟩
    have be:=(aF.out (Rd.next E)).len
    exact ⟨hre,hli,by rw[aO.out];exact aP.out,by omega,fun _=>by simp;omega,by simp⟩
   ·rcases ap.out (Rd.next E) aD.out.2 with hx|hx
    ·exact .inl hx
    ·exact .inr (by omega)
   rintro r w21 ⟨rfl,hL⟩
   obtain ⟨L,ao⟩:∃ x,x=Rd.loop1 Rd.rpar (Qr.variable_ (n+1)) (n+1) (Rd.next E):=⟨_,rfl⟩
   rw[← ao] at hL
   have a4:=QA ao
   have HL:=QA hL.1
   clear Z hL ao
   have Z:=blk_cell (HL.out.cb (w.heap.size,Obj.cells #[(.pointer (some ⟨b,0,none⟩))] 165 (0,0)) QP) 0 (.pointer (some ⟨b,0,none⟩)) rfl
   go_wp2_with fail
   refine (rwant_any b g L.1 Rd.rpar w21 HL.out.rd).mono ?_
   rintro r w22 ⟨rfl,h22,f22⟩
   clear Z
   have V:=HL.out.step h22 f22
   obtain ⟨X,ai⟩:∃ x,x=Rd.want Rd.rpar L.1:=⟨_,rfl⟩
   rw[← ai] at V
   have HV:Hid (Qr.vars (n+1) E=(X,L.2)):=by unfold Qr.vars;rw[if_pos HC.out.symm,← a4.out,← ai];exact QA rfl
   obtain ⟨v,am,ak⟩:=V.ex
   obtain ⟨va,vc,rfl⟩:=ak.form
   have ay:=ak.reads.to (Q:=fun x=>lo≤x) (Stands.sub w22 (fun x _ hp=>by
    rw[aA.out]
    rcases hp with hp|hp
    ·exact hp.1
    ·exact QR (LB_t6 _ _) (ak.lt x hp).1))
   obtain ⟨vl,aM⟩:∃ x,x=(L.2.map Qr.Vd.d).length:=⟨_,rfl⟩
   rw[← aM] at ay am
   have aj:Hid (Rd.Ok s X):=by have h1:=ad.out.trans (Qr.ok_vars (n+1) E);rw[HV.out] at h1;exact QA h1
   have af:Hid (X.deep=s.deep):=by have h1:=Qr.vars_deep (n+1) E;rw[HV.out] at h1;exact QA (h1.trans ae.out)
   have ac:Hid (FJ w b g t6 lo [(w.heap.size,Obj.cells #[(.pointer (some ⟨b,0,none⟩))] 165 (0,0)),(w.heap.size+1,Obj.cells #[.int .i64 0,.string ⟨#[]⟩,.slice none 0 0,.slice none 0 0,.slice none 0 0,.int .i64 0] 96 (0,0))] 96 [.int kd,.str A,.seq 9 (L.2.map Qr.Vd.d),.seq 3 [],.seq 7 [],.int pa] [.int .i64 kd,.string ⟨A.toArray⟩,.slice va vl vc,.slice none 0 0,.slice none 0 0,.int .i64 pa] X (w22)):=QA ⟨V.rd,V.cb,am,V.fr,V.lb,V.lg,fun p hp=>⟨(V.lx0 p hp).1,(W.out.lx p hp).2.1,(V.lx0 p hp).2⟩,W.out.l6,by have:=block_lt am;rw[aA.out];omega,.cons (.int _) (.cons (.str _) (.cons ay (.cons (.seq (cap:=0) .nil) (.cons (.seq (cap:=0) .nil) (.cons (.int _) .nil)))))⟩
   clear am ak ay aM V h22 f22 ai
   have Z:=blk_cell (ac.out.cb (w.heap.size,Obj.cells #[(.pointer (some ⟨b,0,none⟩))] 165 (0,0)) QP) 0 (.pointer (some ⟨b,0,none⟩)) rfl
   go_wp2_with fail
   refine (dirs_any b g n hnb X _ ac.out.rd (QR aj.out.len HN.out) (by rw[af.out];omega)).mono ?_
   rintro r w31x ⟨ra31,rc31,rfl,hrd,h31,f31⟩
   clear Z
   obtain ⟨D,P⟩:∃ x,x=Qr.dirs (n+1) X:=⟨_,rfl⟩
   rw[← P] at hrd h31 ⊢
   have S:=QA P
   have H:=ac.out.data hrd
   obtain ⟨F,O⟩:∃ x,x=D.2.length:=⟨_,rfl⟩
   rw[QX,← O] at H ⊢
   have J:Hid (Rd.Ok s D.1):=by rw[S.out];exact QA (aj.out.trans (Qr.ok_dirs (n+1) _))
   have I:Hid (D.1.deep=s.deep):=by rw[S.out,Qr.dirs_deep];exact af
   have K:Hid (FJ w b g t6 lo [(w.heap.size,Obj.cells #[(.pointer (some ⟨b,0,none⟩))] 165 (0,0)),(w.heap.size+1,Obj.cells #[.int .i64 0,.string ⟨#[]⟩,.slice none 0 0,.slice none 0 0,.slice none 0 0,.int .i64 0] 96 (0,0))] 96 [.int kd,.str A,.seq 9 (L.2.map Qr.Vd.d),.seq 3 [],.seq 7 [],.int pa] [.int .i64 kd,.string ⟨A.toArray⟩,.slice va vl vc,.slice none 0 0,.slice none 0 0,.int .i64 pa] D.1 (w31x)):=QA (ac.out.step h31 f31)
   have Y:=QA H
   clear hrd h31 f31 P H O
   have y3:=blk_cell K.out.b6 3 (.slice none 0 0) rfl
   have ah:=blk_free K.out.b6 3
   have M:Hid (FJ w b g t6 lo [(w.heap.size,Obj.cells #[(.pointer (some ⟨b,0,none⟩))] 165 (0,0)),(w.heap.size+1,Obj.cells #[.int .i64 0,.string ⟨#[]⟩,.slice none 0 0,.slice none 0 0,.slice none 0 0,.int .i64 0] 96 (0,0))] 96 [.int kd,.str A,.seq 9 (L.2.map Qr.Vd.d),.seq 3 (D.2.map Qr.Dir.d),.seq 7 [],.int pa] [.int .i64 kd,.string ⟨A.toArray⟩,.slice va vl vc,.slice ra31 F rc31,.slice none 0 0,.int .i64 pa] D.1 ((w31x).setCell ⟨t6,3,none⟩ (.slice ra31 F rc31))):=QA (K.out.put 3 (Y.out) rfl)
   have Z:=blk_cell (K.out.cb (w.heap.size,Obj.cells #[(.pointer (some ⟨b,0,none⟩))] 165 (0,0)) QP) 0 (.pointer (some ⟨b,0,none⟩)) rfl
   go_wp2_with fail
   refine (sels_any b g n hnb D.1 _ M.out.rd (QR J.out.len HN.out) (by rw[I.out];omega)).mono ?_
   rintro r w33x ⟨ra33,rc33,rfl,hrd,h33,f33⟩
   clear Z
   obtain ⟨G,N⟩:∃ x,x=Qr.sels (n+1) (n+1) D.1:=⟨_,rfl⟩
   rw[← N] at hrd h33 ⊢
   have U:=QA N
   have H:=M.out.data hrd
   obtain ⟨R,O⟩:∃ x,x=G.2.length:=⟨_,rfl⟩
   rw[QX,← O] at H ⊢
   have an:Hid (Rd.Ok s G.1):=by rw[U.out];exact QA (J.out.trans (Qr.ok_selsOf _ (Qr.ok_sel (n+1) (n+1)) _))
   have al:Hid (G.1.deep=s.deep):=by rw[U.out,show (Qr.sels (n+1) (n+1) _).1.deep=_ from Qr.selsOf_deep _ (Qr.sel_deep (n+1) (n+1)) _];exact I
   have o:Hid (FJ w b g t6 lo [(w.heap.size,Obj.cells #[(.pointer (some ⟨b,0,none⟩))] 165 (0,0)),(w.heap.size+1,Obj.cells #[.int .i64 0,.string ⟨#[]⟩,.slice none 0 0,.slice none 0 0,.slice none 0 0,.int .i64 0] 96 (0,0))] 96 [.int kd,.str A,.seq 9 (L.2.map Qr.Vd.d),.seq 3 (D.2.map Qr.Dir.d),.seq 7 [],.int pa] [.int .i64 kd,.string ⟨A.toArray⟩,.slice va vl vc,.slice ra31 F rc31,.slice none 0 0,.int .i64 pa] G.1 (w33x)):=QA (M.out.step h33 f33)
   have aa:=QA H
   clear hrd h33 f33 N H O
   have y4:=blk_cell o.out.b6 4 (.slice none 0 0) rfl
   have a0:=blk_free o.out.b6 4
   have ag:Hid (FJ w b g t6 lo [(w.heap.size,Obj.cells #[(.pointer (some ⟨b,0,none⟩))] 165 (0,0)),(w.heap.size+1,Obj.cells #[.int .i64 0,.string ⟨#[]⟩,.slice none 0 0,.slice none 0 0,.slice none 0 0,.int .i64 0] 96 (0,0))] 96 [.int kd,.str A,.seq 9 (L.2.map Qr.Vd.d),.seq 3 (D.2.map Qr.Dir.d),.seq 7 (G.2.map Qr.Sel.d),.int pa] [.int .i64 kd,.string ⟨A.toArray⟩,.slice va vl vc,.slice ra31 F rc31,.slice ra33 R rc33,.int .i64 pa] G.1 ((w33x).setCell ⟨t6,4,none⟩ (.slice ra33 R rc33))):=QA (o.out.put 4 (aa.out) rfl)
   have HR:Hid (Qr.op (n+1) s=(G.1,⟨kd,A,L.2,D.2,G.2,pa⟩)):=by
    refine QA ?_
    rw[HOP.out]
    unfold Qr.opRest
    dsimp only
    rw[aJ.out,HV.out,← S.out,← U.out]
   clear y3 ah
   have y0:=blk_cell o.out.b6 0 (.int .i64 kd) rfl
   have a9:=blk_free o.out.b6 0
   have y1:=blk_cell o.out.b6 1 (.string ⟨A.toArray⟩) rfl
   have aG:=blk_free o.out.b6 1
   have y2:=blk_cell o.out.b6 2 (.slice va vl vc) rfl
   have a3:=blk_free o.out.b6 2
   have y3:=blk_cell o.out.b6 3 (.slice ra31 F rc31) rfl
   have ah:=blk_free o.out.b6 3
   have y5:=blk_cell o.out.b6 5 (.int .i64 pa) rfl
   have bd:=blk_free o.out.b6 5
   have z0:=blk_cell (o.out.cb (w.heap.size+1,Obj.cells #[.int .i64 0,.string ⟨#[]⟩,.slice none 0 0,.slice none 0 0,.slice none 0 0,.int .i64 0] 96 (0,0)) (QU _ QP)) 0 (.int .i64 0) rfl
   have a2:=blk_free (o.out.cb (w.heap.size+1,Obj.cells #[.int .i64 0,.string ⟨#[]⟩,.slice none 0 0,.slice none 0 0,.slice none 0 0,.int .i64 0] 96 (0,0)) (QU _ QP)) 0
   have z1:=blk_cell (o.out.cb (w.heap.size+1,Obj.cells #[.int .i64 0,.string ⟨#[]⟩,.slice none 0 0,.slice none 0 0,.slice none 0 0,.int .i64 0] 96 (0,0)) (QU _ QP)) 1 (.string ⟨#[]⟩) rfl
   have a7:=blk_free (o.out.cb (w.heap.size+1,Obj.cells #[.int .i64 0,.string ⟨#[]⟩,.slice none 0 0,.slice none 0 0,.slice none 0 0,.int .i64 0] 96 (0,0)) (QU _ QP)) 1
   have z2:=blk_cell (o.out.cb (w.heap.size+1,Obj.cells #[.int .i64 0,.string ⟨#[]⟩,.slice none 0 0,.slice none 0 0,.slice none 0 0,.int .i64 0] 96 (0,0)) (QU _ QP)) 2 (.slice none 0 0) rfl
   have a1:=blk_free (o.out.cb (w.heap.size+1,Obj.cells #[.int .i64 0,.string ⟨#[]⟩,.slice none 0 0,.slice none 0 0,.slice none 0 0,.int .i64 0] 96 (0,0)) (QU _ QP)) 2
   have z3:=blk_cell (o.out.cb (w.heap.size+1,Obj.cells #[.int .i64 0,.string ⟨#[]⟩,.slice none 0 0,.slice none 0 0,.slice none 0 0,.int .i64 0] 96 (0,0)) (QU _ QP)) 3 (.slice none 0 0) rfl
   have aY:=blk_free (o.out.cb (w.heap.size+1,Obj.cells #[.int .i64 0,.string ⟨#[]⟩,.slice none 0 0,.slice none 0 0,.slice none 0 0,.int .i64 0] 96 (0,0)) (QU _ QP)) 3
   have z4:=blk_cell (o.out.cb (w.heap.size+1,Obj.cells #[.int .i64 0,.string ⟨#[]⟩,.slice none 0 0,.slice none 0 0,.slice none 0 0,.int .i64 0] 96 (0,0)) (QU _ QP)) 4 (.slice none 0 0) rfl
   have a6:=blk_free (o.out.cb (w.heap.size+1,Obj.cells #[.int .i64 0,.string ⟨#[]⟩,.slice none 0 0,.slice none 0 0,.slice none 0 0,.int .i64 0] 96 (0,0)) (QU _ QP)) 4
   have z5:=blk_cell (o.out.cb (w.heap.size+1,Obj.cells #[.int .i64 0,.string ⟨#[]⟩,.slice none 0 0,.slice none 0 0,.slice none 0 0,.int .i64 0] 96 (0,0)) (QU _ QP)) 5 (.int .i64 0) rfl
   have aZ:=blk_free (o.out.cb (w.heap.size+1,Obj.cells #[.int .i64 0,.string ⟨#[]⟩,.slice none 0 0,.slice none 0 0,.slice none 0 0,.int .i64 0] 96 (0,0)) (QU _ QP)) 5
   have T:=ag.out.fin (r:=w.heap.size+1) (QU _ QP)
   simp only[putCells,QY,Nat.zero_add] at T
   have ar:=QA T
   clear T
   go_wp2_with fail
   refine bodyPost_ret (v:=.agg #[.int .i64 kd,.string ⟨A.toArray⟩,.slice va vl vc,.slice ra31 F rc31,.slice ra33 R rc33,.int .i64 pa]) (by simp[results,Tryz.results113,go_sem,z0,z1,z2,z3,z4,z5,n3,n4]) rfl ?_
   rw[HR.out]
   exact ⟨_,rfl,ar.out⟩
theorem idxk (t:List UInt8):1+Lib.idxOfS (Qr.kinds.map fun s=>(⟨s.toArray⟩:ByteArray)) ⟨t.toArray⟩=(Qr.kindOf t:Int):=by
 unfold Lib.idxOfS Qr.kindOf
 rw[idx_from t Qr.kinds 0]
 cases Qr.kinds.findIdx? (fun w=>decide (w=t)) with
 | none=>rfl
 | some k=>simp;omega
theorem kindsOf_le (t:List UInt8):Qr.kindOf t≤3:=by
 unfold Qr.kindOf
 cases h:Qr.kinds.findIdx? (fun w=>decide (w=t)) with
 | none=>simp
 | some k=>have:=(List.findIdx?_eq_some_iff_getElem.1 h).1;simp[Qr.kinds] at this;show k+1≤3;omega
set_option maxRecDepth 100000 in
theorem kinds_any (w:World):Calls Tryz.prog 112 #[] w fun r w'=>r=.returned (.slice (some ⟨w.heap.size,0,none⟩) 3 3)∧Below w.heap.size w w'∧Txts w' (.slice (some ⟨w.heap.size,0,none⟩) 3 3) Qr.kinds:=by
 have o:=QA (txts_lit w Qr.kinds (Qr.kinds.map fun s=>Value.string ⟨s.toArray⟩).toArray 9 rfl)
 go_enter Tryz.func112,Tryz.ntmps112
 go_wp2
 go_ret
 exact ⟨rfl,(Below.refl _ _).alloc (QM _) _,o.out⟩
theorem idxk_any (w:World) (g c:Nat) (t:List UInt8) (h:Txts w (.slice (some ⟨g,0,none⟩) 3 c) Qr.kinds) :
  Calls Tryz.prog 137 #[.slice (some ⟨g,0,none⟩) 3 c,.string ⟨t.toArray⟩] w fun e w'=>e=.returned (.int .i64 (Lib.idxOfS (Qr.kinds.map fun s=>(⟨s.toArray⟩:ByteArray)) ⟨t.toArray⟩))∧w'=w:=by
 have:=Tryz.slices_Index_string g 0 3 c (Qr.kinds.map fun s=>(⟨s.toArray⟩:ByteArray)) ⟨t.toArray⟩ w (by decide) (by decide) (fun j hj=>by
  rw[QX] at hj
  obtain ⟨b,A,e,_,o⟩:=h.at (ZJ hj)
  simp only[Option.some.injEq,Addr.mk.injEq] at e
  obtain ⟨rfl,rfl,_⟩:=e
  rw[o,List.getD_eq_getElem?_getD,List.getElem?_map,ZJ hj]
  rfl)
 rw[show (Qr.kinds.map fun s=>(⟨s.toArray⟩:ByteArray)).take 3=Qr.kinds.map fun s=>(⟨s.toArray⟩:ByteArray) from by rfl] at this
 exact this
set_option maxHeartbeats 4000000 in
set_option maxRecDepth 100000 in
theorem op_any (b g n:Nat) (hnb:n≤1600) (s:Rd.St) (w:World) (h:RdAt w b g s) (hn:s.rest.length≤n) (hd:0≤s.deep∧s.deep≤700000) :
  Calls Tryz.prog 113 #[.pointer (some ⟨b,0,none⟩)] w (Got b g w (Qr.op (n+1) s).2.d (Qr.op (n+1) s).1):=by
 have aq:=h.lt
 have HN:=QA hn
 have H:=QA h
 obtain ⟨d0,d1⟩:=hd
 have am:Below w.heap.size w ((w.alloc (.cells #[(.pointer (some ⟨b,0,none⟩))] 165)).alloc (.cells #[.int .i64 0,.string ⟨#[]⟩,.slice none 0 0,.slice none 0 0,.slice none 0 0,.int .i64 0] 96)):=((Below.refl _ _).alloc (QM _) _).alloc (by simp) _
 have Q:=QA am
 have Z:Hid (((w.alloc (.cells #[(.pointer (some ⟨b,0,none⟩))] 165)).alloc (.cells #[.int .i64 0,.string ⟨#[]⟩,.slice none 0 0,.slice none 0 0,.slice none 0 0,.int .i64 0] 96)).heap[w.heap.size]?=some (.cells #[(.pointer (some ⟨b,0,none⟩))] 165 (0,0))):=by rw[Lib.alloc_old _ _ _ (by simp)];exact QA (heap_at_new _ _)
 have al:Hid (((w.alloc (.cells #[(.pointer (some ⟨b,0,none⟩))] 165)).alloc (.cells #[.int .i64 0,.string ⟨#[]⟩,.slice none 0 0,.slice none 0 0,.slice none 0 0,.int .i64 0] 96)).heap[w.heap.size+1]?=some (.cells #[.int .i64 0,.string ⟨#[]⟩,.slice none 0 0,.slice none 0 0,.slice none 0 0,.int .i64 0] 96 (0,0))):=by
  have:=heap_at_new (w.alloc (.cells #[(.pointer (some ⟨b,0,none⟩))] 165)) (.cells #[.int .i64 0,.string ⟨#[]⟩,.slice none 0 0,.slice none 0 0,.slice none 0 0,.int .i64 0] 96)
  rw[show (w.alloc (.cells #[(.pointer (some ⟨b,0,none⟩))] 165)).heap.size=w.heap.size+1 by simp] at this
  exact QA this
 have k2:=blk_cell Z.out 0 (.pointer (some ⟨b,0,none⟩)) rfl
 clear h hn am
 go_enter Tryz.func113,Tryz.ntmps113
 go_wp2_with fail
 refine (rpeek_any b g s _ (H.out.below Q.out)).mono ?_
 rintro r w2 ⟨rfl,hb2⟩
 clear k2
 obtain ⟨C,aa⟩:∃ x,x=(Rd.peek s).at_:=⟨_,rfl⟩
 rw[← aa]
 have ar:=QA aa
 have ae:w.heap.size+2≤w2.heap.size:=by have:=hb2.size;simp at this;omega
 have R:Hid (FJ w b g w2.heap.size (w2.heap.size+1) [(w.heap.size,Obj.cells #[(.pointer (some ⟨b,0,none⟩))] 165 (0,0)),(w.heap.size+1,Obj.cells #[.int .i64 0,.string ⟨#[]⟩,.slice none 0 0,.slice none 0 0,.slice none 0 0,.int .i64 0] 96 (0,0))] 96 [.int 1,.str [],.seq 9 [],.seq 3 [],.seq 7 [],.int C] [.int .i64 1,.string ⟨#[]⟩,.slice none 0 0,.slice none 0 0,.slice none 0 0,.int .i64 C] s (w2.alloc (.cells #[.int .i64 1,.string ⟨#[]⟩,.slice none 0 0,.slice none 0 0,.slice none 0 0,.int .i64 C] 96))):=by
  have G:Below w2.heap.size w2 (w2.alloc (.cells #[.int .i64 1,.string ⟨#[]⟩,.slice none 0 0,.slice none 0 0,.slice none 0 0,.int .i64 C] 96)):=(Below.refl _ _).alloc (QM _) _
  have a0:((w.alloc (.cells #[(.pointer (some ⟨b,0,none⟩))] 165)).alloc (.cells #[.int .i64 0,.string ⟨#[]⟩,.slice none 0 0,.slice none 0 0,.slice none 0 0,.int .i64 0] 96)).heap.size=w.heap.size+2:=by simp
  refine QA ⟨((H.out.below Q.out).below hb2).below G,fun p hp=>?_,heap_at_new _ _,((But.of_below Q.out).trans (But.of_below hb2)).trans (But.of_below G),aq.1,aq.2,fun p hp=>?_,⟨by omega,by omega⟩,by simp,.cons (.int _) (.cons (.str []) (.cons (.seq (cap:=0) .nil) (.cons (.seq (cap:=0) .nil) (.cons (.seq (cap:=0) .nil) (.cons (.int _) .nil)))))⟩
  ·simp only[List.mem_cons,List.not_mem_nil,or_false] at hp
   rcases hp with rfl|rfl
   ·show (w2.alloc _).heap[w.heap.size]?=_
    rw[G.block w.heap.size (by omega),hb2.block w.heap.size (by omega)]
    exact Z.out
   ·show (w2.alloc _).heap[w.heap.size+1]?=_
    rw[G.block (w.heap.size+1) (by omega),hb2.block (w.heap.size+1) (by omega)]
    exact al.out
  ·simp only[List.mem_cons,List.not_mem_nil,or_false] at hp
   rcases hp with rfl|rfl<;>(simp only;omega)
 have S:Below (w2.alloc (.cells #[.int .i64 1,.string ⟨#[]⟩,.slice none 0 0,.slice none 0 0,.slice none 0 0,.int .i64 C] 96)).heap.size (w2.alloc (.cells #[.int .i64 1,.string ⟨#[]⟩,.slice none 0 0,.slice none 0 0,.slice none 0 0,.int .i64 C] 96)) ((w2.alloc (.cells #[.int .i64 1,.string ⟨#[]⟩,.slice none 0 0,.slice none 0 0,.slice none 0 0,.int .i64 C] 96)).alloc (.cells #[.string ⟨#[123]⟩] 9)):=(Below.refl _ _).alloc (QM _) _
 have N:=QA S
 have ao:Hid (Txts ((w2.alloc (.cells #[.int .i64 1,.string ⟨#[]⟩,.slice none 0 0,.slice none 0 0,.slice none 0 0,.int .i64 C] 96)).alloc (.cells #[.string ⟨#[123]⟩] 9)) (.slice (some ⟨w2.heap.size+1,0,none⟩) 1 1) [Rd.lbrc]):=by
  have h1:=txts_one (w2.alloc (.cells #[.int .i64 1,.string ⟨#[]⟩,.slice none 0 0,.slice none 0 0,.slice none 0 0,.int .i64 C] 96)) Rd.lbrc ⟨#[123]⟩ 9 rfl
  rw[show (w2.alloc (.cells #[.int .i64 1,.string ⟨#[]⟩,.slice none 0 0,.slice none 0 0,.slice none 0 0,.int .i64 C] 96)).heap.size=w2.heap.size+1 by simp] at h1
  exact QA h1
 have k2:=blk_cell (R.out.cb (w.heap.size,Obj.cells #[(.pointer (some ⟨b,0,none⟩))] 165 (0,0)) QP) 0 (.pointer (some ⟨b,0,none⟩)) rfl
 clear hb2 aa S
 go_wp2_with fail
 refine (ris_any b g s _ [Rd.lbrc] _ ((R.out.below N.out).rd) ao.out (by simp)).mono ?_
 rintro r w3 ⟨rfl,hb3⟩
 rw[show ([Rd.lbrc].any (Rd.isS s))=Rd.isS s Rd.lbrc by simp]
 clear k2
 have X:=(R.out.below N.out).below hb3
 obtain ⟨F,af⟩:∃ x,x=w2.heap.size:=⟨_,rfl⟩
 rw[← af] at X ae ⊢
 have I:=QA X
 obtain ⟨B,hB⟩:∃ B,B=Rd.isS s Rd.lbrc:=⟨_,rfl⟩
 have HB:=QA hB
 rw[← hB]
 have n1:¬ F=w.heap.size:=by omega
 have n2:¬ w.heap.size=F:=by omega
 have n3:¬ F=w.heap.size+1:=by omega
 have n4:¬ w.heap.size+1=F:=by omega
 clear hb3 X hB af R ao N Q Z al
 cases B
 ·have A:w3.cell? ⟨w.heap.size,0,none⟩=some (.pointer (some ⟨b,0,none⟩)):=blk_cell (I.out.cb (w.heap.size,Obj.cells #[(.pointer (some ⟨b,0,none⟩))] 165 (0,0)) QP) 0 (.pointer (some ⟨b,0,none⟩)) rfl
  go_wp2_with fail
  have J:=QA (I.out.below ((Below.refl _ _).drew))
  refine wp_region_phase (fun w'=>w'.cell? ⟨w.heap.size,0,none⟩=some (.pointer (some ⟨b,0,none⟩))) 10 (by kernel_rfl) ?_
  refine wpAnyB_take (i:=1) (v:=(.pointer (some ⟨b,0,none⟩))) (by kernel_rfl) (by decide) rfl (by kernel_rfl) (by kernel_rfl) (by kernel_rfl) (fun _ _ _ h=>h) (Or.inl ⟨by rfl,fun w hSw=>by have s0:=hSw;go_simp;first|done|exact T|exact E⟩) A ?_;simp only[Act.put,QD,QK,QI,QJ,QC,QH,QG]
  refine wpAnyB_take (i:=2) (v:=(.pointer (some ⟨b,0,none⟩))) (by kernel_rfl) (by decide) rfl (by kernel_rfl) (by kernel_rfl) (by kernel_rfl) (fun _ _ _ h=>h) (Or.inl ⟨by rfl,fun w hSw=>by have s0:=hSw;go_simp;first|done|exact T|exact E⟩) A ?_;simp only[Act.put,QD,QK,QI,QJ,QC,QH,QG]
  refine wpAnyB_take (i:=3) (v:=(.pointer (some ⟨b,0,none⟩))) (by kernel_rfl) (by decide) rfl (by kernel_rfl) (by kernel_rfl) (by kernel_rfl) (fun _ _ _ h=>h) (Or.inl ⟨by rfl,fun w hSw=>by have s0:=hSw;go_simp;first|done|exact T|exact E⟩) A ?_;simp only[Act.put,QD,QK,QI,QJ,QC,QH,QG]
  clear A
  refine wpAnyB_one (i:=0) (by kernel_rfl) ?_
  refine wpOp_intro (by decide) (fun K0 HK0=>?_);simp only[QE,QL,QF,QN]
  go_wp2_with fail
  refine (kinds_any _).mono ?_
  rintro r w4 ⟨rfl,f,hx⟩
  have ac:=QA (J.out.below ⟨f.os,f.tape,f.output,f.size,f.block⟩)
  have aG:=QA hx
  clear f hx
  go_wp2_with fail
  refine HK0.out _ _ ⟨fun _=>blk_cell (ac.out.cb (w.heap.size,Obj.cells #[(.pointer (some ⟨b,0,none⟩))] 165 (0,0)) QP) 0 (.pointer (some ⟨b,0,none⟩)) rfl,?_⟩
  clear HK0
  refine wpAnyB_one (i:=4) (by kernel_rfl) ?_
  refine wpOp_intro (by decide) (fun K4 HK4=>?_);simp only[QE,QL,QF,QN]
  go_wp2_with fail
  refine (rnext_any b g s w4 ac.out.rd).mono ?_
  rintro r w5 ⟨rfl,h5,f5⟩
  have L:=QA (ac.out.step h5 f5)
  have aB:Hid (Txts w5 (.slice (some ⟨w3.heap.size,0,none⟩) 3 3) Qr.kinds):=by
   obtain ⟨a,cap,e,hh⟩:=aG.out
   refine QA ⟨a,cap,e,fun i t ht=>?_⟩
   obtain ⟨b',a6,e',au,hc⟩:=hh i t ht
   have h0:=e.symm.trans rfl
   simp only[Value.slice.injEq] at e
   obtain ⟨rfl,-,-⟩:=e
   simp only[Option.some.injEq,Addr.mk.injEq] at e'
   obtain ⟨rfl,rfl,-⟩:=e'
   have G:w3.heap.size≠b:=by have:=I.out.lb;have:=I.out.fr.size;omega
   exact ⟨_,_,rfl,Nat.lt_of_lt_of_le au f5.size,by rw[f5.cell (p:=⟨w3.drew.heap.size,_,none⟩) au G];exact hc⟩
  obtain ⟨tx,ab⟩:∃ x,x=(Rd.peek s).text:=⟨_,rfl⟩
  rw[← ab]
  have av:=QA ab
  clear h5 f5 ab
  go_wp2_with fail
  have A:=blk_cell (L.out.cb (w.heap.size,Obj.cells #[(.pointer (some ⟨b,0,none⟩))] 165 (0,0)) QP) 0 (.pointer (some ⟨b,0,none⟩)) rfl
  refine HK4.out _ _ ⟨fun _=>A,?_⟩
  clear HK4
  refine wpAnyB_take (i:=5) (v:=(.string ⟨tx.toArray⟩)) (by kernel_rfl) (by decide) rfl (by kernel_rfl) (by kernel_rfl) (by kernel_rfl) (fun _ _ _ h=>h) (Or.inl ⟨by rfl,fun w hSw=>by have s0:=hSw;go_simp;first|done|exact T|exact E⟩) A ?_;simp only[Act.put,QD,QK,QI,QJ,QC,QH,QG]
  clear A
  refine wpAnyB_one (i:=6) (by kernel_rfl) ?_
  refine wpOp_intro (by decide) (fun K6 HK6=>?_);simp only[QE,QL,QF,QN]
  go_wp2_with fail
  refine (idxk_any w5 _ _ tx aB.out).mono ?_
  rintro r w7 ⟨rfl,rfl⟩
  go_wp2_with fail
  have A:=blk_cell (L.out.cb (w.heap.size,Obj.cells #[(.pointer (some ⟨b,0,none⟩))] 165 (0,0)) QP) 0 (.pointer (some ⟨b,0,none⟩)) rfl
  refine HK6.out _ _ ⟨fun _=>A,?_⟩
  clear HK6
  have hk:=idxk tx
  have aA:=kindsOf_le tx
  obtain ⟨q,hq⟩:∃ q,q=Lib.idxOfS (List.map (fun s=>(⟨s.toArray⟩:ByteArray)) Qr.kinds) ⟨tx.toArray⟩:=⟨_,rfl⟩
  rw[← hq] at hk ⊢
  clear hq
  have aE:-1≤q:=by omega
  have aF:q≤5:=by omega
  obtain ⟨U,Y⟩:∃ x,x=Qr.kindOf tx:=⟨_,rfl⟩
  rw[← Y] at hk aA
  have aD:=QA Y
  clear Y
  have T:IntKind.i64.wrap (U:Int)=U:=by rw[IntKind.wrap_i64];omega
  have E:IntKind.i64.wrap (1+q)=U:=by rw[hk];exact T
  refine wpAnyB_take (i:=7) (v:=(.int .i64 U)) (by kernel_rfl) (by decide) rfl (by kernel_rfl) (by kernel_rfl) (by kernel_rfl) (fun _ _ _ h=>h) (Or.inl ⟨by rfl,fun w hSw=>by have s0:=hSw;go_simp;first|done|exact T|exact E⟩) A ?_;simp only[Act.put,QD,QK,QI,QJ,QC,QH,QG]
  refine wpAnyB_take (i:=8) (v:=(.pointer (some ⟨F,0,none⟩))) (by kernel_rfl) (by decide) rfl (by kernel_rfl) (by kernel_rfl) (by kernel_rfl) (fun _ _ _ h=>h) (Or.inl ⟨by rfl,fun w hSw=>by have s0:=hSw;go_simp;first|done|exact T|exact E⟩) A ?_;simp only[Act.put,QD,QK,QI,QJ,QC,QH,QG]
  clear A T E hk aE aF
  refine wpAnyB_one (i:=9) (by kernel_rfl) ?_
  refine wpOp_intro (by decide) (fun K9 HK9=>?_);simp only[QE,QL,QF,QN]
  have y0:=blk_cell L.out.b6 0 (.int .i64 1) rfl
  have aC:=blk_free L.out.b6 0
  go_wp2_with fail
  have ak:Hid (FJ w b g F (F+1) [(w.heap.size,Obj.cells #[(.pointer (some ⟨b,0,none⟩))] 165 (0,0)),(w.heap.size+1,Obj.cells #[.int .i64 0,.string ⟨#[]⟩,.slice none 0 0,.slice none 0 0,.slice none 0 0,.int .i64 0] 96 (0,0))] 96 [.int U,.str [],.seq 9 [],.seq 3 [],.seq 7 [],.int C] [.int .i64 U,.string ⟨#[]⟩,.slice none 0 0,.slice none 0 0,.slice none 0 0,.int .i64 C] (Rd.next s) (w7.setCell ⟨F,0,none⟩ (.int .i64 U))):=QA (L.out.put 0 (.int _) rfl)
  refine HK9.out _ _ ⟨fun _=>blk_cell (ak.out.cb (w.heap.size,Obj.cells #[(.pointer (some ⟨b,0,none⟩))] 165 (0,0)) QP) 0 (.pointer (some ⟨b,0,none⟩)) rfl,?_⟩
  clear HK9
  refine wpAnyB_done (by kernel_rfl) ?_ _
  rename_i KK hKK
  refine hKK _ _ ?_
  exact op_tail b g n hnb s w HN d0 d1 U C F (Rd.next s) _ ae ak (QA (Rd.ok_next s)) (QA (Rd.next_deep s)) (by rw[aD.out,av.out,ar.out];exact QA (Qr.op_rest HB.out.symm)) _ _ _ _ _ _ _ _ _ _ _ _ _ _ _ _ _ _ _ _ _ _ _ _
 ·obtain ⟨lo,ag⟩:∃ x,x=F+1:=⟨_,rfl⟩
  have J:Hid (FJ w b g F lo [(w.heap.size,Obj.cells #[(.pointer (some ⟨b,0,none⟩))] 165 (0,0)),(w.heap.size+1,Obj.cells #[.int .i64 0,.string ⟨#[]⟩,.slice none 0 0,.slice none 0 0,.slice none 0 0,.int .i64 0] 96 (0,0))] 96 [.int 1,.str [],.seq 9 [],.seq 3 [],.seq 7 [],.int C] [.int .i64 1,.string ⟨#[]⟩,.slice none 0 0,.slice none 0 0,.slice none 0 0,.int .i64 C] s (w3)):=by rw[← ag] at I;exact I
  have ah:Hid (Rd.Ok s s):=QA (Rd.Ok.refl s)
  clear ag
  have k2:=blk_cell (J.out.cb (w.heap.size,Obj.cells #[(.pointer (some ⟨b,0,none⟩))] 165 (0,0)) QP) 0 (.pointer (some ⟨b,0,none⟩)) rfl
  go_wp2_with fail
  refine (sels_any b g n hnb s _ J.out.rd HN.out ⟨d0,d1⟩).mono ?_
  rintro r w41x ⟨ra41,rc41,rfl,hrd,h41,f41⟩
  clear k2
  obtain ⟨D,K⟩:∃ x,x=Qr.sels (n+1) (n+1) s:=⟨_,rfl⟩
  rw[← K] at hrd h41 ⊢
  have O:=QA K
  have W:=J.out.data hrd
  obtain ⟨M,aj⟩:∃ x,x=D.2.length:=⟨_,rfl⟩
  rw[QX,← aj] at W ⊢
  have ay:Hid (Rd.Ok s D.1):=by rw[O.out];exact QA (ah.out.trans (Qr.ok_selsOf _ (Qr.ok_sel (n+1) (n+1)) _))
  have ax:Hid (D.1.deep=s.deep):=by rw[O.out,show (Qr.sels (n+1) (n+1) _).1.deep=_ from Qr.selsOf_deep _ (Qr.sel_deep (n+1) (n+1)) _];exact (QA rfl)
  have o:Hid (FJ w b g F lo [(w.heap.size,Obj.cells #[(.pointer (some ⟨b,0,none⟩))] 165 (0,0)),(w.heap.size+1,Obj.cells #[.int .i64 0,.string ⟨#[]⟩,.slice none 0 0,.slice none 0 0,.slice none 0 0,.int .i64 0] 96 (0,0))] 96 [.int 1,.str [],.seq 9 [],.seq 3 [],.seq 7 [],.int C] [.int .i64 1,.string ⟨#[]⟩,.slice none 0 0,.slice none 0 0,.slice none 0 0,.int .i64 C] D.1 (w41x)):=QA (J.out.step h41 f41)
  have V:=QA W
  clear hrd h41 f41 K W aj
  have y4:=blk_cell o.out.b6 4 (.slice none 0 0) rfl
  have aW:=blk_free o.out.b6 4
  have an:Hid (FJ w b g F lo [(w.heap.size,Obj.cells #[(.pointer (some ⟨b,0,none⟩))] 165 (0,0)),(w.heap.size+1,Obj.cells #[.int .i64 0,.string ⟨#[]⟩,.slice none 0 0,.slice none 0 0,.slice none 0 0,.int .i64 0] 96 (0,0))] 96 [.int 1,.str [],.seq 9 [],.seq 3 [],.seq 7 (D.2.map Qr.Sel.d),.int C] [.int .i64 1,.string ⟨#[]⟩,.slice none 0 0,.slice none 0 0,.slice ra41 M rc41,.int .i64 C] D.1 ((w41x).setCell ⟨F,4,none⟩ (.slice ra41 M rc41))):=QA (o.out.put 4 (V.out) rfl)
  have HR:Hid (Qr.op (n+1) s=(D.1,⟨1,[],[],[],D.2,C⟩)):=by
   refine QA ?_
   unfold Qr.op
   dsimp only
   rw[if_pos HB.out.symm,← O.out,← ar.out]
  have y0:=blk_cell o.out.b6 0 (.int .i64 1) rfl
  have aC:=blk_free o.out.b6 0
  have y1:=blk_cell o.out.b6 1 (.string ⟨#[]⟩) rfl
  have aU:=blk_free o.out.b6 1
  have y2:=blk_cell o.out.b6 2 (.slice none 0 0) rfl
  have aZ:=blk_free o.out.b6 2
  have y3:=blk_cell o.out.b6 3 (.slice none 0 0) rfl
  have a2:=blk_free o.out.b6 3
  have y5:=blk_cell o.out.b6 5 (.int .i64 C) rfl
  have bc:=blk_free o.out.b6 5
  have z0:=blk_cell (o.out.cb (w.heap.size+1,Obj.cells #[.int .i64 0,.string ⟨#[]⟩,.slice none 0 0,.slice none 0 0,.slice none 0 0,.int .i64 0] 96 (0,0)) (QU _ QP)) 0 (.int .i64 0) rfl
  have aY:=blk_free (o.out.cb (w.heap.size+1,Obj.cells #[.int .i64 0,.string ⟨#[]⟩,.slice none 0 0,.slice none 0 0,.slice none 0 0,.int .i64 0] 96 (0,0)) (QU _ QP)) 0
  have z1:=blk_cell (o.out.cb (w.heap.size+1,Obj.cells #[.int .i64 0,.string ⟨#[]⟩,.slice none 0 0,.slice none 0 0,.slice none 0 0,.int .i64 0] 96 (0,0)) (QU _ QP)) 1 (.string ⟨#[]⟩) rfl
  have a4:=blk_free (o.out.cb (w.heap.size+1,Obj.cells #[.int .i64 0,.string ⟨#[]⟩,.slice none 0 0,.slice none 0 0,.slice none 0 0,.int .i64 0] 96 (0,0)) (QU _ QP)) 1
  have z2:=blk_cell (o.out.cb (w.heap.size+1,Obj.cells #[.int .i64 0,.string ⟨#[]⟩,.slice none 0 0,.slice none 0 0,.slice none 0 0,.int .i64 0] 96 (0,0)) (QU _ QP)) 2 (.slice none 0 0) rfl
  have aX:=blk_free (o.out.cb (w.heap.size+1,Obj.cells #[.int .i64 0,.string ⟨#[]⟩,.slice none 0 0,.slice none 0 0,.slice none 0 0,.int .i64 0] 96 (0,0)) (QU _ QP)) 2
  have z3:=blk_cell (o.out.cb (w.heap.size+1,Obj.cells #[.int .i64 0,.string ⟨#[]⟩,.slice none 0 0,.slice none 0 0,.slice none 0 0,.int .i64 0] 96 (0,0)) (QU _ QP)) 3 (.slice none 0 0) rfl
  have aT:=blk_free (o.out.cb (w.heap.size+1,Obj.cells #[.int .i64 0,.string ⟨#[]⟩,.slice none 0 0,.slice none 0 0,.slice none 0 0,.int .i64 0] 96 (0,0)) (QU _ QP)) 3
  have z4:=blk_cell (o.out.cb (w.heap.size+1,Obj.cells #[.int .i64 0,.string ⟨#[]⟩,.slice none 0 0,.slice none 0 0,.slice none 0 0,.int .i64 0] 96 (0,0)) (QU _ QP)) 4 (.slice none 0 0) rfl
  have a3:=blk_free (o.out.cb (w.heap.size+1,Obj.cells #[.int .i64 0,.string ⟨#[]⟩,.slice none 0 0,.slice none 0 0,.slice none 0 0,.int .i64 0] 96 (0,0)) (QU _ QP)) 4
  have z5:=blk_cell (o.out.cb (w.heap.size+1,Obj.cells #[.int .i64 0,.string ⟨#[]⟩,.slice none 0 0,.slice none 0 0,.slice none 0 0,.int .i64 0] 96 (0,0)) (QU _ QP)) 5 (.int .i64 0) rfl
  have aV:=blk_free (o.out.cb (w.heap.size+1,Obj.cells #[.int .i64 0,.string ⟨#[]⟩,.slice none 0 0,.slice none 0 0,.slice none 0 0,.int .i64 0] 96 (0,0)) (QU _ QP)) 5
  have P:=an.out.fin (r:=w.heap.size+1) (QU _ QP)
  simp only[putCells,QY,Nat.zero_add] at P
  have az:=QA P
  clear P
  go_wp2_with fail
  refine bodyPost_ret (v:=.agg #[.int .i64 1,.string ⟨#[]⟩,.slice none 0 0,.slice none 0 0,.slice ra41 M rc41,.int .i64 C]) (by simp[results,Tryz.results113,go_sem,z0,z1,z2,z3,z4,z5,n3,n4]) rfl ?_
  rw[HR.out]
  exact ⟨_,rfl,az.out⟩
def Free2 (lo:Nat) (v1 v2:Value) (x:Nat):Prop:=lo≤x∧v1.ownBlock≠some x∧v2.ownBlock≠some x
structure DI (w0:World) (b g t6 lo:Nat) (T6:TypeId) (mk:Value→Value→Array Value) (E1 E2:TypeId) (k1 k2:Nat) (s:Rd.St) (v1 v2:Value) (ds1 ds2:List D) (w:World):Prop where
 rd:RdAt w b g s
 fr:Fr b w0 w
 lb:b<w0.heap.size
 lg:g<w0.heap.size
 l6:w0.heap.size≤t6∧t6<lo
 hi:lo≤w.heap.size
 b6:w.heap[t6]?=some (.cells (mk v1 v2) T6 (0,0))
 g1:Grows w (Free2 lo v1 v2) lo E1 k1 v1 ds1
 g2:Grows w (Free2 lo v1 v2) lo E2 k2 v2 ds2
 ne:∀ x,v1.ownBlock=some x→v2.ownBlock≠some x
section
variable {w0 w w' w8 : World} {b g t6 lo : Nat} {T6 : TypeId} {mk : Value → Value → Array Value} {E1 E2 : TypeId} {k1 k2 : Nat} {s s' : Rd.St} {v1 v2 v' : Value} {ds1 ds2 : List D} {d : D} {cs xs : List Value}
theorem DI.swap (h:DI w0 b g t6 lo T6 mk E1 E2 k1 k2 s v1 v2 ds1 ds2 w):DI w0 b g t6 lo T6 (fun x y=>mk y x) E2 E1 k2 k1 s v2 v1 ds2 ds1 w:=by
 have e:Stands w (Free2 lo v1 v2) w (Free2 lo v2 v1):=Stands.sub w (fun x _ hp=>⟨hp.1,hp.2.2,hp.2.1⟩)
 exact ⟨h.rd,h.fr,h.lb,h.lg,h.l6,h.hi,h.b6,h.g2.to e (fun x e=>⟨fun hp=>hp.2.1 e,rfl⟩),h.g1.to e (fun x e=>⟨fun hp=>hp.2.2 e,rfl⟩),fun x e1 e2=>h.ne x e2 e1⟩
theorem DI.step (h:DI w0 b g t6 lo T6 mk E1 E2 k1 k2 s v1 v2 ds1 ds2 w) (hr:RdAt w' b g s') (hf:Fr b w w'):DI w0 b g t6 lo T6 mk E1 E2 k1 k2 s' v1 v2 ds1 ds2 w':=by
 have lb:=h.lb
 have l6:=h.l6
 have e:Stands w (Free2 lo v1 v2) w' (Free2 lo v1 v2):=⟨hf.size,fun x hx hp=>⟨hp,hf.block x hx (by have:=hp.1;omega)⟩⟩
 refine ⟨hr,h.fr.trans hf,lb,h.lg,l6,QR h.hi hf.size,by rw[hf.block t6 (block_lt h.b6) (by omega)];exact h.b6,h.g1.to e (fun x hx=>⟨fun hp=>hp.2.1 hx,hf.block x (h.g1.lt x hx).2 (by have:=(h.g1.lt x hx).1;omega)⟩),h.g2.to e (fun x hx=>⟨fun hp=>hp.2.2 hx,hf.block x (h.g2.lt x hx).2 (by have:=(h.g2.lt x hx).1;omega)⟩),h.ne⟩
theorem DI.below (h:DI w0 b g t6 lo T6 mk E1 E2 k1 k2 s v1 v2 ds1 ds2 w) (hb:Below w.heap.size w w'):DI w0 b g t6 lo T6 mk E1 E2 k1 k2 s v1 v2 ds1 ds2 w':=h.step (h.rd.below hb) (But.of_below hb)
theorem DI.data (h:DI w0 b g t6 lo T6 mk E1 E2 k1 k2 s v1 v2 ds1 ds2 w) (hd:Reads w' (fun x=>w.heap.size≤x) d cs):Reads w' (Free2 lo v1 v2) d cs :=
 hd.to (Stands.sub w' (fun x _ hp=>⟨QR h.hi hp,fun e=>by have A:=(h.g1.lt x e).2;have o:w.heap.size≤x:=hp;omega,fun e=>by have A:=(h.g2.lt x e).2;have o:w.heap.size≤x:=hp;omega⟩))
theorem DI.more {j:Nat} (h:DI w0 b g t6 lo T6 mk E1 E2 k1 k2 s v1 v2 ds1 ds2 w) (hx:w.ownsRow lo E1 k1 v1 ds1.length xs) (hR:RowsD w (Free2 lo v1 v2) k1 ds1 xs) (hd:Reads w (Free2 lo v1 v2) d cs)
  (hlen:cs.length=k1) (hg:w.grownBy w8 v1.ownBlock) (hloc:v'.ownBlock=v1.ownBlock∨v'.ownBlock=some w.heap.size) (hrow:w8.ownsRow lo E1 k1 v' (ds1.length+1) (xs++cs)) (hmk:(mk v1 v2).setIfInBounds j v'=mk v' v2) :
  DI w0 b g t6 lo T6 mk E1 E2 k1 k2 s v' v2 (ds1++[d]) ds2 (w8.setCell ⟨t6,j,none⟩ v'):=by
 have lb:=h.lb
 have lg:=h.lg
 have l6:=h.l6
 have D:=hx.lt
 have C:w.heap.size≤(w8.setCell ⟨t6,j,none⟩ v').heap.size:=by rw[size_set];exact hg.size
 have F:∀ x,x<w.heap.size→v1.ownBlock≠some x→w8.heap[x]?=w.heap[x]?:=fun x hx3 hn=>hg.block x hx3 (fun e=>hn e.symm)
 have B:∀ x,x<w.heap.size→v1.ownBlock≠some x→x≠t6→(w8.setCell ⟨t6,j,none⟩ v').heap[x]?=w.heap[x]?:=fun x h1 h2 h3=>by rw[heap_set_ne h3];exact F x h1 h2
 have low:∀ x,x<lo→v1.ownBlock≠some x:=fun x hx2 e=>by have:=D x e;omega
 have o:Stands w (Free2 lo v1 v2) (w8.setCell ⟨t6,j,none⟩ v') (Free2 lo v' v2):=⟨C,fun x hx2 hp=>⟨⟨hp.1,fun e=>by
  rcases hloc with e2|e2
  ·exact hp.2.1 (by rw[← e2];exact e)
  ·rw[e2] at e
   simp only[Option.some.injEq] at e
   omega,hp.2.2⟩,B x hx2 hp.2.1 (by have:=hp.1;omega)⟩⟩
 have E:=block_lt h.b6
 refine ⟨h.rd.to C (B b h.rd.lt.1 (low b (by omega)) (by omega)) (B g h.rd.lt.2 (low g (by omega)) (by omega)),?_,lb,lg,l6,QR h.hi C,?_,⟨⟨xs++cs,?_,(hR.to o).snoc (hd.to o) hlen⟩,fun x e hp=>hp.2.1 e⟩,h.g2.to o (fun x e=>⟨fun hp=>hp.2.2 e,B x (h.g2.lt x e).2 (fun e1=>h.ne x e1 e) (by have:=(h.g2.lt x e).1;omega)⟩),fun x e1 e2=>?_⟩
 ·have A:=h.fr
  exact ⟨hg.os.trans A.os,hg.tape.trans A.tape,hg.output.trans A.output,QR A.size C,fun x hx2 hxb=>by
   rw[B x (Nat.lt_of_lt_of_le hx2 A.size) (low x (by omega)) (by omega)]
   exact A.block x hx2 hxb⟩
 ·rw[heap_set1 (cs:=mk v1 v2) (T:=T6) (fz:=(0,0)) (by rw[F t6 E (low t6 l6.2)];exact h.b6),hmk]
 ·rw[QT]
  refine row_to hrow (fun x e=>heap_set_ne ?_)
  have:=(hrow.lt x e).1
  omega
 ·rcases hloc with e3|e3
  ·exact h.ne x (by rw[← e3];exact e1) e2
  ·rw[e3] at e1
   simp only[Option.some.injEq] at e1
   have:=(h.g2.lt x e2).2
   omega
theorem DI.reads (h:DI w0 b g t6 lo T6 mk E1 E2 k1 k2 s v1 v2 ds1 ds2 w):Reads w (fun x=>lo≤x) (.seq k1 ds1) [v1]∧Reads w (fun x=>lo≤x) (.seq k2 ds2) [v2] :=
 ⟨h.g1.reads.to (Stands.sub w (fun x _ hp=>by
  rcases hp with hp|hp
  ·exact hp.1
  ·exact (h.g1.lt x hp).1)),h.g2.reads.to (Stands.sub w (fun x _ hp=>by
  rcases hp with hp|hp
  ·exact hp.1
  ·exact (h.g2.lt x hp).1))⟩
end
end Go.Proofs.YtefjgpkpplkkgaaGreatDoor
