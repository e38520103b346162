/-
  The reader of documents: a field, walked, a selection set's walk being given.
-/
import Derived.Test.YtefjgpkpplkkgaaGreatDoorZp15
import Derived.Test.YtefjgpkpplkkgaaGreatDoorZp5
open Array renaming getInternal_eq_getElem → QD
open Bool renaming and_eq_true → ZD
open Go.Lib renaming hid → QA
open List renaming mem_singleton → QB, setIfInBounds_toArray → QC, drop_succ_cons → QE, take_succ_cons → QF, set_cons_succ → QG, set_cons_zero → QH, getElem_cons_zero → QI, getElem_cons_succ → QJ, getElem_toArray → QK, drop_zero → QL, take_zero → QN, length_map → QX
open Nat renaming le_refl → QM, le_trans → QR, reduceAdd → QY
namespace Go.Proofs.YtefjgpkpplkkgaaGreatDoor
set_option linter.unusedSimpArgs false
set_option linter.unusedVariables false
open Go Go.RowKit
def SelsC (b g n:Nat) (f:Rd.St→Rd.St×Qr.Sel) (s:Rd.St):Prop:=∀ (s1:Rd.St) (w1:World),RdAt w1 b g s1→s1.rest.length≤n→s1.deep=s.deep→s.err=0→(s1.err≠0∨s1.rest.length<s.rest.length) →
 Calls Tryz.prog 175 #[.pointer (some ⟨b,0,none⟩)] w1 (GotL b g w1 7 ((Qr.selsOf f s1).2.map Qr.Sel.d) (Qr.selsOf f s1).1)
set_option maxHeartbeats 4000000 in
set_option maxRecDepth 100000 in
theorem field_step (b g n a:Nat) (hnb:n≤1600) (f:Rd.St→Rd.St×Qr.Sel) (s:Rd.St) (hS:SelsC b g n f s) (w:World) (h:RdAt w b g s) (hn:s.rest.length≤n) (hd:0≤s.deep∧s.deep≤800000) :
  Calls Tryz.prog 230 #[.pointer (some ⟨b,0,none⟩),.agg #[.int .i64 0,.string ⟨#[]⟩,.string ⟨#[]⟩,.slice none 0 0,.slice none 0 0,.slice none 0 0,.int .i64 a]] w (Got b g w (Qr.fieldOf f (n+1) a s).2.d (Qr.fieldOf f (n+1) a s).1):=by
 have bl:=h.lt
 have HS:=QA hS
 have HN:=QA hn
 obtain ⟨d0,d1⟩:=hd
 have bn:Hid (FJ w b g w.heap.size (w.heap.size+2) [(w.heap.size+1,Obj.cells #[.int .i64 0,.string ⟨#[]⟩,.string ⟨#[]⟩,.slice none 0 0,.slice none 0 0,.slice none 0 0,.int .i64 0] 174 (0,0))] 174 [.int 0,.str [],.str [],.seq 7 [],.seq 3 [],.seq 7 [],.int a] [.int .i64 0,.string ⟨#[]⟩,.string ⟨#[]⟩,.slice none 0 0,.slice none 0 0,.slice none 0 0,.int .i64 a] s ((w.alloc (.cells #[.int .i64 0,.string ⟨#[]⟩,.string ⟨#[]⟩,.slice none 0 0,.slice none 0 0,.slice none 0 0,.int .i64 a] 174)).alloc (.cells #[.int .i64 0,.string ⟨#[]⟩,.string ⟨#[]⟩,.slice none 0 0,.slice none 0 0,.slice none 0 0,.int .i64 0] 174))):=by
  have bh:Below w.heap.size w ((w.alloc (.cells #[.int .i64 0,.string ⟨#[]⟩,.string ⟨#[]⟩,.slice none 0 0,.slice none 0 0,.slice none 0 0,.int .i64 a] 174)).alloc (.cells #[.int .i64 0,.string ⟨#[]⟩,.string ⟨#[]⟩,.slice none 0 0,.slice none 0 0,.slice none 0 0,.int .i64 0] 174)):=((Below.refl _ _).alloc (QM _) _).alloc (by simp) _
  refine QA ⟨h.below bh,fun p hp=>?_,?_,But.of_below bh,bl.1,bl.2,fun p hp=>?_,⟨QM _,by omega⟩,by simp,.cons (.int _) (.cons (.str []) (.cons (.str []) (.cons (.seq (cap:=0) .nil) (.cons (.seq (cap:=0) .nil) (.cons (.seq (cap:=0) .nil) (.cons (.int _) .nil))))))⟩
  ·rw[QB.1 hp]
   have:=heap_at_new (w.alloc (.cells #[.int .i64 0,.string ⟨#[]⟩,.string ⟨#[]⟩,.slice none 0 0,.slice none 0 0,.slice none 0 0,.int .i64 a] 174)) (.cells #[.int .i64 0,.string ⟨#[]⟩,.string ⟨#[]⟩,.slice none 0 0,.slice none 0 0,.slice none 0 0,.int .i64 0] 174)
   rw[show (w.alloc (.cells #[.int .i64 0,.string ⟨#[]⟩,.string ⟨#[]⟩,.slice none 0 0,.slice none 0 0,.slice none 0 0,.int .i64 a] 174)).heap.size=w.heap.size+1 by simp] at this
   exact this
  ·rw[Lib.alloc_old _ _ _ (by simp)];exact heap_at_new _ _
  ·rw[QB.1 hp]
   simp only
   omega
 clear h hS hn
 go_enter Tryz.func230,Tryz.ntmps230
 go_wp2_with fail
 refine (rname_any b g s _ bn.out.rd).mono ?_
 rintro r w1 ⟨rfl,h1,f1⟩
 obtain ⟨s1,bc⟩:∃ x,x=(Rd.name s).1:=⟨_,rfl⟩
 obtain ⟨H,be⟩:∃ x,x=(Rd.name s).2:=⟨_,rfl⟩
 rw[← bc] at h1
 rw[← be]
 have ap:=QA (bn.out.step h1 f1)
 have ba:=QA bc
 have a9:=QA be
 have bm:=QA ((ap.out.put 0 (.int 1) rfl).put 2 (.str H) rfl)
 clear h1 f1 bc be
 have y0:=blk_cell ap.out.b6 0 (.int .i64 0) rfl
 have aq:=blk_free ap.out.b6 0
 have y1:=blk_cell ap.out.b6 1 (.string ⟨#[]⟩) rfl
 have U:=blk_free ap.out.b6 1
 have y2:=blk_cell ap.out.b6 2 (.string ⟨#[]⟩) rfl
 have M:=blk_free ap.out.b6 2
 go_wp2_with fail
 refine (rtake_any b g s1 Rd.colon _ bm.out.rd).mono ?_
 rintro r w2 ⟨rfl,h2,f2⟩
 have a3:=QA (bm.out.step h2 f2)
 obtain ⟨B,hB⟩:∃ B,B=Rd.isS s1 Rd.colon:=⟨_,rfl⟩
 have HB:=QA hB
 rw[← hB]
 clear h2 f2 hB
 clear y0 aq y1 U y2 M
 cases B
 ·have HT:Hid (Rd.take Rd.colon s1=s1):=by unfold Rd.take;rw[if_neg (by rw[← HB.out];simp)];exact QA rfl
  have HX:Hid (FJ w b g w.heap.size (w.heap.size+2) [(w.heap.size+1,Obj.cells #[.int .i64 0,.string ⟨#[]⟩,.string ⟨#[]⟩,.slice none 0 0,.slice none 0 0,.slice none 0 0,.int .i64 0] 174 (0,0))] 174 [.int 1,.str ([]:List UInt8),.str H,.seq 7 [],.seq 3 [],.seq 7 [],.int a] [.int .i64 1,.string ⟨([]:List UInt8).toArray⟩,.string ⟨H.toArray⟩,.slice none 0 0,.slice none 0 0,.slice none 0 0,.int .i64 a] s1 (w2)):=by rw[HT.out] at a3;exact a3
  have L:Hid (Qr.aliasOf s=(s1,(([]:List UInt8),H))):=by unfold Qr.aliasOf;rw[← ba.out,← a9.out,if_neg (by rw[← HB.out];simp)];exact QA rfl
  have R:Hid (Rd.Ok s s1):=by have:=Qr.ok_aliasOf s;rw[L.out] at this;exact QA this
  have P:Hid (s1.deep=s.deep):=by have:=Qr.aliasOf_deep s;rw[L.out] at this;exact QA this
  have aw:Hid (s.err=0→s1.err≠0∨s1.rest.length<s.rest.length):=by have:=@Qr.aliasOf_goes s;rw[L.out] at this;exact QA this
  go_wp2_with fail
  refine (rargs_any b g false n hnb s1 _ HX.out.rd (QR R.out.len HN.out) (by rw[P.out];omega)).mono ?_
  rintro r w4 ⟨a4,k4,rfl,hrd,h4,f4⟩
  obtain ⟨q,hq⟩:∃ x,x=Rd.args false (n+1) s1:=⟨_,rfl⟩
  rw[← hq] at hrd h4 ⊢
  have HQ:=QA hq
  have E:=HX.out.data hrd
  obtain ⟨Q,al⟩:∃ x,x=q.2.length:=⟨_,rfl⟩
  rw[QX,← al] at E ⊢
  have V:=QA (HX.out.step h4 f4)
  have X:Hid (FJ w b g w.heap.size (w.heap.size+2) [(w.heap.size+1,Obj.cells #[.int .i64 0,.string ⟨#[]⟩,.string ⟨#[]⟩,.slice none 0 0,.slice none 0 0,.slice none 0 0,.int .i64 0] 174 (0,0))] 174 [.int 1,.str ([]:List UInt8),.str H,.seq 7 (q.2.map Rd.A.d),.seq 3 [],.seq 7 [],.int a] [.int .i64 1,.string ⟨([]:List UInt8).toArray⟩,.string ⟨H.toArray⟩,.slice a4 Q k4,.slice none 0 0,.slice none 0 0,.int .i64 a] q.1 (w4.setCell ⟨w.heap.size,3,none⟩ (.slice a4 Q k4))):=QA (V.out.put 3 E rfl)
  have N:Hid (Rd.Ok s q.1):=by rw[HQ.out];exact QA (R.out.trans (Rd.ok_args false (n+1) _))
  have ab:Hid (Rd.Ok s1 q.1):=by rw[HQ.out];exact QA (Rd.ok_args false (n+1) _)
  have S:Hid (q.1.deep=s.deep):=by rw[HQ.out,Rd.args_deep,P.out];exact QA rfl
  clear hrd h4 f4 hq E al
  have y3:=blk_cell V.out.b6 3 (.slice none 0 0) rfl
  have Y:=blk_free V.out.b6 3
  go_wp2_with fail
  refine (dirs_any b g n hnb q.1 _ X.out.rd (QR N.out.len HN.out) (by rw[S.out];omega)).mono ?_
  rintro r w5 ⟨a5,k5,rfl,hrd,h5,f5⟩
  obtain ⟨e,he⟩:∃ x,x=Qr.dirs (n+1) q.1:=⟨_,rfl⟩
  rw[← he] at hrd h5 ⊢
  have HE:=QA he
  have E:=X.out.data hrd
  obtain ⟨J,ak⟩:∃ x,x=e.2.length:=⟨_,rfl⟩
  rw[QX,← ak] at E ⊢
  have Z:=QA (X.out.step h5 f5)
  have ae:Hid (FJ w b g w.heap.size (w.heap.size+2) [(w.heap.size+1,Obj.cells #[.int .i64 0,.string ⟨#[]⟩,.string ⟨#[]⟩,.slice none 0 0,.slice none 0 0,.slice none 0 0,.int .i64 0] 174 (0,0))] 174 [.int 1,.str ([]:List UInt8),.str H,.seq 7 (q.2.map Rd.A.d),.seq 3 (e.2.map Qr.Dir.d),.seq 7 [],.int a] [.int .i64 1,.string ⟨([]:List UInt8).toArray⟩,.string ⟨H.toArray⟩,.slice a4 Q k4,.slice a5 J k5,.slice none 0 0,.int .i64 a] e.1 (w5.setCell ⟨w.heap.size,4,none⟩ (.slice a5 J k5))):=QA (Z.out.put 4 E rfl)
  have O:Hid (Rd.Ok s e.1):=by rw[HE.out];exact QA (N.out.trans (Qr.ok_dirs (n+1) _))
  have K:Hid (Rd.Ok s1 e.1):=by rw[HE.out];exact QA (ab.out.trans (Qr.ok_dirs (n+1) _))
  have af:Hid (e.1.deep=s.deep):=by rw[HE.out,Qr.dirs_deep,S.out];exact QA rfl
  clear hrd h5 f5 he E ak y3 Y
  have y4:=blk_cell Z.out.b6 4 (.slice none 0 0) rfl
  have W:=blk_free Z.out.b6 4
  have am:Hid (Below (w5.setCell ⟨w.heap.size,4,none⟩ (.slice a5 J k5)).heap.size (w5.setCell ⟨w.heap.size,4,none⟩ (.slice a5 J k5)) ((w5.setCell ⟨w.heap.size,4,none⟩ (.slice a5 J k5)).alloc (.cells #[.string ⟨#[123]⟩] 9))):=QA ((Below.refl _ _).alloc (QM _) _)
  have aW:Hid (Txts ((w5.setCell ⟨w.heap.size,4,none⟩ (.slice a5 J k5)).alloc (.cells #[.string ⟨#[123]⟩] 9)) (.slice (some ⟨w5.heap.size,0,none⟩) 1 1) [Rd.lbrc]):=by
   have h1:=txts_one (w5.setCell ⟨w.heap.size,4,none⟩ (.slice a5 J k5)) Rd.lbrc ⟨#[123]⟩ 9 rfl
   rw[size_set] at h1
   exact QA h1
  go_wp2_with fail
  refine (ris_any b g e.1 _ [Rd.lbrc] _ ((ae.out.below am.out).rd) aW.out (by simp)).mono ?_
  rintro r w6 ⟨rfl,hb6⟩
  rw[show ([Rd.lbrc].any (Rd.isS e.1))=Rd.isS e.1 Rd.lbrc by simp]
  have o:=QA ((ae.out.below am.out).below hb6)
  obtain ⟨C,hC⟩:∃ C,C=Rd.isS e.1 Rd.lbrc:=⟨_,rfl⟩
  have HC:=QA hC
  rw[← hC]
  clear hC hb6 y4 W
  cases C
  ·have HZ:Hid (Qr.setIf f e.1=(e.1,[])):=by unfold Qr.setIf;rw[if_neg (by rw[← HC.out];simp)];exact QA rfl
   have n1:¬ w.heap.size=w.heap.size+1:=by omega
   have n2:¬ w.heap.size+1=w.heap.size:=by omega
   have HR:Hid (Qr.fieldOf f (n+1) a s=(e.1,(.mk 1 ([]:List UInt8) H q.2 e.2 [] a))):=by
    refine QA ?_
    unfold Qr.fieldOf
    dsimp only
    rw[L.out,← HQ.out,← HE.out,HZ.out]
   have y0:=blk_cell o.out.b6 0 (.int .i64 1) rfl
   have aq:=blk_free o.out.b6 0
   have y1:=blk_cell o.out.b6 1 (.string ⟨([]:List UInt8).toArray⟩) rfl
   have U:=blk_free o.out.b6 1
   have y2:=blk_cell o.out.b6 2 (.string ⟨H.toArray⟩) rfl
   have M:=blk_free o.out.b6 2
   have y3:=blk_cell o.out.b6 3 (.slice a4 Q k4) rfl
   have Y:=blk_free o.out.b6 3
   have y4:=blk_cell o.out.b6 4 (.slice a5 J k5) rfl
   have W:=blk_free o.out.b6 4
   have y5:=blk_cell o.out.b6 5 (.slice none 0 0) rfl
   have a2:=blk_free o.out.b6 5
   have y6:=blk_cell o.out.b6 6 (.int .i64 a) rfl
   have aP:=blk_free o.out.b6 6
   have z0:=blk_cell (o.out.cb _ (QB.2 rfl)) 0 (.int .i64 0) rfl
   have aJ:=blk_free (o.out.cb _ (QB.2 rfl)) 0
   have z1:=blk_cell (o.out.cb _ (QB.2 rfl)) 1 (.string ⟨#[]⟩) rfl
   have aQ:=blk_free (o.out.cb _ (QB.2 rfl)) 1
   have z2:=blk_cell (o.out.cb _ (QB.2 rfl)) 2 (.string ⟨#[]⟩) rfl
   have aI:=blk_free (o.out.cb _ (QB.2 rfl)) 2
   have z3:=blk_cell (o.out.cb _ (QB.2 rfl)) 3 (.slice none 0 0) rfl
   have aF:=blk_free (o.out.cb _ (QB.2 rfl)) 3
   have z4:=blk_cell (o.out.cb _ (QB.2 rfl)) 4 (.slice none 0 0) rfl
   have aO:=blk_free (o.out.cb _ (QB.2 rfl)) 4
   have z5:=blk_cell (o.out.cb _ (QB.2 rfl)) 5 (.slice none 0 0) rfl
   have aH:=blk_free (o.out.cb _ (QB.2 rfl)) 5
   have z6:=blk_cell (o.out.cb _ (QB.2 rfl)) 6 (.int .i64 0) rfl
   have aX:=blk_free (o.out.cb _ (QB.2 rfl)) 6
   have G:=o.out.fin (r:=w.heap.size+1) (QB.2 rfl)
   simp only[putCells,QY,Nat.zero_add] at G
   have T:=QA G
   clear G
   go_wp2_with fail
   refine bodyPost_ret (v:=.agg #[.int .i64 1,.string ⟨([]:List UInt8).toArray⟩,.string ⟨H.toArray⟩,.slice a4 Q k4,.slice a5 J k5,.slice none 0 0,.int .i64 a]) (by simp[results,Tryz.results230,go_sem,z0,z1,z2,z3,z4,z5,z6,n1,n2]) rfl ?_
   rw[HR.out]
   unfold Qr.Sel.d
   rw[Qr.Sel.dl_map]
   exact ⟨_,rfl,T.out⟩
  ·have HZ:Hid (Qr.setIf f e.1=Qr.selsOf f e.1):=by unfold Qr.setIf;rw[if_pos HC.out.symm];exact QA rfl
   have aE:Hid (e.1.err=0):=QA (by have:=HC.out.symm;unfold Rd.isS at this;simp only[ZD,decide_eq_true_eq] at this;exact this.1.1)
   have aj:Hid (s.err=0):=by
    refine QA ?_
    by_cases h0:s.err=0
    ·exact h0
    ·have:=O.out.err h0
     have h2:=aE.out
     rw[this] at h2
     exact absurd h2 h0
   go_wp2_with fail
   refine (HS.out e.1 w6 o.out.rd (QR O.out.len HN.out) af.out aj.out ?_).mono ?_
   ·rcases aw.out aj.out with hx|hx
    ·left;rw[K.out.err hx];exact hx
    ·right;exact Nat.lt_of_le_of_lt K.out.len hx
   rintro r w7 ⟨a6,k6,rfl,hrd,h7,f7⟩
   obtain ⟨z,hz⟩:∃ x,x=Qr.selsOf f e.1:=⟨_,rfl⟩
   rw[← hz] at hrd h7 HZ ⊢
   have E:=o.out.data hrd
   obtain ⟨l6,ai⟩:∃ x,x=z.2.length:=⟨_,rfl⟩
   rw[QX,← ai] at E ⊢
   have D:=QA (o.out.step h7 f7)
   have aG:Hid (FJ w b g w.heap.size (w.heap.size+2) [(w.heap.size+1,Obj.cells #[.int .i64 0,.string ⟨#[]⟩,.string ⟨#[]⟩,.slice none 0 0,.slice none 0 0,.slice none 0 0,.int .i64 0] 174 (0,0))] 174 [.int 1,.str ([]:List UInt8),.str H,.seq 7 (q.2.map Rd.A.d),.seq 3 (e.2.map Qr.Dir.d),.seq 7 (z.2.map Qr.Sel.d),.int a] [.int .i64 1,.string ⟨([]:List UInt8).toArray⟩,.string ⟨H.toArray⟩,.slice a4 Q k4,.slice a5 J k5,.slice a6 l6 k6,.int .i64 a] z.1 (w7.setCell ⟨w.heap.size,5,none⟩ (.slice a6 l6 k6))):=QA (D.out.put 5 E rfl)
   clear hrd h7 f7 hz E ai
   have n1:¬ w.heap.size=w.heap.size+1:=by omega
   have n2:¬ w.heap.size+1=w.heap.size:=by omega
   have HR:Hid (Qr.fieldOf f (n+1) a s=(z.1,(.mk 1 ([]:List UInt8) H q.2 e.2 z.2 a))):=by
    refine QA ?_
    unfold Qr.fieldOf
    dsimp only
    rw[L.out,← HQ.out,← HE.out,HZ.out]
   have y0:=blk_cell D.out.b6 0 (.int .i64 1) rfl
   have aq:=blk_free D.out.b6 0
   have y1:=blk_cell D.out.b6 1 (.string ⟨([]:List UInt8).toArray⟩) rfl
   have U:=blk_free D.out.b6 1
   have y2:=blk_cell D.out.b6 2 (.string ⟨H.toArray⟩) rfl
   have M:=blk_free D.out.b6 2
   have y3:=blk_cell D.out.b6 3 (.slice a4 Q k4) rfl
   have Y:=blk_free D.out.b6 3
   have y4:=blk_cell D.out.b6 4 (.slice a5 J k5) rfl
   have W:=blk_free D.out.b6 4
   have y5:=blk_cell D.out.b6 5 (.slice none 0 0) rfl
   have a2:=blk_free D.out.b6 5
   have y6:=blk_cell D.out.b6 6 (.int .i64 a) rfl
   have aP:=blk_free D.out.b6 6
   have z0:=blk_cell (D.out.cb _ (QB.2 rfl)) 0 (.int .i64 0) rfl
   have aJ:=blk_free (D.out.cb _ (QB.2 rfl)) 0
   have z1:=blk_cell (D.out.cb _ (QB.2 rfl)) 1 (.string ⟨#[]⟩) rfl
   have aQ:=blk_free (D.out.cb _ (QB.2 rfl)) 1
   have z2:=blk_cell (D.out.cb _ (QB.2 rfl)) 2 (.string ⟨#[]⟩) rfl
   have aI:=blk_free (D.out.cb _ (QB.2 rfl)) 2
   have z3:=blk_cell (D.out.cb _ (QB.2 rfl)) 3 (.slice none 0 0) rfl
   have aF:=blk_free (D.out.cb _ (QB.2 rfl)) 3
   have z4:=blk_cell (D.out.cb _ (QB.2 rfl)) 4 (.slice none 0 0) rfl
   have aO:=blk_free (D.out.cb _ (QB.2 rfl)) 4
   have z5:=blk_cell (D.out.cb _ (QB.2 rfl)) 5 (.slice none 0 0) rfl
   have aH:=blk_free (D.out.cb _ (QB.2 rfl)) 5
   have z6:=blk_cell (D.out.cb _ (QB.2 rfl)) 6 (.int .i64 0) rfl
   have aX:=blk_free (D.out.cb _ (QB.2 rfl)) 6
   have G:=aG.out.fin (r:=w.heap.size+1) (QB.2 rfl)
   simp only[putCells,QY,Nat.zero_add] at G
   have T:=QA G
   clear G
   go_wp2_with fail
   refine bodyPost_ret (v:=.agg #[.int .i64 1,.string ⟨([]:List UInt8).toArray⟩,.string ⟨H.toArray⟩,.slice a4 Q k4,.slice a5 J k5,.slice a6 l6 k6,.int .i64 a]) (by simp[results,Tryz.results230,go_sem,z0,z1,z2,z3,z4,z5,z6,n1,n2]) rfl ?_
   rw[HR.out]
   unfold Qr.Sel.d
   rw[Qr.Sel.dl_map]
   exact ⟨_,rfl,T.out⟩
 ·have HT:Hid (Rd.take Rd.colon s1=Rd.next s1):=by unfold Rd.take;rw[if_pos HB.out.symm];exact QA rfl
  have bg:Hid (FJ w b g w.heap.size (w.heap.size+2) [(w.heap.size+1,Obj.cells #[.int .i64 0,.string ⟨#[]⟩,.string ⟨#[]⟩,.slice none 0 0,.slice none 0 0,.slice none 0 0,.int .i64 0] 174 (0,0))] 174 [.int 1,.str [],.str H,.seq 7 [],.seq 3 [],.seq 7 [],.int a] [.int .i64 1,.string ⟨#[]⟩,.string ⟨H.toArray⟩,.slice none 0 0,.slice none 0 0,.slice none 0 0,.int .i64 a] (Rd.next s1) (w2)):=by rw[HT.out] at a3;exact a3
  have y2:=blk_cell bg.out.b6 2 (.string ⟨H.toArray⟩) rfl
  go_wp2_with fail
  refine wp_region_phase (fun _=>True) 10 (by kernel_rfl) ?_
  have ar:=QA (bg.out.below ((Below.refl _ _).drew))
  refine wpAnyB_take (i:=0) (v:=(.pointer (some ⟨w.heap.size,2,none⟩))) (by kernel_rfl) (by decide) rfl (by kernel_rfl) (by kernel_rfl) (by kernel_rfl) (fun _ _ _ h=>h) (Or.inl ⟨by rfl,fun w hSw=>by go_simp⟩) trivial ?_;simp only[Act.put,QD,QK,QI,QJ,QC,QH,QG]
  refine wpAnyB_take (i:=2) (v:=(.pointer (some ⟨b,0,none⟩))) (by kernel_rfl) (by decide) rfl (by kernel_rfl) (by kernel_rfl) (by kernel_rfl) (fun _ _ _ h=>h) (Or.inl ⟨by rfl,fun w hSw=>by go_simp⟩) trivial ?_;simp only[Act.put,QD,QK,QI,QJ,QC,QH,QG]
  refine wpAnyB_take (i:=3) (v:=(.pointer (some ⟨b,0,none⟩))) (by kernel_rfl) (by decide) rfl (by kernel_rfl) (by kernel_rfl) (by kernel_rfl) (fun _ _ _ h=>h) (Or.inl ⟨by rfl,fun w hSw=>by go_simp⟩) trivial ?_;simp only[Act.put,QD,QK,QI,QJ,QC,QH,QG]
  refine wpAnyB_take (i:=4) (v:=(.pointer (some ⟨b,0,none⟩))) (by kernel_rfl) (by decide) rfl (by kernel_rfl) (by kernel_rfl) (by kernel_rfl) (fun _ _ _ h=>h) (Or.inl ⟨by rfl,fun w hSw=>by go_simp⟩) trivial ?_;simp only[Act.put,QD,QK,QI,QJ,QC,QH,QG]
  refine wpAnyB_two (i:=1) (k:=5) (by kernel_rfl) ?_ ?_
  ·refine wpOp_intro (by decide) (fun K1 HK1=>?_);simp only[QE,QL,QF,QN]
   go_wp2_with fail
   refine HK1.out _ _ ⟨fun _=>trivial,?_⟩
   clear HK1
   refine wpAnyB_take (i:=6) (v:=(.pointer (some ⟨w.heap.size,1,none⟩))) (by kernel_rfl) (by decide) rfl (by kernel_rfl) (by kernel_rfl) (by kernel_rfl) (fun _ _ _ h=>h) (Or.inl ⟨by rfl,fun w hSw=>by go_simp⟩) trivial ?_;simp only[Act.put,QD,QK,QI,QJ,QC,QH,QG]
   refine wpAnyB_one (i:=5) (by kernel_rfl) ?_
   clear y2
   refine wpOp_intro (by decide) (fun K5 HK5=>?_);simp only[QE,QL,QF,QN]
   go_wp2_with fail
   refine (rname_any b g (Rd.next s1) _ ar.out.rd).mono ?_
   rintro r w3 ⟨rfl,h3,f3⟩
   obtain ⟨s3,ao⟩:∃ x,x=(Rd.name (Rd.next s1)).1:=⟨_,rfl⟩
   obtain ⟨F,ac⟩:∃ x,x=(Rd.name (Rd.next s1)).2:=⟨_,rfl⟩
   rw[← ao] at h3
   rw[← ac]
   have I:=QA (ar.out.step h3 f3)
   have bd:=QA ao
   have aD:=QA ac
   clear h3 f3 ao ac
   go_wp2_with fail
   refine HK5.out _ _ ⟨fun _=>trivial,?_⟩
   clear HK5
   refine wpAnyB_one (i:=7) (by kernel_rfl) ?_
   refine wpOp_intro (by decide) (fun K7 HK7=>?_);simp only[QE,QL,QF,QN]
   have y1:=blk_cell I.out.b6 1 (.string ⟨#[]⟩) rfl
   have U:=blk_free I.out.b6 1
   have y2:=blk_cell I.out.b6 2 (.string ⟨H.toArray⟩) rfl
   have M:=blk_free I.out.b6 2
   go_wp2_with fail
   refine HK7.out _ _ ⟨fun _=>trivial,?_⟩
   clear HK7
   refine wpAnyB_take (i:=8) (v:=(.pointer (some ⟨w.heap.size,2,none⟩))) (by kernel_rfl) (by decide) rfl (by kernel_rfl) (by kernel_rfl) (by kernel_rfl) (fun _ _ _ h=>h) (Or.inl ⟨by rfl,fun w hSw=>by go_simp⟩) trivial ?_;simp only[Act.put,QD,QK,QI,QJ,QC,QH,QG]
   refine wpAnyB_one (i:=9) (by kernel_rfl) ?_
   refine wpOp_intro (by decide) (fun K9 HK9=>?_);simp only[QE,QL,QF,QN]
   go_wp2_with fail
   refine HK9.out _ _ ⟨fun _=>trivial,?_⟩
   clear HK9
   refine wpAnyB_done (by kernel_rfl) ?_ _
   have bb:=QA ((I.out.put 1 (.str H) rfl).put 2 (.str F) rfl)
   clear y1 U y2 M
   have HX:Hid (FJ w b g w.heap.size (w.heap.size+2) [(w.heap.size+1,Obj.cells #[.int .i64 0,.string ⟨#[]⟩,.string ⟨#[]⟩,.slice none 0 0,.slice none 0 0,.slice none 0 0,.int .i64 0] 174 (0,0))] 174 [.int 1,.str H,.str F,.seq 7 [],.seq 3 [],.seq 7 [],.int a] [.int .i64 1,.string ⟨H.toArray⟩,.string ⟨F.toArray⟩,.slice none 0 0,.slice none 0 0,.slice none 0 0,.int .i64 a] s3 ((w3.setCell ⟨w.heap.size,1,none⟩ (.string ⟨H.toArray⟩)).setCell ⟨w.heap.size,2,none⟩ (.string ⟨F.toArray⟩))):=bb
   have L:Hid (Qr.aliasOf s=(s3,(H,F))):=by unfold Qr.aliasOf;rw[← ba.out,← a9.out,if_pos HB.out.symm,← bd.out,← aD.out];exact QA rfl
   have R:Hid (Rd.Ok s s3):=by have:=Qr.ok_aliasOf s;rw[L.out] at this;exact QA this
   have P:Hid (s3.deep=s.deep):=by have:=Qr.aliasOf_deep s;rw[L.out] at this;exact QA this
   have aw:Hid (s.err=0→s3.err≠0∨s3.rest.length<s.rest.length):=by have:=@Qr.aliasOf_goes s;rw[L.out] at this;exact QA this
   go_wp2_with fail
   refine (rargs_any b g false n hnb s3 _ HX.out.rd (QR R.out.len HN.out) (by rw[P.out];omega)).mono ?_
   rintro r w4 ⟨a4,k4,rfl,hrd,h4,f4⟩
   obtain ⟨q,hq⟩:∃ x,x=Rd.args false (n+1) s3:=⟨_,rfl⟩
   rw[← hq] at hrd h4 ⊢
   have HQ:=QA hq
   have E:=HX.out.data hrd
   obtain ⟨Q,al⟩:∃ x,x=q.2.length:=⟨_,rfl⟩
   rw[QX,← al] at E ⊢
   have V:=QA (HX.out.step h4 f4)
   have X:Hid (FJ w b g w.heap.size (w.heap.size+2) [(w.heap.size+1,Obj.cells #[.int .i64 0,.string ⟨#[]⟩,.string ⟨#[]⟩,.slice none 0 0,.slice none 0 0,.slice none 0 0,.int .i64 0] 174 (0,0))] 174 [.int 1,.str H,.str F,.seq 7 (q.2.map Rd.A.d),.seq 3 [],.seq 7 [],.int a] [.int .i64 1,.string ⟨H.toArray⟩,.string ⟨F.toArray⟩,.slice a4 Q k4,.slice none 0 0,.slice none 0 0,.int .i64 a] q.1 (w4.setCell ⟨w.heap.size,3,none⟩ (.slice a4 Q k4))):=QA (V.out.put 3 E rfl)
   have N:Hid (Rd.Ok s q.1):=by rw[HQ.out];exact QA (R.out.trans (Rd.ok_args false (n+1) _))
   have ab:Hid (Rd.Ok s3 q.1):=by rw[HQ.out];exact QA (Rd.ok_args false (n+1) _)
   have S:Hid (q.1.deep=s.deep):=by rw[HQ.out,Rd.args_deep,P.out];exact QA rfl
   clear hrd h4 f4 hq E al
   have y3:=blk_cell V.out.b6 3 (.slice none 0 0) rfl
   have Y:=blk_free V.out.b6 3
   go_wp2_with fail
   refine (dirs_any b g n hnb q.1 _ X.out.rd (QR N.out.len HN.out) (by rw[S.out];omega)).mono ?_
   rintro r w5 ⟨a5,k5,rfl,hrd,h5,f5⟩
   obtain ⟨e,he⟩:∃ x,x=Qr.dirs (n+1) q.1:=⟨_,rfl⟩
   rw[← he] at hrd h5 ⊢
   have HE:=QA he
   have E:=X.out.data hrd
   obtain ⟨J,ak⟩:∃ x,x=e.2.length:=⟨_,rfl⟩
   rw[QX,← ak] at E ⊢
   have Z:=QA (X.out.step h5 f5)
   have ae:Hid (FJ w b g w.heap.size (w.heap.size+2) [(w.heap.size+1,Obj.cells #[.int .i64 0,.string ⟨#[]⟩,.string ⟨#[]⟩,.slice none 0 0,.slice none 0 0,.slice none 0 0,.int .i64 0] 174 (0,0))] 174 [.int 1,.str H,.str F,.seq 7 (q.2.map Rd.A.d),.seq 3 (e.2.map Qr.Dir.d),.seq 7 [],.int a] [.int .i64 1,.string ⟨H.toArray⟩,.string ⟨F.toArray⟩,.slice a4 Q k4,.slice a5 J k5,.slice none 0 0,.int .i64 a] e.1 (w5.setCell ⟨w.heap.size,4,none⟩ (.slice a5 J k5))):=QA (Z.out.put 4 E rfl)
   have O:Hid (Rd.Ok s e.1):=by rw[HE.out];exact QA (N.out.trans (Qr.ok_dirs (n+1) _))
   have K:Hid (Rd.Ok s3 e.1):=by rw[HE.out];exact QA (ab.out.trans (Qr.ok_dirs (n+1) _))
   have af:Hid (e.1.deep=s.deep):=by rw[HE.out,Qr.dirs_deep,S.out];exact QA rfl
   clear hrd h5 f5 he E ak y3 Y
   have y4:=blk_cell Z.out.b6 4 (.slice none 0 0) rfl
   have W:=blk_free Z.out.b6 4
   have am:Hid (Below (w5.setCell ⟨w.heap.size,4,none⟩ (.slice a5 J k5)).heap.size (w5.setCell ⟨w.heap.size,4,none⟩ (.slice a5 J k5)) ((w5.setCell ⟨w.heap.size,4,none⟩ (.slice a5 J k5)).alloc (.cells #[.string ⟨#[123]⟩] 9))):=QA ((Below.refl _ _).alloc (QM _) _)
   have aW:Hid (Txts ((w5.setCell ⟨w.heap.size,4,none⟩ (.slice a5 J k5)).alloc (.cells #[.string ⟨#[123]⟩] 9)) (.slice (some ⟨w5.heap.size,0,none⟩) 1 1) [Rd.lbrc]):=by
    have h1:=txts_one (w5.setCell ⟨w.heap.size,4,none⟩ (.slice a5 J k5)) Rd.lbrc ⟨#[123]⟩ 9 rfl
    rw[size_set] at h1
    exact QA h1
   go_wp2_with fail
   refine (ris_any b g e.1 _ [Rd.lbrc] _ ((ae.out.below am.out).rd) aW.out (by simp)).mono ?_
   rintro r w6 ⟨rfl,hb6⟩
   rw[show ([Rd.lbrc].any (Rd.isS e.1))=Rd.isS e.1 Rd.lbrc by simp]
   have o:=QA ((ae.out.below am.out).below hb6)
   obtain ⟨C,hC⟩:∃ C,C=Rd.isS e.1 Rd.lbrc:=⟨_,rfl⟩
   have HC:=QA hC
   rw[← hC]
   clear hC hb6 y4 W
   cases C
   ·have HZ:Hid (Qr.setIf f e.1=(e.1,[])):=by unfold Qr.setIf;rw[if_neg (by rw[← HC.out];simp)];exact QA rfl
    have n1:¬ w.heap.size=w.heap.size+1:=by omega
    have n2:¬ w.heap.size+1=w.heap.size:=by omega
    have HR:Hid (Qr.fieldOf f (n+1) a s=(e.1,(.mk 1 H F q.2 e.2 [] a))):=by
     refine QA ?_
     unfold Qr.fieldOf
     dsimp only
     rw[L.out,← HQ.out,← HE.out,HZ.out]
    have y0:=blk_cell o.out.b6 0 (.int .i64 1) rfl
    have aq:=blk_free o.out.b6 0
    have y1:=blk_cell o.out.b6 1 (.string ⟨H.toArray⟩) rfl
    have U:=blk_free o.out.b6 1
    have y2:=blk_cell o.out.b6 2 (.string ⟨F.toArray⟩) rfl
    have M:=blk_free o.out.b6 2
    have y3:=blk_cell o.out.b6 3 (.slice a4 Q k4) rfl
    have Y:=blk_free o.out.b6 3
    have y4:=blk_cell o.out.b6 4 (.slice a5 J k5) rfl
    have W:=blk_free o.out.b6 4
    have y5:=blk_cell o.out.b6 5 (.slice none 0 0) rfl
    have a2:=blk_free o.out.b6 5
    have y6:=blk_cell o.out.b6 6 (.int .i64 a) rfl
    have aP:=blk_free o.out.b6 6
    have z0:=blk_cell (o.out.cb _ (QB.2 rfl)) 0 (.int .i64 0) rfl
    have aJ:=blk_free (o.out.cb _ (QB.2 rfl)) 0
    have z1:=blk_cell (o.out.cb _ (QB.2 rfl)) 1 (.string ⟨#[]⟩) rfl
    have aQ:=blk_free (o.out.cb _ (QB.2 rfl)) 1
    have z2:=blk_cell (o.out.cb _ (QB.2 rfl)) 2 (.string ⟨#[]⟩) rfl
    have aI:=blk_free (o.out.cb _ (QB.2 rfl)) 2
    have z3:=blk_cell (o.out.cb _ (QB.2 rfl)) 3 (.slice none 0 0) rfl
    have aF:=blk_free (o.out.cb _ (QB.2 rfl)) 3
    have z4:=blk_cell (o.out.cb _ (QB.2 rfl)) 4 (.slice none 0 0) rfl
    have aO:=blk_free (o.out.cb _ (QB.2 rfl)) 4
    have z5:=blk_cell (o.out.cb _ (QB.2 rfl)) 5 (.slice none 0 0) rfl
    have aH:=blk_free (o.out.cb _ (QB.2 rfl)) 5
    have z6:=blk_cell (o.out.cb _ (QB.2 rfl)) 6 (.int .i64 0) rfl
    have aX:=blk_free (o.out.cb _ (QB.2 rfl)) 6
    have G:=o.out.fin (r:=w.heap.size+1) (QB.2 rfl)
    simp only[putCells,QY,Nat.zero_add] at G
    have T:=QA G
    clear G
    go_wp2_with fail
    refine bodyPost_ret (v:=.agg #[.int .i64 1,.string ⟨H.toArray⟩,.string ⟨F.toArray⟩,.slice a4 Q k4,.slice a5 J k5,.slice none 0 0,.int .i64 a]) (by simp[results,Tryz.results230,go_sem,z0,z1,z2,z3,z4,z5,z6,n1,n2]) rfl ?_
    rw[HR.out]
    unfold Qr.Sel.d
    rw[Qr.Sel.dl_map]
    exact ⟨_,rfl,T.out⟩
   ·have HZ:Hid (Qr.setIf f e.1=Qr.selsOf f e.1):=by unfold Qr.setIf;rw[if_pos HC.out.symm];exact QA rfl
    have aE:Hid (e.1.err=0):=QA (by have:=HC.out.symm;unfold Rd.isS at this;simp only[ZD,decide_eq_true_eq] at this;exact this.1.1)
    have aj:Hid (s.err=0):=by
     refine QA ?_
     by_cases h0:s.err=0
     ·exact h0
     ·have:=O.out.err h0
      have h2:=aE.out
      rw[this] at h2
      exact absurd h2 h0
    go_wp2_with fail
    refine (HS.out e.1 w6 o.out.rd (QR O.out.len HN.out) af.out aj.out ?_).mono ?_
    ·rcases aw.out aj.out with hx|hx
     ·left;rw[K.out.err hx];exact hx
     ·right;exact Nat.lt_of_le_of_lt K.out.len hx
    rintro r w7 ⟨a6,k6,rfl,hrd,h7,f7⟩
    obtain ⟨z,hz⟩:∃ x,x=Qr.selsOf f e.1:=⟨_,rfl⟩
    rw[← hz] at hrd h7 HZ ⊢
    have E:=o.out.data hrd
    obtain ⟨l6,ai⟩:∃ x,x=z.2.length:=⟨_,rfl⟩
    rw[QX,← ai] at E ⊢
    have D:=QA (o.out.step h7 f7)
    have aG:Hid (FJ w b g w.heap.size (w.heap.size+2) [(w.heap.size+1,Obj.cells #[.int .i64 0,.string ⟨#[]⟩,.string ⟨#[]⟩,.slice none 0 0,.slice none 0 0,.slice none 0 0,.int .i64 0] 174 (0,0))] 174 [.int 1,.str H,.str F,.seq 7 (q.2.map Rd.A.d),.seq 3 (e.2.map Qr.Dir.d),.seq 7 (z.2.map Qr.Sel.d),.int a] [.int .i64 1,.string ⟨H.toArray⟩,.string ⟨F.toArray⟩,.slice a4 Q k4,.slice a5 J k5,.slice a6 l6 k6,.int .i64 a] z.1 (w7.setCell ⟨w.heap.size,5,none⟩ (.slice a6 l6 k6))):=QA (D.out.put 5 E rfl)
    clear hrd h7 f7 hz E ai
    have n1:¬ w.heap.size=w.heap.size+1:=by omega
    have n2:¬ w.heap.size+1=w.heap.size:=by omega
    have HR:Hid (Qr.fieldOf f (n+1) a s=(z.1,(.mk 1 H F q.2 e.2 z.2 a))):=by
     refine QA ?_
     unfold Qr.fieldOf
     dsimp only
     rw[L.out,← HQ.out,← HE.out,HZ.out]
    have y0:=blk_cell D.out.b6 0 (.int .i64 1) rfl
    have aq:=blk_free D.out.b6 0
    have y1:=blk_cell D.out.b6 1 (.string ⟨H.toArray⟩) rfl
    have U:=blk_free D.out.b6 1
    have y2:=blk_cell D.out.b6 2 (.string ⟨F.toArray⟩) rfl
    have M:=blk_free D.out.b6 2
    have y3:=blk_cell D.out.b6 3 (.slice a4 Q k4) rfl
    have Y:=blk_free D.out.b6 3
    have y4:=blk_cell D.out.b6 4 (.slice a5 J k5) rfl
    have W:=blk_free D.out.b6 4
    have y5:=blk_cell D.out.b6 5 (.slice none 0 0) rfl
    have a2:=blk_free D.out.b6 5
    have y6:=blk_cell D.out.b6 6 (.int .i64 a) rfl
    have aP:=blk_free D.out.b6 6
    have z0:=blk_cell (D.out.cb _ (QB.2 rfl)) 0 (.int .i64 0) rfl
    have aJ:=blk_free (D.out.cb _ (QB.2 rfl)) 0
    have z1:=blk_cell (D.out.cb _ (QB.2 rfl)) 1 (.string ⟨#[]⟩) rfl
    have aQ:=blk_free (D.out.cb _ (QB.2 rfl)) 1
    have z2:=blk_cell (D.out.cb _ (QB.2 rfl)) 2 (.string ⟨#[]⟩) rfl
    have aI:=blk_free (D.out.cb _ (QB.2 rfl)) 2
    have z3:=blk_cell (D.out.cb _ (QB.2 rfl)) 3 (.slice none 0 0) rfl
    have aF:=blk_free (D.out.cb _ (QB.2 rfl)) 3
    have z4:=blk_cell (D.out.cb _ (QB.2 rfl)) 4 (.slice none 0 0) rfl
    have aO:=blk_free (D.out.cb _ (QB.2 rfl)) 4
    have z5:=blk_cell (D.out.cb _ (QB.2 rfl)) 5 (.slice none 0 0) rfl
    have aH:=blk_free (D.out.cb _ (QB.2 rfl)) 5
    have z6:=blk_cell (D.out.cb _ (QB.2 rfl)) 6 (.int .i64 0) rfl
    have aX:=blk_free (D.out.cb _ (QB.2 rfl)) 6
    have G:=aG.out.fin (r:=w.heap.size+1) (QB.2 rfl)
    simp only[putCells,QY,Nat.zero_add] at G
    have T:=QA G
    clear G
    go_wp2_with fail
    refine bodyPost_ret (v:=.agg #[.int .i64 1,.string ⟨H.toArray⟩,.string ⟨F.toArray⟩,.slice a4 Q k4,.slice a5 J k5,.slice a6 l6 k6,.int .i64 a]) (by simp[results,Tryz.results230,go_sem,z0,z1,z2,z3,z4,z5,z6,n1,n2]) rfl ?_
    rw[HR.out]
    unfold Qr.Sel.d
    rw[Qr.Sel.dl_map]
    exact ⟨_,rfl,T.out⟩
  ·clear y2
   refine wpOp_intro (by decide) (fun K5 HK5=>?_);simp only[QE,QL,QF,QN]
   go_wp2_with fail
   refine (rname_any b g (Rd.next s1) _ ar.out.rd).mono ?_
   rintro r w3 ⟨rfl,h3,f3⟩
   obtain ⟨s3,ao⟩:∃ x,x=(Rd.name (Rd.next s1)).1:=⟨_,rfl⟩
   obtain ⟨F,ac⟩:∃ x,x=(Rd.name (Rd.next s1)).2:=⟨_,rfl⟩
   rw[← ao] at h3
   rw[← ac]
   have I:=QA (ar.out.step h3 f3)
   have bd:=QA ao
   have aD:=QA ac
   clear h3 f3 ao ac
   go_wp2_with fail
   refine HK5.out _ _ ⟨fun _=>trivial,?_⟩
   clear HK5
   refine wpAnyB_one (i:=1) (by kernel_rfl) ?_
   refine wpOp_intro (by decide) (fun K1 HK1=>?_);simp only[QE,QL,QF,QN]
   have y2:=blk_cell I.out.b6 2 (.string ⟨H.toArray⟩) rfl
   have M:=blk_free I.out.b6 2
   go_wp2_with fail
   refine HK1.out _ _ ⟨fun _=>trivial,?_⟩
   clear HK1
   clear y2 M
   refine wpAnyB_take (i:=6) (v:=(.pointer (some ⟨w.heap.size,1,none⟩))) (by kernel_rfl) (by decide) rfl (by kernel_rfl) (by kernel_rfl) (by kernel_rfl) (fun _ _ _ h=>h) (Or.inl ⟨by rfl,fun w hSw=>by go_simp⟩) trivial ?_;simp only[Act.put,QD,QK,QI,QJ,QC,QH,QG]
   refine wpAnyB_one (i:=7) (by kernel_rfl) ?_
   refine wpOp_intro (by decide) (fun K7 HK7=>?_);simp only[QE,QL,QF,QN]
   have y1:=blk_cell I.out.b6 1 (.string ⟨#[]⟩) rfl
   have U:=blk_free I.out.b6 1
   have y2:=blk_cell I.out.b6 2 (.string ⟨H.toArray⟩) rfl
   have M:=blk_free I.out.b6 2
   go_wp2_with fail
   refine HK7.out _ _ ⟨fun _=>trivial,?_⟩
   clear HK7
   refine wpAnyB_take (i:=8) (v:=(.pointer (some ⟨w.heap.size,2,none⟩))) (by kernel_rfl) (by decide) rfl (by kernel_rfl) (by kernel_rfl) (by kernel_rfl) (fun _ _ _ h=>h) (Or.inl ⟨by rfl,fun w hSw=>by go_simp⟩) trivial ?_;simp only[Act.put,QD,QK,QI,QJ,QC,QH,QG]
   refine wpAnyB_one (i:=9) (by kernel_rfl) ?_
   refine wpOp_intro (by decide) (fun K9 HK9=>?_);simp only[QE,QL,QF,QN]
   go_wp2_with fail
   refine HK9.out _ _ ⟨fun _=>trivial,?_⟩
   clear HK9
   refine wpAnyB_done (by kernel_rfl) ?_ _
   have bb:=QA ((I.out.put 1 (.str H) rfl).put 2 (.str F) rfl)
   clear y1 U y2 M
   have HX:Hid (FJ w b g w.heap.size (w.heap.size+2) [(w.heap.size+1,Obj.cells #[.int .i64 0,.string ⟨#[]⟩,.string ⟨#[]⟩,.slice none 0 0,.slice none 0 0,.slice none 0 0,.int .i64 0] 174 (0,0))] 174 [.int 1,.str H,.str F,.seq 7 [],.seq 3 [],.seq 7 [],.int a] [.int .i64 1,.string ⟨H.toArray⟩,.string ⟨F.toArray⟩,.slice none 0 0,.slice none 0 0,.slice none 0 0,.int .i64 a] s3 ((w3.setCell ⟨w.heap.size,1,none⟩ (.string ⟨H.toArray⟩)).setCell ⟨w.heap.size,2,none⟩ (.string ⟨F.toArray⟩))):=bb
   have L:Hid (Qr.aliasOf s=(s3,(H,F))):=by unfold Qr.aliasOf;rw[← ba.out,← a9.out,if_pos HB.out.symm,← bd.out,← aD.out];exact QA rfl
   have R:Hid (Rd.Ok s s3):=by have:=Qr.ok_aliasOf s;rw[L.out] at this;exact QA this
   have P:Hid (s3.deep=s.deep):=by have:=Qr.aliasOf_deep s;rw[L.out] at this;exact QA this
   have aw:Hid (s.err=0→s3.err≠0∨s3.rest.length<s.rest.length):=by have:=@Qr.aliasOf_goes s;rw[L.out] at this;exact QA this
   go_wp2_with fail
   refine (rargs_any b g false n hnb s3 _ HX.out.rd (QR R.out.len HN.out) (by rw[P.out];omega)).mono ?_
   rintro r w4 ⟨a4,k4,rfl,hrd,h4,f4⟩
   obtain ⟨q,hq⟩:∃ x,x=Rd.args false (n+1) s3:=⟨_,rfl⟩
   rw[← hq] at hrd h4 ⊢
   have HQ:=QA hq
   have E:=HX.out.data hrd
   obtain ⟨Q,al⟩:∃ x,x=q.2.length:=⟨_,rfl⟩
   rw[QX,← al] at E ⊢
   have V:=QA (HX.out.step h4 f4)
   have X:Hid (FJ w b g w.heap.size (w.heap.size+2) [(w.heap.size+1,Obj.cells #[.int .i64 0,.string ⟨#[]⟩,.string ⟨#[]⟩,.slice none 0 0,.slice none 0 0,.slice none 0 0,.int .i64 0] 174 (0,0))] 174 [.int 1,.str H,.str F,.seq 7 (q.2.map Rd.A.d),.seq 3 [],.seq 7 [],.int a] [.int .i64 1,.string ⟨H.toArray⟩,.string ⟨F.toArray⟩,.slice a4 Q k4,.slice none 0 0,.slice none 0 0,.int .i64 a] q.1 (w4.setCell ⟨w.heap.size,3,none⟩ (.slice a4 Q k4))):=QA (V.out.put 3 E rfl)
   have N:Hid (Rd.Ok s q.1):=by rw[HQ.out];exact QA (R.out.trans (Rd.ok_args false (n+1) _))
   have ab:Hid (Rd.Ok s3 q.1):=by rw[HQ.out];exact QA (Rd.ok_args false (n+1) _)
   have S:Hid (q.1.deep=s.deep):=by rw[HQ.out,Rd.args_deep,P.out];exact QA rfl
   clear hrd h4 f4 hq E al
   have y3:=blk_cell V.out.b6 3 (.slice none 0 0) rfl
   have Y:=blk_free V.out.b6 3
   go_wp2_with fail
   refine (dirs_any b g n hnb q.1 _ X.out.rd (QR N.out.len HN.out) (by rw[S.out];omega)).mono ?_
   rintro r w5 ⟨a5,k5,rfl,hrd,h5,f5⟩
   obtain ⟨e,he⟩:∃ x,x=Qr.dirs (n+1) q.1:=⟨_,rfl⟩
   rw[← he] at hrd h5 ⊢
   have HE:=QA he
   have E:=X.out.data hrd
   obtain ⟨J,ak⟩:∃ x,x=e.2.length:=⟨_,rfl⟩
   rw[QX,← ak] at E ⊢
   have Z:=QA (X.out.step h5 f5)
   have ae:Hid (FJ w b g w.heap.size (w.heap.size+2) [(w.heap.size+1,Obj.cells #[.int .i64 0,.string ⟨#[]⟩,.string ⟨#[]⟩,.slice none 0 0,.slice none 0 0,.slice none 0 0,.int .i64 0] 174 (0,0))] 174 [.int 1,.str H,.str F,.seq 7 (q.2.map Rd.A.d),.seq 3 (e.2.map Qr.Dir.d),.seq 7 [],.int a] [.int .i64 1,.string ⟨H.toArray⟩,.string ⟨F.toArray⟩,.slice a4 Q k4,.slice a5 J k5,.slice none 0 0,.int .i64 a] e.1 (w5.setCell ⟨w.heap.size,4,none⟩ (.slice a5 J k5))):=QA (Z.out.put 4 E rfl)
   have O:Hid (Rd.Ok s e.1):=by rw[HE.out];exact QA (N.out.trans (Qr.ok_dirs (n+1) _))
   have K:Hid (Rd.Ok s3 e.1):=by rw[HE.out];exact QA (ab.out.trans (Qr.ok_dirs (n+1) _))
   have af:Hid (e.1.deep=s.deep):=by rw[HE.out,Qr.dirs_deep,S.out];exact QA rfl
   clear hrd h5 f5 he E ak y3 Y
   have y4:=blk_cell Z.out.b6 4 (.slice none 0 0) rfl
   have W:=blk_free Z.out.b6 4
   have am:Hid (Below (w5.setCell ⟨w.heap.size,4,none⟩ (.slice a5 J k5)).heap.size (w5.setCell ⟨w.heap.size,4,none⟩ (.slice a5 J k5)) ((w5.setCell ⟨w.heap.size,4,none⟩ (.slice a5 J k5)).alloc (.cells #[.string ⟨#[123]⟩] 9))):=QA ((Below.refl _ _).alloc (QM _) _)
   have aW:Hid (Txts ((w5.setCell ⟨w.heap.size,4,none⟩ (.slice a5 J k5)).alloc (.cells #[.string ⟨#[123]⟩] 9)) (.slice (some ⟨w5.heap.size,0,none⟩) 1 1) [Rd.lbrc]):=by
    have h1:=txts_one (w5.setCell ⟨w.heap.size,4,none⟩ (.slice a5 J k5)) Rd.lbrc ⟨#[123]⟩ 9 rfl
    rw[size_set] at h1
    exact QA h1
   go_wp2_with fail
   refine (ris_any b g e.1 _ [Rd.lbrc] _ ((ae.out.below am.out).rd) aW.out (by simp)).mono ?_
   rintro r w6 ⟨rfl,hb6⟩
   rw[show ([Rd.lbrc].any (Rd.isS e.1))=Rd.isS e.1 Rd.lbrc by simp]
   have o:=QA ((ae.out.below am.out).below hb6)
   obtain ⟨C,hC⟩:∃ C,C=Rd.isS e.1 Rd.lbrc:=⟨_,rfl⟩
   have HC:=QA hC
   rw[← hC]
   clear hC hb6 y4 W
   cases C
   ·have HZ:Hid (Qr.setIf f e.1=(e.1,[])):=by unfold Qr.setIf;rw[if_neg (by rw[← HC.out];simp)];exact QA rfl
    have n1:¬ w.heap.size=w.heap.size+1:=by omega
    have n2:¬ w.heap.size+1=w.heap.size:=by omega
    have HR:Hid (Qr.fieldOf f (n+1) a s=(e.1,(.mk 1 H F q.2 e.2 [] a))):=by
     refine QA ?_
     unfold Qr.fieldOf
     dsimp only
     rw[L.out,← HQ.out,← HE.out,HZ.out]
    have y0:=blk_cell o.out.b6 0 (.int .i64 1) rfl
    have aq:=blk_free o.out.b6 0
    have y1:=blk_cell o.out.b6 1 (.string ⟨H.toArray⟩) rfl
    have U:=blk_free o.out.b6 1
    have y2:=blk_cell o.out.b6 2 (.string ⟨F.toArray⟩) rfl
    have M:=blk_free o.out.b6 2
    have y3:=blk_cell o.out.b6 3 (.slice a4 Q k4) rfl
    have Y:=blk_free o.out.b6 3
    have y4:=blk_cell o.out.b6 4 (.slice a5 J k5) rfl
    have W:=blk_free o.out.b6 4
    have y5:=blk_cell o.out.b6 5 (.slice none 0 0) rfl
    have a2:=blk_free o.out.b6 5
    have y6:=blk_cell o.out.b6 6 (.int .i64 a) rfl
    have aP:=blk_free o.out.b6 6
    have z0:=blk_cell (o.out.cb _ (QB.2 rfl)) 0 (.int .i64 0) rfl
    have aJ:=blk_free (o.out.cb _ (QB.2 rfl)) 0
    have z1:=blk_cell (o.out.cb _ (QB.2 rfl)) 1 (.string ⟨#[]⟩) rfl
    have aQ:=blk_free (o.out.cb _ (QB.2 rfl)) 1
    have z2:=blk_cell (o.out.cb _ (QB.2 rfl)) 2 (.string ⟨#[]⟩) rfl
    have aI:=blk_free (o.out.cb _ (QB.2 rfl)) 2
    have z3:=blk_cell (o.out.cb _ (QB.2 rfl)) 3 (.slice none 0 0) rfl
    have aF:=blk_free (o.out.cb _ (QB.2 rfl)) 3
    have z4:=blk_cell (o.out.cb _ (QB.2 rfl)) 4 (.slice none 0 0) rfl
    have aO:=blk_free (o.out.cb _ (QB.2 rfl)) 4
    have z5:=blk_cell (o.out.cb _ (QB.2 rfl)) 5 (.slice none 0 0) rfl
    have aH:=blk_free (o.out.cb _ (QB.2 rfl)) 5
    have z6:=blk_cell (o.out.cb _ (QB.2 rfl)) 6 (.int .i64 0) rfl
    have aX:=blk_free (o.out.cb _ (QB.2 rfl)) 6
    have G:=o.out.fin (r:=w.heap.size+1) (QB.2 rfl)
    simp only[putCells,QY,Nat.zero_add] at G
    have T:=QA G
    clear G
    go_wp2_with fail
    refine bodyPost_ret (v:=.agg #[.int .i64 1,.string ⟨H.toArray⟩,.string ⟨F.toArray⟩,.slice a4 Q k4,.slice a5 J k5,.slice none 0 0,.int .i64 a]) (by simp[results,Tryz.results230,go_sem,z0,z1,z2,z3,z4,z5,z6,n1,n2]) rfl ?_
    rw[HR.out]
    unfold Qr.Sel.d
    rw[Qr.Sel.dl_map]
    exact ⟨_,rfl,T.out⟩
   ·have HZ:Hid (Qr.setIf f e.1=Qr.selsOf f e.1):=by unfold Qr.setIf;rw[if_pos HC.out.symm];exact QA rfl
    have aE:Hid (e.1.err=0):=QA (by have:=HC.out.symm;unfold Rd.isS at this;simp only[ZD,decide_eq_true_eq] at this;exact this.1.1)
    have aj:Hid (s.err=0):=by
     refine QA ?_
     by_cases h0:s.err=0
     ·exact h0
     ·have:=O.out.err h0
      have h2:=aE.out
      rw[this] at h2
      exact absurd h2 h0
    go_wp2_with fail
    refine (HS.out e.1 w6 o.out.rd (QR O.out.len HN.out) af.out aj.out ?_).mono ?_
    ·rcases aw.out aj.out with hx|hx
     ·left;rw[K.out.err hx];exact hx
     ·right;exact Nat.lt_of_le_of_lt K.out.len hx
    rintro r w7 ⟨a6,k6,rfl,hrd,h7,f7⟩
    obtain ⟨z,hz⟩:∃ x,x=Qr.selsOf f e.1:=⟨_,rfl⟩
    rw[← hz] at hrd h7 HZ ⊢
    have E:=o.out.data hrd
    obtain ⟨l6,ai⟩:∃ x,x=z.2.length:=⟨_,rfl⟩
    rw[QX,← ai] at E ⊢
    have D:=QA (o.out.step h7 f7)
    have aG:Hid (FJ w b g w.heap.size (w.heap.size+2) [(w.heap.size+1,Obj.cells #[.int .i64 0,.string ⟨#[]⟩,.string ⟨#[]⟩,.slice none 0 0,.slice none 0 0,.slice none 0 0,.int .i64 0] 174 (0,0))] 174 [.int 1,.str H,.str F,.seq 7 (q.2.map Rd.A.d),.seq 3 (e.2.map Qr.Dir.d),.seq 7 (z.2.map Qr.Sel.d),.int a] [.int .i64 1,.string ⟨H.toArray⟩,.string ⟨F.toArray⟩,.slice a4 Q k4,.slice a5 J k5,.slice a6 l6 k6,.int .i64 a] z.1 (w7.setCell ⟨w.heap.size,5,none⟩ (.slice a6 l6 k6))):=QA (D.out.put 5 E rfl)
    clear hrd h7 f7 hz E ai
    have n1:¬ w.heap.size=w.heap.size+1:=by omega
    have n2:¬ w.heap.size+1=w.heap.size:=by omega
    have HR:Hid (Qr.fieldOf f (n+1) a s=(z.1,(.mk 1 H F q.2 e.2 z.2 a))):=by
     refine QA ?_
     unfold Qr.fieldOf
     dsimp only
     rw[L.out,← HQ.out,← HE.out,HZ.out]
    have y0:=blk_cell D.out.b6 0 (.int .i64 1) rfl
    have aq:=blk_free D.out.b6 0
    have y1:=blk_cell D.out.b6 1 (.string ⟨H.toArray⟩) rfl
    have U:=blk_free D.out.b6 1
    have y2:=blk_cell D.out.b6 2 (.string ⟨F.toArray⟩) rfl
    have M:=blk_free D.out.b6 2
    have y3:=blk_cell D.out.b6 3 (.slice a4 Q k4) rfl
    have Y:=blk_free D.out.b6 3
    have y4:=blk_cell D.out.b6 4 (.slice a5 J k5) rfl
    have W:=blk_free D.out.b6 4
    have y5:=blk_cell D.out.b6 5 (.slice none 0 0) rfl
    have a2:=blk_free D.out.b6 5
    have y6:=blk_cell D.out.b6 6 (.int .i64 a) rfl
    have aP:=blk_free D.out.b6 6
    have z0:=blk_cell (D.out.cb _ (QB.2 rfl)) 0 (.int .i64 0) rfl
    have aJ:=blk_free (D.out.cb _ (QB.2 rfl)) 0
    have z1:=blk_cell (D.out.cb _ (QB.2 rfl)) 1 (.string ⟨#[]⟩) rfl
    have aQ:=blk_free (D.out.cb _ (QB.2 rfl)) 1
    have z2:=blk_cell (D.out.cb _ (QB.2 rfl)) 2 (.string ⟨#[]⟩) rfl
    have aI:=blk_free (D.out.cb _ (QB.2 rfl)) 2
    have z3:=blk_cell (D.out.cb _ (QB.2 rfl)) 3 (.slice none 0 0) rfl
    have aF:=blk_free (D.out.cb _ (QB.2 rfl)) 3
    have z4:=blk_cell (D.out.cb _ (QB.2 rfl)) 4 (.slice none 0 0) rfl
    have aO:=blk_free (D.out.cb _ (QB.2 rfl)) 4
    have z5:=blk_cell (D.out.cb _ (QB.2 rfl)) 5 (.slice none 0 0) rfl
    have aH:=blk_free (D.out.cb _ (QB.2 rfl)) 5
    have z6:=blk_cell (D.out.cb _ (QB.2 rfl)) 6 (.int .i64 0) rfl
    have aX:=blk_free (D.out.cb _ (QB.2 rfl)) 6
    have G:=aG.out.fin (r:=w.heap.size+1) (QB.2 rfl)
    simp only[putCells,QY,Nat.zero_add] at G
    have T:=QA G
    clear G
    go_wp2_with fail
    refine bodyPost_ret (v:=.agg #[.int .i64 1,.string ⟨H.toArray⟩,.string ⟨F.toArray⟩,.slice a4 Q k4,.slice a5 J k5,.slice a6 l6 k6,.int .i64 a]) (by simp[results,Tryz.results230,go_sem,z0,z1,z2,z3,z4,z5,z6,n1,n2]) rfl ?_
    rw[HR.out]
    unfold Qr.Sel.d
    rw[Qr.Sel.dl_map]
    exact ⟨_,rfl,T.out⟩
end Go.Proofs.YtefjgpkpplkkgaaGreatDoor
