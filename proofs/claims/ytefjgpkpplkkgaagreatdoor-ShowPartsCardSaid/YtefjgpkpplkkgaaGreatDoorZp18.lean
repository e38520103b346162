/-
  The reader of documents: a fragment, walked. Values in memory. Values are compared: 'Same', walked. 'Parse' of a value, of a type, walked. 'ParseType', walked.
-/
import Derived.Test.YtefjgpkpplkkgaaGreatDoorZp17
import Derived.Test.YtefjgpkpplkkgaaGreatDoorZp12
import Derived.Test.YtefjgpkpplkkgaaGreatDoorZp2
import Derived.Test.YtefjgpkpplkkgaaGreatDoorZp13
import Derived.Test.YtefjgpkpplkkgaaGreatDoorZp4
open Go.Lib renaming hid → QA
open List renaming mem_singleton → QB, length_map → QX, mem_of_getElem? → ZC, drop_eq_getElem_cons → ZE, drop_eq_nil_of_le → ZF, getElem?_map → ZI, getElem?_eq_getElem → ZJ
open Nat renaming le_refl → QM, le_trans → QR, reduceAdd → QY
namespace Go.Proofs.YtefjgpkpplkkgaaGreatDoor
set_option linter.unusedSimpArgs false
set_option linter.unusedVariables false
open Go Go.RowKit
set_option maxHeartbeats 4000000 in
set_option maxRecDepth 100000 in
theorem frag_any (b g n:Nat) (hnb:n≤1600) (s:Rd.St) (w:World) (h:RdAt w b g s) (hn:s.rest.length≤n) (hd:0≤s.deep∧s.deep≤700000) :
  Calls Tryz.prog 111 #[.pointer (some ⟨b,0,none⟩)] w (Got b g w (Qr.frag (n+1) s).2.d (Qr.frag (n+1) s).1):=by
 have bi:=h.lt
 have HN:=QA hn
 have H:=QA h
 have a8:Hid (Rd.Ok s (Rd.next s)):=QA (Rd.ok_next s)
 have bh:Hid ((Rd.next s).deep=s.deep):=QA (Rd.next_deep s)
 obtain ⟨d0,d1⟩:=hd
 have bd:Below w.heap.size w (w.alloc (.cells #[.string ⟨#[]⟩,.string ⟨#[]⟩,.slice none 0 0,.slice none 0 0,.int .i64 0] 102)):=(Below.refl _ _).alloc (QM _) _
 have bb:=QA bd
 clear h hn bd
 go_enter Tryz.func111,Tryz.ntmps111
 go_wp2_with fail
 refine (rnext_any b g s _ (H.out.below bb.out)).mono ?_
 rintro r w2 ⟨rfl,h2,f2⟩
 obtain ⟨F,a3⟩:∃ x,x=(Rd.peek s).at_:=⟨_,rfl⟩
 rw[← a3]
 have bj:=QA a3
 have a6:Hid (FJ w b g w2.heap.size (w2.heap.size+1) [(w.heap.size,Obj.cells #[.string ⟨#[]⟩,.string ⟨#[]⟩,.slice none 0 0,.slice none 0 0,.int .i64 0] 102 (0,0))] 102 [.str [],.str [],.seq 3 [],.seq 7 [],.int F] [.string ⟨#[]⟩,.string ⟨#[]⟩,.slice none 0 0,.slice none 0 0,.int .i64 F] (Rd.next s) (w2.alloc (.cells #[.string ⟨#[]⟩,.string ⟨#[]⟩,.slice none 0 0,.slice none 0 0,.int .i64 F] 102))):=by
  have aV:Below w2.heap.size w2 (w2.alloc (.cells #[.string ⟨#[]⟩,.string ⟨#[]⟩,.slice none 0 0,.slice none 0 0,.int .i64 F] 102)):=(Below.refl _ _).alloc (QM _) _
  have bJ:(w.alloc (.cells #[.string ⟨#[]⟩,.string ⟨#[]⟩,.slice none 0 0,.slice none 0 0,.int .i64 0] 102)).heap.size=w.heap.size+1:=by simp
  have bM:=f2.size
  refine QA ⟨h2.below aV,fun p hp=>?_,heap_at_new _ _,((But.of_below bb.out).trans f2).trans (But.of_below aV),bi.1,bi.2,fun p hp=>?_,⟨by omega,by omega⟩,by simp,.cons (.str []) (.cons (.str []) (.cons (.seq (cap:=0) .nil) (.cons (.seq (cap:=0) .nil) (.cons (.int _) .nil))))⟩
  ·rw[QB.1 hp]
   show (w2.alloc _).heap[w.heap.size]?=_
   rw[aV.block w.heap.size (by omega),f2.block w.heap.size (by omega) (by omega)]
   exact heap_at_new _ _
  ·rw[QB.1 hp]
   simp only
   omega
 have bx:w.heap.size<w2.heap.size:=by have:=f2.size;simp at this;omega
 obtain ⟨K,aU⟩:∃ x,x=w2.heap.size:=⟨_,rfl⟩
 obtain ⟨lo,a7⟩:∃ x,x=w2.heap.size+1:=⟨_,rfl⟩
 have n1:¬ K=w.heap.size:=by omega
 have n2:¬ w.heap.size=K:=by omega
 clear h2 f2 a3
 go_wp2_with fail
 refine (but_any b g (Rd.next s) _ a6.out.rd).mono ?_
 rintro r w3 ⟨rfl,h3,f3⟩
 have aN:=a6.out.step h3 f3
 rw[← a7,← aU] at aN
 rw[← aU]
 obtain ⟨V,aZ⟩:∃ x,x=(Qr.but (Rd.next s)).1:=⟨_,rfl⟩
 obtain ⟨o,aD⟩:∃ x,x=(Qr.but (Rd.next s)).2:=⟨_,rfl⟩
 rw[← aZ] at aN
 rw[← aD]
 have ak:=QA aZ
 have aS:=QA aD
 have a0:=QA aN
 have aR:Hid (Rd.Ok s V):=by rw[ak.out];exact QA (a8.out.trans (Qr.ok_but _))
 have aQ:Hid (V.deep=s.deep):=by rw[ak.out,Qr.but_deep];exact bh
 clear h3 f3 aN aU a7 bx a6 aZ aD
 have y0:=blk_cell a0.out.b6 0 (.string ⟨#[]⟩) rfl
 have a1:=blk_free a0.out.b6 0
 have bc:Hid (FJ w b g K lo [(w.heap.size,Obj.cells #[.string ⟨#[]⟩,.string ⟨#[]⟩,.slice none 0 0,.slice none 0 0,.int .i64 0] 102 (0,0))] 102 [.str o,.str [],.seq 3 [],.seq 7 [],.int F] [.string ⟨o.toArray⟩,.string ⟨#[]⟩,.slice none 0 0,.slice none 0 0,.int .i64 F] V ((w3).setCell ⟨K,0,none⟩ (.string ⟨o.toArray⟩))):=QA (a0.out.put 0 (.str o) rfl)
 have aP:Hid (Below ((w3).setCell ⟨K,0,none⟩ (.string ⟨o.toArray⟩)).heap.size ((w3).setCell ⟨K,0,none⟩ (.string ⟨o.toArray⟩)) (((w3).setCell ⟨K,0,none⟩ (.string ⟨o.toArray⟩)).alloc (.cells #[.string ⟨#[111,110]⟩] 9))):=QA ((Below.refl _ _).alloc (QM _) _)
 obtain ⟨bF,aL⟩:∃ x,x=((w3).setCell ⟨K,0,none⟩ (.string ⟨o.toArray⟩)).heap.size:=⟨_,rfl⟩
 have be:Hid (Txts (((w3).setCell ⟨K,0,none⟩ (.string ⟨o.toArray⟩)).alloc (.cells #[.string ⟨#[111,110]⟩] 9)) (.slice (some ⟨bF,0,none⟩) 1 1) [Qr.sOn]):=by
  rw[aL];exact QA (txts_one _ Qr.sOn ⟨#[111,110]⟩ 9 rfl)
 try simp only[size_set] at aL
 subst aL
 go_wp2_with fail
 refine (rword_any b g V _ [Qr.sOn] _ ((bc.out.below aP.out).rd) be.out (by simp)).mono ?_
 rintro r w4x ⟨rfl,hb4⟩
 have aO:Hid (FJ w b g K lo [(w.heap.size,Obj.cells #[.string ⟨#[]⟩,.string ⟨#[]⟩,.slice none 0 0,.slice none 0 0,.int .i64 0] 102 (0,0))] 102 [.str o,.str [],.seq 3 [],.seq 7 [],.int F] [.string ⟨o.toArray⟩,.string ⟨#[]⟩,.slice none 0 0,.slice none 0 0,.int .i64 F] V (w4x)):=QA ((bc.out.below aP.out).below hb4)
 obtain ⟨B,hB⟩:∃ B,B=Rd.isW V [Qr.sOn]:=⟨_,rfl⟩
 have HB:=QA hB
 rw[← hB]
 clear hB hb4
 clear y0 a1
 cases B
 ·go_wp2_with fail
  refine (rwrong_any b g V _ aO.out.rd).mono ?_
  rintro r w21x ⟨rfl,h21,f21⟩
  obtain ⟨I,P⟩:∃ x,x=Rd.wrong V:=⟨_,rfl⟩
  rw[← P] at h21
  have J:=QA P
  have aa:Hid (Rd.Ok s I):=by rw[J.out];exact QA (aR.out.trans (Rd.ok_wrong _))
  have ab:Hid (I.deep=s.deep):=by rw[J.out,Rd.wrong_deep];exact aQ
  have ae:Hid (FJ w b g K lo [(w.heap.size,Obj.cells #[.string ⟨#[]⟩,.string ⟨#[]⟩,.slice none 0 0,.slice none 0 0,.int .i64 0] 102 (0,0))] 102 [.str o,.str [],.seq 3 [],.seq 7 [],.int F] [.string ⟨o.toArray⟩,.string ⟨#[]⟩,.slice none 0 0,.slice none 0 0,.int .i64 F] I (w21x)):=QA (aO.out.step h21 f21)
  clear h21 f21 P
  go_wp2_with fail
  refine (rnext_any b g I _ ae.out.rd).mono ?_
  rintro r w22x ⟨rfl,h22,f22⟩
  obtain ⟨G,U⟩:∃ x,x=Rd.next I:=⟨_,rfl⟩
  rw[← U] at h22
  have M:=QA U
  have N:Hid (Rd.Ok s G):=by rw[M.out];exact QA (aa.out.trans (Rd.ok_next _))
  have O:Hid (G.deep=s.deep):=by rw[M.out,Rd.next_deep];exact ab
  have X:Hid (FJ w b g K lo [(w.heap.size,Obj.cells #[.string ⟨#[]⟩,.string ⟨#[]⟩,.slice none 0 0,.slice none 0 0,.int .i64 0] 102 (0,0))] 102 [.str o,.str [],.seq 3 [],.seq 7 [],.int F] [.string ⟨o.toArray⟩,.string ⟨#[]⟩,.slice none 0 0,.slice none 0 0,.int .i64 F] G (w22x)):=QA (ae.out.step h22 f22)
  clear h22 f22 U
  go_wp2_with fail
  refine (rname_any b g G _ X.out.rd).mono ?_
  rintro r w23x ⟨rfl,h23,f23⟩
  obtain ⟨W,au⟩:∃ x,x=(Rd.name G).1:=⟨_,rfl⟩
  rw[← au] at h23
  have ag:=QA au
  have al:Hid (Rd.Ok s W):=by rw[ag.out];exact QA (N.out.trans (Rd.ok_name _))
  have aj:Hid (W.deep=s.deep):=by rw[ag.out,Rd.name_deep];exact O
  obtain ⟨D,af⟩:∃ x,x=(Rd.name G).2:=⟨_,rfl⟩
  rw[← af]
  have aT:=QA af
  clear af
  have ay:Hid (FJ w b g K lo [(w.heap.size,Obj.cells #[.string ⟨#[]⟩,.string ⟨#[]⟩,.slice none 0 0,.slice none 0 0,.int .i64 0] 102 (0,0))] 102 [.str o,.str [],.seq 3 [],.seq 7 [],.int F] [.string ⟨o.toArray⟩,.string ⟨#[]⟩,.slice none 0 0,.slice none 0 0,.int .i64 F] W (w23x)):=QA (X.out.step h23 f23)
  clear h23 f23 au
  have y1:=blk_cell ay.out.b6 1 (.string ⟨#[]⟩) rfl
  have ax:=blk_free ay.out.b6 1
  have av:Hid (FJ w b g K lo [(w.heap.size,Obj.cells #[.string ⟨#[]⟩,.string ⟨#[]⟩,.slice none 0 0,.slice none 0 0,.int .i64 0] 102 (0,0))] 102 [.str o,.str D,.seq 3 [],.seq 7 [],.int F] [.string ⟨o.toArray⟩,.string ⟨D.toArray⟩,.slice none 0 0,.slice none 0 0,.int .i64 F] W ((w23x).setCell ⟨K,1,none⟩ (.string ⟨D.toArray⟩))):=QA (ay.out.put 1 (.str D) rfl)
  go_wp2_with fail
  refine (dirs_any b g n hnb W _ av.out.rd (QR al.out.len HN.out) (by rw[aj.out];omega)).mono ?_
  rintro r w25x ⟨ra25,rc25,rfl,hrd,h25,f25⟩
  obtain ⟨Q,aM⟩:∃ x,x=Qr.dirs (n+1) W:=⟨_,rfl⟩
  rw[← aM] at hrd h25 ⊢
  have aw:=QA aM
  have L:=av.out.data hrd
  obtain ⟨Z,R⟩:∃ x,x=Q.2.length:=⟨_,rfl⟩
  rw[QX,← R] at L ⊢
  have ai:Hid (Rd.Ok s Q.1):=by rw[aw.out];exact QA (al.out.trans (Qr.ok_dirs (n+1) _))
  have ao:Hid (Q.1.deep=s.deep):=by rw[aw.out,Qr.dirs_deep];exact aj
  have aE:Hid (FJ w b g K lo [(w.heap.size,Obj.cells #[.string ⟨#[]⟩,.string ⟨#[]⟩,.slice none 0 0,.slice none 0 0,.int .i64 0] 102 (0,0))] 102 [.str o,.str D,.seq 3 [],.seq 7 [],.int F] [.string ⟨o.toArray⟩,.string ⟨D.toArray⟩,.slice none 0 0,.slice none 0 0,.int .i64 F] Q.1 (w25x)):=QA (av.out.step h25 f25)
  have a4:=QA L
  clear hrd h25 f25 aM L R
  have y2:=blk_cell aE.out.b6 2 (.slice none 0 0) rfl
  have aA:=blk_free aE.out.b6 2
  have ap:Hid (FJ w b g K lo [(w.heap.size,Obj.cells #[.string ⟨#[]⟩,.string ⟨#[]⟩,.slice none 0 0,.slice none 0 0,.int .i64 0] 102 (0,0))] 102 [.str o,.str D,.seq 3 (Q.2.map Qr.Dir.d),.seq 7 [],.int F] [.string ⟨o.toArray⟩,.string ⟨D.toArray⟩,.slice ra25 Z rc25,.slice none 0 0,.int .i64 F] Q.1 ((w25x).setCell ⟨K,2,none⟩ (.slice ra25 Z rc25))):=QA (aE.out.put 2 (a4.out) rfl)
  clear y1 ax
  go_wp2_with fail
  refine (sels_any b g n hnb Q.1 _ ap.out.rd (QR ai.out.len HN.out) (by rw[ao.out];omega)).mono ?_
  rintro r w27x ⟨ra27,rc27,rfl,hrd,h27,f27⟩
  obtain ⟨ac,aB⟩:∃ x,x=Qr.sels (n+1) (n+1) Q.1:=⟨_,rfl⟩
  rw[← aB] at hrd h27 ⊢
  have aq:=QA aB
  have L:=ap.out.data hrd
  obtain ⟨aK,R⟩:∃ x,x=ac.2.length:=⟨_,rfl⟩
  rw[QX,← R] at L ⊢
  have bk:Hid (Rd.Ok s ac.1):=by rw[aq.out];exact QA (ai.out.trans (Qr.ok_selsOf _ (Qr.ok_sel (n+1) (n+1)) _))
  have bl:Hid (ac.1.deep=s.deep):=by rw[aq.out,show (Qr.sels (n+1) (n+1) _).1.deep=_ from Qr.selsOf_deep _ (Qr.sel_deep (n+1) (n+1)) _];exact ao
  have C:Hid (FJ w b g K lo [(w.heap.size,Obj.cells #[.string ⟨#[]⟩,.string ⟨#[]⟩,.slice none 0 0,.slice none 0 0,.int .i64 0] 102 (0,0))] 102 [.str o,.str D,.seq 3 (Q.2.map Qr.Dir.d),.seq 7 [],.int F] [.string ⟨o.toArray⟩,.string ⟨D.toArray⟩,.slice ra25 Z rc25,.slice none 0 0,.int .i64 F] ac.1 (w27x)):=QA (ap.out.step h27 f27)
  have aY:=QA L
  clear hrd h27 f27 aB L R
  have y3:=blk_cell C.out.b6 3 (.slice none 0 0) rfl
  have bz:=blk_free C.out.b6 3
  have a9:Hid (FJ w b g K lo [(w.heap.size,Obj.cells #[.string ⟨#[]⟩,.string ⟨#[]⟩,.slice none 0 0,.slice none 0 0,.int .i64 0] 102 (0,0))] 102 [.str o,.str D,.seq 3 (Q.2.map Qr.Dir.d),.seq 7 (ac.2.map Qr.Sel.d),.int F] [.string ⟨o.toArray⟩,.string ⟨D.toArray⟩,.slice ra25 Z rc25,.slice ra27 aK rc27,.int .i64 F] ac.1 ((w27x).setCell ⟨K,3,none⟩ (.slice ra27 aK rc27))):=QA (C.out.put 3 (aY.out) rfl)
  have HR:Hid (Qr.frag (n+1) s=(ac.1,⟨o,D,Q.2,ac.2,F⟩)):=by
   refine QA ?_
   unfold Qr.frag
   dsimp only
   rw[← ak.out,← aS.out,if_neg (by rw[← HB.out];simp),← J.out,← M.out,← ag.out,← aT.out,← aw.out,← aq.out,← bj.out]
  clear y2 aA
  have y0:=blk_cell C.out.b6 0 (.string ⟨o.toArray⟩) rfl
  have a1:=blk_free C.out.b6 0
  have y1:=blk_cell C.out.b6 1 (.string ⟨D.toArray⟩) rfl
  have ax:=blk_free C.out.b6 1
  have y2:=blk_cell C.out.b6 2 (.slice ra25 Z rc25) rfl
  have aA:=blk_free C.out.b6 2
  have y4:=blk_cell C.out.b6 4 (.int .i64 F) rfl
  have bt:=blk_free C.out.b6 4
  have z0:=blk_cell (C.out.cb _ (QB.2 rfl)) 0 (.string ⟨#[]⟩) rfl
  have bv:=blk_free (C.out.cb _ (QB.2 rfl)) 0
  have z1:=blk_cell (C.out.cb _ (QB.2 rfl)) 1 (.string ⟨#[]⟩) rfl
  have bB:=blk_free (C.out.cb _ (QB.2 rfl)) 1
  have z2:=blk_cell (C.out.cb _ (QB.2 rfl)) 2 (.slice none 0 0) rfl
  have bu:=blk_free (C.out.cb _ (QB.2 rfl)) 2
  have z3:=blk_cell (C.out.cb _ (QB.2 rfl)) 3 (.slice none 0 0) rfl
  have bs:=blk_free (C.out.cb _ (QB.2 rfl)) 3
  have z4:=blk_cell (C.out.cb _ (QB.2 rfl)) 4 (.int .i64 0) rfl
  have bA:=blk_free (C.out.cb _ (QB.2 rfl)) 4
  have T:=a9.out.fin (r:=w.heap.size) (QB.2 rfl)
  simp only[putCells,QY,Nat.zero_add] at T
  have aW:=QA T
  clear T
  go_wp2_with fail
  refine bodyPost_ret (v:=.agg #[.string ⟨o.toArray⟩,.string ⟨D.toArray⟩,.slice ra25 Z rc25,.slice ra27 aK rc27,.int .i64 F]) (by simp[results,Tryz.results111,go_sem,z0,z1,z2,z3,z4,n1,n2]) rfl ?_
  rw[HR.out]
  exact ⟨_,rfl,aW.out⟩
 ·go_wp2_with fail
  refine (rnext_any b g V _ aO.out.rd).mono ?_
  rintro r w21x ⟨rfl,h21,f21⟩
  obtain ⟨I,P⟩:∃ x,x=Rd.next V:=⟨_,rfl⟩
  rw[← P] at h21
  have J:=QA P
  have aa:Hid (Rd.Ok s I):=by rw[J.out];exact QA (aR.out.trans (Rd.ok_next _))
  have ab:Hid (I.deep=s.deep):=by rw[J.out,Rd.next_deep];exact aQ
  have ae:Hid (FJ w b g K lo [(w.heap.size,Obj.cells #[.string ⟨#[]⟩,.string ⟨#[]⟩,.slice none 0 0,.slice none 0 0,.int .i64 0] 102 (0,0))] 102 [.str o,.str [],.seq 3 [],.seq 7 [],.int F] [.string ⟨o.toArray⟩,.string ⟨#[]⟩,.slice none 0 0,.slice none 0 0,.int .i64 F] I (w21x)):=QA (aO.out.step h21 f21)
  clear h21 f21 P
  go_wp2_with fail
  refine (rname_any b g I _ ae.out.rd).mono ?_
  rintro r w22x ⟨rfl,h22,f22⟩
  obtain ⟨G,U⟩:∃ x,x=(Rd.name I).1:=⟨_,rfl⟩
  rw[← U] at h22
  have M:=QA U
  have N:Hid (Rd.Ok s G):=by rw[M.out];exact QA (aa.out.trans (Rd.ok_name _))
  have O:Hid (G.deep=s.deep):=by rw[M.out,Rd.name_deep];exact ab
  obtain ⟨E,ah⟩:∃ x,x=(Rd.name I).2:=⟨_,rfl⟩
  rw[← ah]
  have a2:=QA ah
  clear ah
  have X:Hid (FJ w b g K lo [(w.heap.size,Obj.cells #[.string ⟨#[]⟩,.string ⟨#[]⟩,.slice none 0 0,.slice none 0 0,.int .i64 0] 102 (0,0))] 102 [.str o,.str [],.seq 3 [],.seq 7 [],.int F] [.string ⟨o.toArray⟩,.string ⟨#[]⟩,.slice none 0 0,.slice none 0 0,.int .i64 F] G (w22x)):=QA (ae.out.step h22 f22)
  clear h22 f22 U
  have y1:=blk_cell X.out.b6 1 (.string ⟨#[]⟩) rfl
  have ax:=blk_free X.out.b6 1
  have ar:Hid (FJ w b g K lo [(w.heap.size,Obj.cells #[.string ⟨#[]⟩,.string ⟨#[]⟩,.slice none 0 0,.slice none 0 0,.int .i64 0] 102 (0,0))] 102 [.str o,.str E,.seq 3 [],.seq 7 [],.int F] [.string ⟨o.toArray⟩,.string ⟨E.toArray⟩,.slice none 0 0,.slice none 0 0,.int .i64 F] G ((w22x).setCell ⟨K,1,none⟩ (.string ⟨E.toArray⟩))):=QA (X.out.put 1 (.str E) rfl)
  go_wp2_with fail
  refine (dirs_any b g n hnb G _ ar.out.rd (QR N.out.len HN.out) (by rw[O.out];omega)).mono ?_
  rintro r w24x ⟨ra24,rc24,rfl,hrd,h24,f24⟩
  obtain ⟨S,aF⟩:∃ x,x=Qr.dirs (n+1) G:=⟨_,rfl⟩
  rw[← aF] at hrd h24 ⊢
  have az:=QA aF
  have L:=ar.out.data hrd
  obtain ⟨Y,R⟩:∃ x,x=S.2.length:=⟨_,rfl⟩
  rw[QX,← R] at L ⊢
  have am:Hid (Rd.Ok s S.1):=by rw[az.out];exact QA (N.out.trans (Qr.ok_dirs (n+1) _))
  have an:Hid (S.1.deep=s.deep):=by rw[az.out,Qr.dirs_deep];exact O
  have aJ:Hid (FJ w b g K lo [(w.heap.size,Obj.cells #[.string ⟨#[]⟩,.string ⟨#[]⟩,.slice none 0 0,.slice none 0 0,.int .i64 0] 102 (0,0))] 102 [.str o,.str E,.seq 3 [],.seq 7 [],.int F] [.string ⟨o.toArray⟩,.string ⟨E.toArray⟩,.slice none 0 0,.slice none 0 0,.int .i64 F] S.1 (w24x)):=QA (ar.out.step h24 f24)
  have a5:=QA L
  clear hrd h24 f24 aF L R
  have y2:=blk_cell aJ.out.b6 2 (.slice none 0 0) rfl
  have aA:=blk_free aJ.out.b6 2
  have aI:Hid (FJ w b g K lo [(w.heap.size,Obj.cells #[.string ⟨#[]⟩,.string ⟨#[]⟩,.slice none 0 0,.slice none 0 0,.int .i64 0] 102 (0,0))] 102 [.str o,.str E,.seq 3 (S.2.map Qr.Dir.d),.seq 7 [],.int F] [.string ⟨o.toArray⟩,.string ⟨E.toArray⟩,.slice ra24 Y rc24,.slice none 0 0,.int .i64 F] S.1 ((w24x).setCell ⟨K,2,none⟩ (.slice ra24 Y rc24))):=QA (aJ.out.put 2 (a5.out) rfl)
  clear y1 ax
  go_wp2_with fail
  refine (sels_any b g n hnb S.1 _ aI.out.rd (QR am.out.len HN.out) (by rw[an.out];omega)).mono ?_
  rintro r w26x ⟨ra26,rc26,rfl,hrd,h26,f26⟩
  obtain ⟨ad,aG⟩:∃ x,x=Qr.sels (n+1) (n+1) S.1:=⟨_,rfl⟩
  rw[← aG] at hrd h26 ⊢
  have aH:=QA aG
  have L:=aI.out.data hrd
  obtain ⟨aC,R⟩:∃ x,x=ad.2.length:=⟨_,rfl⟩
  rw[QX,← R] at L ⊢
  have bo:Hid (Rd.Ok s ad.1):=by rw[aH.out];exact QA (am.out.trans (Qr.ok_selsOf _ (Qr.ok_sel (n+1) (n+1)) _))
  have bm:Hid (ad.1.deep=s.deep):=by rw[aH.out,show (Qr.sels (n+1) (n+1) _).1.deep=_ from Qr.selsOf_deep _ (Qr.sel_deep (n+1) (n+1)) _];exact an
  have A:Hid (FJ w b g K lo [(w.heap.size,Obj.cells #[.string ⟨#[]⟩,.string ⟨#[]⟩,.slice none 0 0,.slice none 0 0,.int .i64 0] 102 (0,0))] 102 [.str o,.str E,.seq 3 (S.2.map Qr.Dir.d),.seq 7 [],.int F] [.string ⟨o.toArray⟩,.string ⟨E.toArray⟩,.slice ra24 Y rc24,.slice none 0 0,.int .i64 F] ad.1 (w26x)):=QA (aI.out.step h26 f26)
  have aX:=QA L
  clear hrd h26 f26 aG L R
  have y3:=blk_cell A.out.b6 3 (.slice none 0 0) rfl
  have bz:=blk_free A.out.b6 3
  have bf:Hid (FJ w b g K lo [(w.heap.size,Obj.cells #[.string ⟨#[]⟩,.string ⟨#[]⟩,.slice none 0 0,.slice none 0 0,.int .i64 0] 102 (0,0))] 102 [.str o,.str E,.seq 3 (S.2.map Qr.Dir.d),.seq 7 (ad.2.map Qr.Sel.d),.int F] [.string ⟨o.toArray⟩,.string ⟨E.toArray⟩,.slice ra24 Y rc24,.slice ra26 aC rc26,.int .i64 F] ad.1 ((w26x).setCell ⟨K,3,none⟩ (.slice ra26 aC rc26))):=QA (A.out.put 3 (aX.out) rfl)
  have HR:Hid (Qr.frag (n+1) s=(ad.1,⟨o,E,S.2,ad.2,F⟩)):=by
   refine QA ?_
   unfold Qr.frag
   dsimp only
   rw[← ak.out,← aS.out,if_pos HB.out.symm,← J.out,← M.out,← a2.out,← az.out,← aH.out,← bj.out]
  clear y2 aA
  have y0:=blk_cell A.out.b6 0 (.string ⟨o.toArray⟩) rfl
  have a1:=blk_free A.out.b6 0
  have y1:=blk_cell A.out.b6 1 (.string ⟨E.toArray⟩) rfl
  have ax:=blk_free A.out.b6 1
  have y2:=blk_cell A.out.b6 2 (.slice ra24 Y rc24) rfl
  have aA:=blk_free A.out.b6 2
  have y4:=blk_cell A.out.b6 4 (.int .i64 F) rfl
  have bt:=blk_free A.out.b6 4
  have z0:=blk_cell (A.out.cb _ (QB.2 rfl)) 0 (.string ⟨#[]⟩) rfl
  have bv:=blk_free (A.out.cb _ (QB.2 rfl)) 0
  have z1:=blk_cell (A.out.cb _ (QB.2 rfl)) 1 (.string ⟨#[]⟩) rfl
  have bB:=blk_free (A.out.cb _ (QB.2 rfl)) 1
  have z2:=blk_cell (A.out.cb _ (QB.2 rfl)) 2 (.slice none 0 0) rfl
  have bu:=blk_free (A.out.cb _ (QB.2 rfl)) 2
  have z3:=blk_cell (A.out.cb _ (QB.2 rfl)) 3 (.slice none 0 0) rfl
  have bs:=blk_free (A.out.cb _ (QB.2 rfl)) 3
  have z4:=blk_cell (A.out.cb _ (QB.2 rfl)) 4 (.int .i64 0) rfl
  have bA:=blk_free (A.out.cb _ (QB.2 rfl)) 4
  have T:=bf.out.fin (r:=w.heap.size) (QB.2 rfl)
  simp only[putCells,QY,Nat.zero_add] at T
  have aW:=QA T
  clear T
  go_wp2_with fail
  refine bodyPost_ret (v:=.agg #[.string ⟨o.toArray⟩,.string ⟨E.toArray⟩,.slice ra24 Y rc24,.slice ra26 aC rc26,.int .i64 F]) (by simp[results,Tryz.results111,go_sem,z0,z1,z2,z3,z4,n1,n2]) rfl ?_
  rw[HR.out]
  exact ⟨_,rfl,aW.out⟩
namespace Vl
mutual
def Z.d:Z→D
 | .mk k t items fields a=>.obj [.int k,.str t,.seq 5 (Z.dl items),.seq 7 (ZA.dl fields),.int a]
def Z.dl:List Z→List D
 | []=>[]
 | x::r=>Z.d x::Z.dl r
def ZA.d:ZA→D
 | .mk n v a=>.obj [.str n,Z.d v,.int a]
def ZA.dl:List ZA→List D
 | []=>[]
 | x::r=>ZA.d x::ZA.dl r
end
theorem Z.dl_map:∀ l:List Z,Z.dl l=l.map Z.d
 | []=>by rw[Z.dl];rfl
 | x::r=>by rw[Z.dl,Z.dl_map r];rfl
theorem ZA.dl_map:∀ l:List ZA,ZA.dl l=l.map ZA.d
 | []=>by rw[ZA.dl];rfl
 | x::r=>by rw[ZA.dl,ZA.dl_map r];rfl
end Vl
section
variable {w : World} {P : Nat → Prop}
theorem Reads.el {k:Nat} {xs:List D} {a:Option Addr} {n c:Nat} (h:Reads w P (.seq k xs) [.slice a n c]):∀ (j:Nat) d,xs[j]?=some d→∃ g o cs,a=some ⟨g,o,none⟩∧P g∧g<w.heap.size∧cs.length=k ∧
  (∀ (q:Nat) v,cs[q]?=some v→w.cell? ⟨g,o+j*k+q,none⟩=some v)∧Reads w P d cs:=by
 obtain ⟨C,B,e,A⟩:=h.seq_inv
 obtain ⟨rfl,rfl,rfl⟩:a=C∧n=xs.length∧c=B:=by simpa using e
 intro j d hj
 have:=A.at j d hj
 rw[Nat.zero_add] at this
 exact this
theorem Z_open {v:Vl.Z} {cs:List Value} (h:Reads w P v.d cs):∃ (a1 a2:Option Addr) (c1 c2:Nat),cs=[.int .i64 v.kind,.string ⟨v.text.toArray⟩,.slice a1 v.items.length c1,.slice a2 v.fields.length c2,.int .i64 v.at_] ∧
  Reads w P (.seq 5 (v.items.map Vl.Z.d)) [.slice a1 v.items.length c1]∧Reads w P (.seq 7 (v.fields.map Vl.ZA.d)) [.slice a2 v.fields.length c2]:=by
 cases v with
 | mk k t is fs a =>
  unfold Vl.Z.d at h
  rw[Vl.Z.dl_map,Vl.ZA.dl_map] at h
  obtain ⟨O,S,rfl,F,D⟩:=h.obj_inv.cons_inv
  obtain ⟨T,U,rfl,C,I⟩:=D.cons_inv
  obtain ⟨M,R,rfl,o,J⟩:=I.cons_inv
  obtain ⟨N,L,rfl,A,K⟩:=J.cons_inv
  obtain ⟨V,Q,rfl,G,B⟩:=K.cons_inv
  obtain rfl:=F.int_inv
  obtain rfl:=C.str_inv
  obtain ⟨b3,E,rfl,_⟩:=o.seq_inv
  obtain ⟨b4,H,rfl,_⟩:=A.seq_inv
  obtain rfl:=G.int_inv
  obtain rfl:=B.nil_inv
  simp only[QX] at o A ⊢
  exact ⟨b3,b4,E,H,rfl,o,A⟩
theorem ZA_open {x:Vl.ZA} {cs:List Value} (h:Reads w P x.d cs):∃ (a1 a2:Option Addr) (c1 c2:Nat),
  cs=[.string ⟨x.name.toArray⟩,.int .i64 x.v.kind,.string ⟨x.v.text.toArray⟩,.slice a1 x.v.items.length c1,.slice a2 x.v.fields.length c2,.int .i64 x.v.at_,.int .i64 x.at_] ∧
  Reads w P x.v.d [.int .i64 x.v.kind,.string ⟨x.v.text.toArray⟩,.slice a1 x.v.items.length c1,.slice a2 x.v.fields.length c2,.int .i64 x.v.at_]:=by
 cases x with
 | mk nm v a =>
  unfold Vl.ZA.d at h
  obtain ⟨G,F,rfl,E,A⟩:=h.obj_inv.cons_inv
  obtain ⟨J,K,rfl,o,C⟩:=A.cons_inv
  obtain ⟨I,H,rfl,B,D⟩:=C.cons_inv
  obtain rfl:=E.str_inv
  obtain ⟨a1,a2,c1,c2,rfl,-,-⟩:=Z_open o
  obtain rfl:=B.int_inv
  obtain rfl:=D.nil_inv
  exact ⟨a1,a2,c1,c2,rfl,o⟩
end
def zcells (z:Vl.Z) (a1 a2:Option Addr) (n1 n2:Nat):Array Value:=#[.int .i64 z.kind,.string ⟨z.text.toArray⟩,.slice a1 z.items.length n1,.slice a2 z.fields.length n2,.int .i64 z.at_]
def SameC (N:Nat):Prop:=∀ (x y:Vl.Z),x.n≤N→∀ (a1 a2 b1 b2:Option Addr) (c1 c2 d1 d2:Nat) (w:World) (P:Nat→Prop),
 Reads w P x.d [.int .i64 x.kind,.string ⟨x.text.toArray⟩,.slice a1 x.items.length c1,.slice a2 x.fields.length c2,.int .i64 x.at_] →
 Reads w P y.d [.int .i64 y.kind,.string ⟨y.text.toArray⟩,.slice b1 y.items.length d1,.slice b2 y.fields.length d2,.int .i64 y.at_] →
 Calls Tryz.prog 15 #[.agg #[.int .i64 x.kind,.string ⟨x.text.toArray⟩,.slice a1 x.items.length c1,.slice a2 x.fields.length c2,.int .i64 x.at_],.agg #[.int .i64 y.kind,.string ⟨y.text.toArray⟩,.slice b1 y.items.length d1,.slice b2 y.fields.length d2,.int .i64 y.at_]] w
  (fun r w'=>r=.returned (.bool (x.same y))∧Below w.heap.size w w')
set_option maxHeartbeats 2000000 in
set_option maxRecDepth 100000 in
theorem eqfV_any (N:Nat) (IH:SameC N) (xs ys:List Vl.Z) (hx:∀ x∈xs,x.n≤N) (a b:Option Addr) (c d:Nat) (w:World) (P:Nat→Prop) (hlx:xs.length≤9223372036854775807)
  (hrx:Reads w P (.seq 5 (xs.map Vl.Z.d)) [.slice a xs.length c]) (hry:Reads w P (.seq 5 (ys.map Vl.Z.d)) [.slice b ys.length d]) :
  Calls Tryz.prog 43 #[.slice a xs.length c,.slice b ys.length d,.func (.func 15) #[] #[]] w (fun r w'=>r=.returned (.bool (Vl.Z.sames xs ys))∧Below w.heap.size w w'):=by
 have HX:=QA hx
 have ak:=QA hrx
 have ap:=QA hry
 have ai:=QA IH
 clear hx hrx hry IH
 by_cases E:xs.length=ys.length
 rotate_left
 ·have e0:((xs.length:Int) != (ys.length:Int))=true:=neT (by omega)
  have HS:Hid (Vl.Z.sames xs ys=false):=QA (Vl.Z.sames_len E)
  go_enter Tryz.func43,Tryz.ntmps43
  go_wp2_with fail
  go_ret
  exact ⟨by rw[HS.out];rfl,Below.refl _ _⟩
 have e0:((xs.length:Int) != (ys.length:Int))=false:=neF (by omega)
 obtain ⟨S,hS⟩:∃ S,S=Vl.Z.sames xs ys:=⟨_,rfl⟩
 have HS:=QA hS
 rw[← hS]
 clear hS
 have R:=QA E
 clear E
 go_enter Tryz.func43,Tryz.ntmps43
 go_wp2_with fail
 go_loopg [17] (xs.length+1) (fun k i wr=>∃ (j:Nat),k=xs.length+1-j∧j≤xs.length∧i=.int .i64 j∧S=Vl.Z.sames (xs.drop j) (ys.drop j)∧Below w.heap.size w wr)
 case atStart=>exact ⟨0,rfl,Nat.zero_le _,rfl,HS.out,Below.refl _ _⟩
 case round =>
  obtain ⟨j,hk,hj,rfl,hs,aa⟩:=hrel
  have HK:=QA hk
  have T:=QA hs
  have D:=QA aa
  clear hk hs aa
  by_cases hjl:j<xs.length
  ·have e1:decide (j<xs.length)=true:=decide_eq_true hjl
   have L:j<ys.length:=by have:=R.out;omega
   have e2:decide (j<ys.length)=true:=decide_eq_true L
   obtain ⟨x,hx⟩:∃ z,xs[j]?=some z:=⟨xs[j],ZJ hjl⟩
   obtain ⟨y,hy⟩:∃ z,ys[j]?=some z:=⟨ys[j],ZJ L⟩
   have ab:xs.drop j=x::xs.drop (j+1):=by rw[ZE hjl];rw[ZJ hjl] at hx;rw[Option.some.inj hx]
   have ac:ys.drop j=y::ys.drop (j+1):=by rw[ZE L];rw[ZJ L] at hy;rw[Option.some.inj hy]
   have K:Hid (S=(x.same y&&Vl.Z.sames (xs.drop (j+1)) (ys.drop (j+1)))):=by have:=T.out;rw[ab,ac,Vl.Z.sames_cons] at this;exact QA this
   have ae:=QA (HX.out x (ZC hx))
   obtain ⟨g,o,cs,ha,-,H,E,B,hd⟩:=ak.out.el j x.d (by rw[ZI,hx];rfl)
   obtain ⟨J,I,aH,hb,-,F,V,A,U⟩:=ap.out.el j y.d (by rw[ZI,hy];rfl)
   obtain ⟨a1,a2,u1,u2,rfl,-,-⟩:=Z_open hd
   obtain ⟨b1,b2,v1,v2,rfl,-,-⟩:=Z_open U
   have k0:wr.cell? ⟨g,o+j*5,none⟩=_:=(D.out.cell (p:=⟨g,o+j*5,none⟩) H).trans (B 0 _ rfl)
   have k1:wr.cell? ⟨g,o+j*5+1,none⟩=_:=(D.out.cell (p:=⟨g,o+j*5+1,none⟩) H).trans (B 1 _ rfl)
   have k2:wr.cell? ⟨g,o+j*5+2,none⟩=_:=(D.out.cell (p:=⟨g,o+j*5+2,none⟩) H).trans (B 2 _ rfl)
   have k3:wr.cell? ⟨g,o+j*5+3,none⟩=_:=(D.out.cell (p:=⟨g,o+j*5+3,none⟩) H).trans (B 3 _ rfl)
   have k4:wr.cell? ⟨g,o+j*5+4,none⟩=_:=(D.out.cell (p:=⟨g,o+j*5+4,none⟩) H).trans (B 4 _ rfl)
   obtain ⟨W,O⟩:∃ z,z=wr.alloc (.cells #[.int .i64 x.kind,.string ⟨x.text.toArray⟩,.slice a1 x.items.length u1,.slice a2 x.fields.length u2,.int .i64 x.at_] 25):=⟨_,rfl⟩
   have C:Below w.heap.size w W:=by rw[O];exact D.out.alloc D.out.size _
   have m0:W.cell? ⟨J,I+j*5,none⟩=_:=(C.cell (p:=⟨J,I+j*5,none⟩) F).trans (A 0 _ rfl)
   have m1:W.cell? ⟨J,I+j*5+1,none⟩=_:=(C.cell (p:=⟨J,I+j*5+1,none⟩) F).trans (A 1 _ rfl)
   have m2:W.cell? ⟨J,I+j*5+2,none⟩=_:=(C.cell (p:=⟨J,I+j*5+2,none⟩) F).trans (A 2 _ rfl)
   have m3:W.cell? ⟨J,I+j*5+3,none⟩=_:=(C.cell (p:=⟨J,I+j*5+3,none⟩) F).trans (A 3 _ rfl)
   have m4:W.cell? ⟨J,I+j*5+4,none⟩=_:=(C.cell (p:=⟨J,I+j*5+4,none⟩) F).trans (A 4 _ rfl)
   rw[O] at m0 m1 m2 m3 m4
   subst ha
   subst hb
   obtain ⟨wc,M⟩:∃ z,z=(wr.alloc (.cells #[.int .i64 x.kind,.string ⟨x.text.toArray⟩,.slice a1 x.items.length u1,.slice a2 x.fields.length u2,.int .i64 x.at_] 25)).alloc (.cells #[.int .i64 y.kind,.string ⟨y.text.toArray⟩,.slice b1 y.items.length v1,.slice b2 y.fields.length v2,.int .i64 y.at_] 25):=⟨_,rfl⟩
   have Q:Below w.heap.size w wc:=by rw[M,← O];exact C.alloc C.size _
   have X:=QA Q
   have G:=QA (ai.out x y ae.out a1 a2 b1 b2 u1 u2 v1 v2 wc P (hd.to (Stands.below Q)) (U.to (Stands.below Q)))
   rw[M] at G
   have aq:=QA M
   clear hx hy ab ac E V B A hd U C Q O M T
   go_wp2_with fail
   refine G.out.mono ?_
   rintro r w2 ⟨rfl,hb2⟩
   rw[← aq.out] at hb2
   have Y:=QA (X.out.trans (hb2.mono X.out.size))
   clear hb2 k0 k1 k2 k3 k4 m0 m1 m2 m3 m4 G
   obtain ⟨q,hq⟩:∃ q,q=x.same y:=⟨_,rfl⟩
   rw[← hq]
   have HQ:=QA hq
   clear hq
   cases q
   ·go_wp2_with fail
    go_ret
    exact ⟨by rw[K.out,← HQ.out];rfl,Y.out⟩
   ·go_wp2_with fail
    go_roundg (xs.length+1-(j+1))
    case measure=>rw[HK.out];omega
    case rel=>exact ⟨j+1,rfl,hjl,by go_num,by rw[K.out,← HQ.out];rfl,Y.out⟩
  ·have e1:decide (j<xs.length)=false:=decide_eq_false hjl
   have K:Hid (S=true):=by
    have:=T.out
    rw[ZF (by omega),ZF (by have:=R.out;omega),Vl.Z.sames_nil] at this
    exact QA this
   go_wp2_with fail
   go_ret
   exact ⟨by rw[K.out];rfl,D.out⟩
def SameAC (N:Nat):Prop:=∀ (x y:Vl.ZA),x.n≤N→∀ (a1 a2 b1 b2:Option Addr) (c1 c2 d1 d2:Nat) (w:World) (P:Nat→Prop),
 Reads w P x.d [.string ⟨x.name.toArray⟩,.int .i64 x.v.kind,.string ⟨x.v.text.toArray⟩,.slice a1 x.v.items.length c1,.slice a2 x.v.fields.length c2,.int .i64 x.v.at_,.int .i64 x.at_] →
 Reads w P y.d [.string ⟨y.name.toArray⟩,.int .i64 y.v.kind,.string ⟨y.v.text.toArray⟩,.slice b1 y.v.items.length d1,.slice b2 y.v.fields.length d2,.int .i64 y.v.at_,.int .i64 y.at_] →
 Calls Tryz.prog 45 #[.agg #[.string ⟨x.name.toArray⟩,.int .i64 x.v.kind,.string ⟨x.v.text.toArray⟩,.slice a1 x.v.items.length c1,.slice a2 x.v.fields.length c2,.int .i64 x.v.at_,.int .i64 x.at_],.agg #[.string ⟨y.name.toArray⟩,.int .i64 y.v.kind,.string ⟨y.v.text.toArray⟩,.slice b1 y.v.items.length d1,.slice b2 y.v.fields.length d2,.int .i64 y.v.at_,.int .i64 y.at_]] w
  (fun r w'=>r=.returned (.bool (x.same y))∧Below w.heap.size w w')
theorem ZA_v {w:World} {P:Nat→Prop} {x:Vl.ZA} {n:List UInt8} {k:Int} {t:ByteArray} {s1 s2:Value} {a b:Int} (h:Reads w P x.d [.string ⟨x.name.toArray⟩,.int .i64 x.v.kind,.string ⟨x.v.text.toArray⟩,s1,s2,.int .i64 x.v.at_,.int .i64 x.at_]) :
  Reads w P x.v.d [.int .i64 x.v.kind,.string ⟨x.v.text.toArray⟩,s1,s2,.int .i64 x.v.at_]:=by
 obtain ⟨A,B,c1,c2,e,o⟩:=ZA_open h
 simp only[List.cons.injEq,true_and,and_true] at e
 obtain ⟨rfl,rfl⟩:=e
 exact o
set_option maxHeartbeats 1000000 in
set_option maxRecDepth 100000 in
theorem sameA_any (N:Nat) (IH:SameC N):SameAC N:=by
 intro x y hN a1 a2 b1 b2 c1 c2 d1 d2 w P hx hy
 have G:=ZA_v (n:=[]) (k:=0) (t:=⟨#[]⟩) (a:=0) (b:=0) hx
 have E:=ZA_v (n:=[]) (k:=0) (t:=⟨#[]⟩) (a:=0) (b:=0) hy
 obtain ⟨J,B⟩:∃ z,z=(w.alloc (.cells #[.string ⟨x.name.toArray⟩,.int .i64 x.v.kind,.string ⟨x.v.text.toArray⟩,.slice a1 x.v.items.length c1,.slice a2 x.v.fields.length c2,.int .i64 x.v.at_,.int .i64 x.at_] 72)).alloc (.cells #[.string ⟨y.name.toArray⟩,.int .i64 y.v.kind,.string ⟨y.v.text.toArray⟩,.slice b1 y.v.items.length d1,.slice b2 y.v.fields.length d2,.int .i64 y.v.at_,.int .i64 y.at_] 72):=⟨_,rfl⟩
 have A:Below w.heap.size w J:=by rw[B];exact ((Below.refl _ _).alloc (QM _) _).alloc (by simp) _
 have C:=QA A
 have o:=QA (IH x.v y.v (by have:=Vl.ZA.n_eq x;omega) a1 a2 b1 b2 c1 c2 d1 d2 J P (G.to (Stands.below A)) (E.to (Stands.below A)))
 rw[B] at o
 have F:=QA B
 have D:=QA (Vl.ZA.same_eq x y)
 clear G E hx hy A B IH
 obtain ⟨S,K⟩:∃ S,S=x.same y:=⟨_,rfl⟩
 rw[← K] at D ⊢
 clear K
 by_cases hn:x.name=y.name
 ·have L:(x.name==y.name)=true:=by rw[beq_iff_eq];exact hn
  have H:Hid (S=x.v.same y.v):=by rw[D.out,decide_eq_true hn];exact QA rfl
  clear hn
  go_enter Tryz.func45,Tryz.ntmps45
  go_wp2_with fail
  refine o.out.mono ?_
  rintro r w2 ⟨rfl,hb2⟩
  rw[← F.out] at hb2
  have I:=QA (C.out.trans (hb2.mono C.out.size))
  clear hb2
  go_wp2_with fail
  go_ret
  exact ⟨by rw[H.out];rfl,I.out⟩
 ·have L:(x.name==y.name)=false:=by rw[beq_eq_false_iff_ne];exact hn
  have H:Hid (S=false):=by rw[D.out,decide_eq_false hn];exact QA rfl
  clear hn
  go_enter Tryz.func45,Tryz.ntmps45
  go_wp2_with fail
  go_ret
  exact ⟨by rw[H.out];rfl,by rw[← F.out];exact C.out⟩
set_option maxHeartbeats 2000000 in
set_option maxRecDepth 100000 in
theorem eqfA_any (N:Nat) (IH:SameAC N) (xs ys:List Vl.ZA) (hx:∀ x∈xs,x.n≤N) (a b:Option Addr) (c d:Nat) (w:World) (P:Nat→Prop) (hlx:xs.length≤9223372036854775807)
  (hrx:Reads w P (.seq 7 (xs.map Vl.ZA.d)) [.slice a xs.length c]) (hry:Reads w P (.seq 7 (ys.map Vl.ZA.d)) [.slice b ys.length d]) :
  Calls Tryz.prog 44 #[.slice a xs.length c,.slice b ys.length d,.func (.func 45) #[] #[]] w (fun r w'=>r=.returned (.bool (Vl.ZA.sames xs ys))∧Below w.heap.size w w'):=by
 have HX:=QA hx
 have aj:=QA hrx
 have ap:=QA hry
 have ai:=QA IH
 clear hx hrx hry IH
 by_cases F:xs.length=ys.length
 rotate_left
 ·have e0:((xs.length:Int) != (ys.length:Int))=true:=neT (by omega)
  have HS:Hid (Vl.ZA.sames xs ys=false):=QA (Vl.ZA.sames_len F)
  go_enter Tryz.func44,Tryz.ntmps44
  go_wp2_with fail
  go_ret
  exact ⟨by rw[HS.out];rfl,Below.refl _ _⟩
 have e0:((xs.length:Int) != (ys.length:Int))=false:=neF (by omega)
 obtain ⟨S,hS⟩:∃ S,S=Vl.ZA.sames xs ys:=⟨_,rfl⟩
 have HS:=QA hS
 rw[← hS]
 clear hS
 have T:=QA F
 clear F
 go_enter Tryz.func44,Tryz.ntmps44
 go_wp2_with fail
 go_loopg [17] (xs.length+1) (fun k i wr=>∃ (j:Nat),k=xs.length+1-j∧j≤xs.length∧i=.int .i64 j∧S=Vl.ZA.sames (xs.drop j) (ys.drop j)∧Below w.heap.size w wr)
 case atStart=>exact ⟨0,rfl,Nat.zero_le _,rfl,HS.out,Below.refl _ _⟩
 case round =>
  obtain ⟨j,hk,hj,rfl,hs,aa⟩:=hrel
  have HK:=QA hk
  have W:=QA hs
  have E:=QA aa
  clear hk hs aa
  by_cases hjl:j<xs.length
  ·have e1:decide (j<xs.length)=true:=decide_eq_true hjl
   have K:j<ys.length:=by have:=T.out;omega
   have e2:decide (j<ys.length)=true:=decide_eq_true K
   obtain ⟨x,hx⟩:∃ z,xs[j]?=some z:=⟨xs[j],ZJ hjl⟩
   obtain ⟨y,hy⟩:∃ z,ys[j]?=some z:=⟨ys[j],ZJ K⟩
   have Y:xs.drop j=x::xs.drop (j+1):=by rw[ZE hjl];rw[ZJ hjl] at hx;rw[Option.some.inj hx]
   have ab:ys.drop j=y::ys.drop (j+1):=by rw[ZE K];rw[ZJ K] at hy;rw[Option.some.inj hy]
   have O:Hid (S=(x.same y&&Vl.ZA.sames (xs.drop (j+1)) (ys.drop (j+1)))):=by have:=W.out;rw[Y,ab,Vl.ZA.sames_cons] at this;exact QA this
   have ad:=QA (HX.out x (ZC hx))
   obtain ⟨g,o,cs,ha,-,H,F,B,hd⟩:=aj.out.el j x.d (by rw[ZI,hx];rfl)
   obtain ⟨I,J,aG,hb,-,C,V,A,U⟩:=ap.out.el j y.d (by rw[ZI,hy];rfl)
   obtain ⟨a1,a2,u1,u2,rfl,-⟩:=ZA_open hd
   obtain ⟨b1,b2,v1,v2,rfl,-⟩:=ZA_open U
   have k0:wr.cell? ⟨g,o+j*7,none⟩=_:=(E.out.cell (p:=⟨g,o+j*7,none⟩) H).trans (B 0 _ rfl)
   have k1:wr.cell? ⟨g,o+j*7+1,none⟩=_:=(E.out.cell (p:=⟨g,o+j*7+1,none⟩) H).trans (B 1 _ rfl)
   have k2:wr.cell? ⟨g,o+j*7+2,none⟩=_:=(E.out.cell (p:=⟨g,o+j*7+2,none⟩) H).trans (B 2 _ rfl)
   have k3:wr.cell? ⟨g,o+j*7+3,none⟩=_:=(E.out.cell (p:=⟨g,o+j*7+3,none⟩) H).trans (B 3 _ rfl)
   have k4:wr.cell? ⟨g,o+j*7+4,none⟩=_:=(E.out.cell (p:=⟨g,o+j*7+4,none⟩) H).trans (B 4 _ rfl)
   have k5:wr.cell? ⟨g,o+j*7+5,none⟩=_:=(E.out.cell (p:=⟨g,o+j*7+5,none⟩) H).trans (B 5 _ rfl)
   have k6:wr.cell? ⟨g,o+j*7+6,none⟩=_:=(E.out.cell (p:=⟨g,o+j*7+6,none⟩) H).trans (B 6 _ rfl)
   obtain ⟨R,L⟩:∃ z,z=wr.alloc (.cells #[.string ⟨x.name.toArray⟩,.int .i64 x.v.kind,.string ⟨x.v.text.toArray⟩,.slice a1 x.v.items.length u1,.slice a2 x.v.fields.length u2,.int .i64 x.v.at_,.int .i64 x.at_] 72):=⟨_,rfl⟩
   have D:Below w.heap.size w R:=by rw[L];exact E.out.alloc E.out.size _
   have m0:R.cell? ⟨I,J+j*7,none⟩=_:=(D.cell (p:=⟨I,J+j*7,none⟩) C).trans (A 0 _ rfl)
   have m1:R.cell? ⟨I,J+j*7+1,none⟩=_:=(D.cell (p:=⟨I,J+j*7+1,none⟩) C).trans (A 1 _ rfl)
   have m2:R.cell? ⟨I,J+j*7+2,none⟩=_:=(D.cell (p:=⟨I,J+j*7+2,none⟩) C).trans (A 2 _ rfl)
   have m3:R.cell? ⟨I,J+j*7+3,none⟩=_:=(D.cell (p:=⟨I,J+j*7+3,none⟩) C).trans (A 3 _ rfl)
   have m4:R.cell? ⟨I,J+j*7+4,none⟩=_:=(D.cell (p:=⟨I,J+j*7+4,none⟩) C).trans (A 4 _ rfl)
   have m5:R.cell? ⟨I,J+j*7+5,none⟩=_:=(D.cell (p:=⟨I,J+j*7+5,none⟩) C).trans (A 5 _ rfl)
   have m6:R.cell? ⟨I,J+j*7+6,none⟩=_:=(D.cell (p:=⟨I,J+j*7+6,none⟩) C).trans (A 6 _ rfl)
   rw[L] at m0 m1 m2 m3 m4 m5 m6
   subst ha
   subst hb
   obtain ⟨wc,Q⟩:∃ z,z=(wr.alloc (.cells #[.string ⟨x.name.toArray⟩,.int .i64 x.v.kind,.string ⟨x.v.text.toArray⟩,.slice a1 x.v.items.length u1,.slice a2 x.v.fields.length u2,.int .i64 x.v.at_,.int .i64 x.at_] 72)).alloc (.cells #[.string ⟨y.name.toArray⟩,.int .i64 y.v.kind,.string ⟨y.v.text.toArray⟩,.slice b1 y.v.items.length v1,.slice b2 y.v.fields.length v2,.int .i64 y.v.at_,.int .i64 y.at_] 72):=⟨_,rfl⟩
   have M:Below w.heap.size w wc:=by rw[Q,← L];exact D.alloc D.size _
   have X:=QA M
   have G:=QA (ai.out x y ad.out a1 a2 b1 b2 u1 u2 v1 v2 wc P (hd.to (Stands.below M)) (U.to (Stands.below M)))
   rw[Q] at G
   have al:=QA Q
   clear hx hy Y ab F V B A hd U D M L Q W
   go_wp2_with fail
   refine G.out.mono ?_
   rintro r w2 ⟨rfl,hb2⟩
   rw[← al.out] at hb2
   have Z:=QA (X.out.trans (hb2.mono X.out.size))
   clear hb2 k0 k1 k2 k3 k4 k5 k6 m0 m1 m2 m3 m4 m5 m6 G
   obtain ⟨q,hq⟩:∃ q,q=x.same y:=⟨_,rfl⟩
   rw[← hq]
   have HQ:=QA hq
   clear hq
   cases q
   ·go_wp2_with fail
    go_ret
    exact ⟨by rw[O.out,← HQ.out];rfl,Z.out⟩
   ·go_wp2_with fail
    go_roundg (xs.length+1-(j+1))
    case measure=>rw[HK.out];omega
    case rel=>exact ⟨j+1,rfl,hjl,by go_num,by rw[O.out,← HQ.out];rfl,Z.out⟩
  ·have e1:decide (j<xs.length)=false:=decide_eq_false hjl
   have O:Hid (S=true):=by
    have:=W.out
    rw[ZF (by omega),ZF (by have:=T.out;omega),Vl.ZA.sames_nil] at this
    exact QA this
   go_wp2_with fail
   go_ret
   exact ⟨by rw[O.out];rfl,E.out⟩
set_option maxHeartbeats 2000000 in
set_option maxRecDepth 100000 in
theorem same_step (N:Nat) (hNb:N≤9000000000000000000) (IH:SameC N):SameC (N+1):=by
 have O:=sameA_any N IH
 intro x y hN a1 a2 b1 b2 c1 c2 d1 d2 w P hx hy
 obtain ⟨x1,x2,x3,x4,ex,K,Q⟩:=Z_open hx
 obtain ⟨y1,y2,y3,y4,ey,M,U⟩:=Z_open hy
 obtain ⟨rfl,rfl,rfl,rfl⟩:a1=x1∧c1=x3∧a2=x2∧c2=x4:=by simpa [and_assoc] using ex
 obtain ⟨rfl,rfl,rfl,rfl⟩:b1=y1∧d1=y3∧b2=y2∧d2=y4:=by simpa [and_assoc] using ey
 have hn:=Vl.Z.n_eq x
 have aq:=Vl.Z.ns_len x.items
 have aA:=Vl.ZA.ns_len x.fields
 obtain ⟨W,o⟩:∃ z,z=(w.alloc (.cells #[.int .i64 x.kind,.string ⟨x.text.toArray⟩,.slice a1 x.items.length c1,.slice a2 x.fields.length c2,.int .i64 x.at_] 25)).alloc (.cells #[.int .i64 y.kind,.string ⟨y.text.toArray⟩,.slice b1 y.items.length d1,.slice b2 y.fields.length d2,.int .i64 y.at_] 25):=⟨_,rfl⟩
 have A:Below w.heap.size w W:=by rw[o];exact ((Below.refl _ _).alloc (QM _) _).alloc (by simp) _
 have B:=QA A
 have G:=QA o
 have af:=QA (Q.to (Stands.below A))
 have X:=QA (U.to (Stands.below A))
 have C:=QA (Vl.Z.same_eq x y)
 have ab:Hid (∀ z∈x.fields,z.n≤N):=QA (fun z hz=>by have:=Vl.ZA.ns_mem hz;omega)
 have J:=QA O
 have ao:x.fields.length≤9223372036854775807:=by omega
 have T:(W.heap[w.heap.size]?=some (.cells #[.int .i64 x.kind,.string ⟨x.text.toArray⟩,.slice a1 x.items.length c1,.slice a2 x.fields.length c2,.int .i64 x.at_] 25 (0,0))):=by
  rw[o,Lib.alloc_old _ _ _ (by simp)];exact heap_at_new _ _
 have R:(W.heap[w.heap.size+1]?=some (.cells #[.int .i64 y.kind,.string ⟨y.text.toArray⟩,.slice b1 y.items.length d1,.slice b2 y.fields.length d2,.int .i64 y.at_] 25 (0,0))):=by
  rw[o]
  have:=heap_at_new (w.alloc (.cells #[.int .i64 x.kind,.string ⟨x.text.toArray⟩,.slice a1 x.items.length c1,.slice a2 x.fields.length c2,.int .i64 x.at_] 25)) (.cells #[.int .i64 y.kind,.string ⟨y.text.toArray⟩,.slice b1 y.items.length d1,.slice b2 y.fields.length d2,.int .i64 y.at_] 25)
  rw[show (w.alloc (.cells #[.int .i64 x.kind,.string ⟨x.text.toArray⟩,.slice a1 x.items.length c1,.slice a2 x.fields.length c2,.int .i64 x.at_] 25)).heap.size=w.heap.size+1 by simp] at this
  exact this
 have L:=QA T
 have H:=QA R
 have V:=QA (eqfV_any N IH x.items y.items (fun z hz=>by have:=Vl.Z.ns_mem hz;omega) a1 b1 c1 d1 W P (by omega) (K.to (Stands.below A)) (M.to (Stands.below A)))
 rw[o] at V
 clear K M Q U hx hy ex ey A o IH O T R hn
 obtain ⟨S,hS⟩:∃ S,S=x.same y:=⟨_,rfl⟩
 rw[← hS] at C ⊢
 clear hS
 by_cases hk:x.kind=y.kind
 rotate_left
 ·have e1:(x.kind==y.kind)=false:=by rw[beq_eq_false_iff_ne];exact hk
  have HS:Hid (S=false):=by rw[C.out,decide_eq_false hk];exact QA rfl
  clear hk
  go_enter Tryz.func15,Tryz.ntmps15
  go_wp2_with fail
  go_ret
  exact ⟨by rw[HS.out];rfl,by rw[← G.out];exact B.out⟩
 have e1:(x.kind==y.kind)=true:=by rw[beq_iff_eq];exact hk
 have E:Hid (S=(decide (x.text=y.text)&&(Vl.Z.sames x.items y.items&&Vl.ZA.sames x.fields y.fields))):=by rw[C.out,decide_eq_true hk];exact QA rfl
 clear hk C
 by_cases ht:x.text=y.text
 rotate_left
 ·have e3:(x.text==y.text)=false:=by rw[beq_eq_false_iff_ne];exact ht
  have HS:Hid (S=false):=by rw[E.out,decide_eq_false ht];exact QA rfl
  clear ht
  go_enter Tryz.func15,Tryz.ntmps15
  go_wp2_with fail
  go_ret
  exact ⟨by rw[HS.out];rfl,by rw[← G.out];exact B.out⟩
 have e3:(x.text==y.text)=true:=by rw[beq_iff_eq];exact ht
 have I:Hid (S=(Vl.Z.sames x.items y.items&&Vl.ZA.sames x.fields y.fields)):=by rw[E.out,decide_eq_true ht];exact QA rfl
 clear ht E
 go_enter Tryz.func15,Tryz.ntmps15
 go_wp2_with fail
 refine V.out.mono ?_
 rintro r w2 ⟨rfl,hb2⟩
 rw[← G.out] at hb2
 obtain ⟨q,hq⟩:∃ q,q=Vl.Z.sames x.items y.items:=⟨_,rfl⟩
 rw[← hq]
 have HQ:=QA hq
 clear hq
 have D:=QA hb2
 have F:=QA (B.out.trans (hb2.mono B.out.size))
 clear hb2
 have Y:Hid (w2.heap[w.heap.size]?=some (.cells #[.int .i64 x.kind,.string ⟨x.text.toArray⟩,.slice a1 x.items.length c1,.slice a2 x.fields.length c2,.int .i64 x.at_] 25 (0,0))):=QA (by rw[D.out.block _ (block_lt L.out)];exact L.out)
 have ae:Hid (w2.heap[w.heap.size+1]?=some (.cells #[.int .i64 y.kind,.string ⟨y.text.toArray⟩,.slice b1 y.items.length d1,.slice b2 y.fields.length d2,.int .i64 y.at_] 25 (0,0))):=QA (by rw[D.out.block _ (block_lt H.out)];exact H.out)
 cases q
 ·go_wp2_with fail
  go_ret
  exact ⟨by rw[I.out,← HQ.out];rfl,F.out⟩
 ·have z3:w2.cell? ⟨w.heap.size,3,none⟩=some (.slice a2 x.fields.length c2):=blk_cell Y.out 3 _ rfl
  have z4:w2.cell? ⟨w.heap.size+1,3,none⟩=some (.slice b2 y.fields.length d2):=blk_cell ae.out 3 _ rfl
  have aa:=QA (eqfA_any N J.out x.fields y.fields ab.out a2 b2 c2 d2 w2 P (by omega) (af.out.to (Stands.below D.out)) (X.out.to (Stands.below D.out)))
  go_wp2_with fail
  refine aa.out.mono ?_
  rintro r w4 ⟨rfl,hb4⟩
  have ad:=QA (F.out.trans (hb4.mono F.out.size))
  clear hb4 z3 z4
  go_wp2_with fail
  go_ret
  exact ⟨by rw[I.out,← HQ.out];rfl,ad.out⟩
theorem same_any:∀ (N:Nat),N≤9000000000000000000→SameC N
 | 0,_=>fun x y hN=>by have:=Vl.Z.n_pos x;omega
 | N+1,h=>same_step N (by omega) (same_any N (by omega))
theorem below_frv {n b:Nat} {w w2 wr:World} (h:Below n w w2) (hw:n≤w.heap.size) (hf:Fr b w2 wr) (hb:n≤b):Below n w wr :=
 ⟨hf.os.trans h.os,hf.tape.trans h.tape,hf.output.trans h.output,QR h.size hf.size,fun k hk=>by rw[hf.block k (by have:=h.size;omega) (by omega)];exact h.block k hk⟩
set_option maxRecDepth 100000 in
theorem rend_any (b g:Nat) (s:Rd.St) (w:World) (h:RdAt w b g s) :
  Calls Tryz.prog 40 #[.pointer (some ⟨b,0,none⟩)] w fun r w'=>r=.returned (.tuple #[])∧RdAt w' b g (Rd.fin s)∧Fr b w w':=by
 have H:=QA h
 clear h
 go_enter Tryz.func40,Tryz.ntmps40
 go_wp2_with fail
 refine (rpeek_any b g s w H.out).mono ?_
 rintro r w1 ⟨rfl,hb1⟩
 have E:=QA (H.out.below hb1)
 have A:=QA hb1
 obtain ⟨D,o⟩:∃ z,z=Rd.peek s:=⟨_,rfl⟩
 have B:=QA o
 rw[← o]
 clear hb1 o
 by_cases hk:D.kind=0
 ·have F:=neF (n:=D.kind) (k:=0) (by omega)
  have C:Hid (Rd.fin s=s):=QA (by unfold Rd.fin;rw[if_neg (by rw[← B.out];simp[hk])])
  clear hk
  go_wp2_with fail
  go_end0
  exact ⟨rfl,by rw[C.out];exact E.out,But.of_below A.out⟩
 ·have F:=neT (n:=D.kind) (k:=0) (by omega)
  have C:Hid (Rd.fin s=Rd.wrong s):=QA (by unfold Rd.fin;rw[if_pos (by rw[← B.out];exact hk)])
  clear hk
  go_wp2_with fail
  refine (rwrong_any b g s _ E.out).mono ?_
  rintro r w2 ⟨rfl,h2,f2⟩
  go_wp2_with fail
  go_end0
  exact ⟨rfl,by rw[C.out];exact h2,(But.of_below A.out).trans f2⟩
def VtPost (l:List UInt8) (w:World) (r:Ending) (w':World):Prop :=
 Below w.heap.size w w' ∧
  (
   ((Vl.parseType l).1.err=0∧r=.returned (.tuple #[.string ⟨(Vl.parseType l).2.toArray⟩,.int .i64 0,.int .i64 0])) ∨
   ((Vl.parseType l).1.err≠0∧r=.returned (.tuple #[.string ⟨#[]⟩,.int .i64 (Vl.parseType l).1.at_,.int .i64 (Vl.parseType l).1.err])))
set_option maxHeartbeats 2000000 in
set_option maxRecDepth 100000 in
theorem vtype_any (s:ByteArray) (w:World) (hs:s.size≤9223372036854775807) (hE:Env w) (h3:3≤w.heap.size) :
  Calls Tryz.prog 178 #[.string s] w (VtPost s.data.toList w):=by
 have V:=QA hE
 clear hE
 go_enter Tryz.func178,Tryz.ntmps178
 go_wp2_with fail
 refine (rnew_any s w hs V.out h3).mono ?_
 rintro r w1 ⟨hb1,hstd,g,cap,ts,a,e,rfl,hg,hrow,hok,hpos,hbg⟩
 obtain ⟨M,o⟩:∃ z,z=w1.alloc (.cells #[.slice (some ⟨g,0,none⟩) ts.length cap,.int .i64 0,.int .i64 0,.int .i64 a,.int .i64 e] 77):=⟨_,rfl⟩
 obtain ⟨E,C⟩:∃ z,z=Rd.begin_ s.data.toList:=⟨_,rfl⟩
 have D:Below w1.heap.size w1 M:=by rw[o];exact (Below.refl _ _).alloc (QM _) _
 have P:RdAt M w1.heap.size g E:=by
  rw[C]
  have N:=hrow.lt
  exact NewPost.rdAt (T:=77) (by rw[o];exact heap_at_new _ _) (hrow.heap D.size (D.block g N)) (by omega) hok hpos hbg
 have R:=QA (hb1.trans (D.mono hb1.size))
 have Y:=P.rest_len
 obtain ⟨n,U⟩:∃ z,z=E.rest.length:=⟨_,rfl⟩
 have B:Hid (Vl.parseType s.data.toList=(Rd.fin (Rd.type (n+1) E).1,(Rd.type (n+1) E).2)):=by rw[U,C];exact QA rfl
 have ac:E.deep=0:=by rw[C,hbg]
 have X:n≤1501:=by omega
 have J:=hb1.size
 have F:=QA (rtype_any w1.heap.size g n E M P (.inr (by omega)) (by omega) ⟨by omega,by omega⟩)
 have HX:=QA o
 rw[o] at F
 clear hstd C U hbg D P hrow hok hb1 Y hg o
 go_wp2_with fail
 refine F.out.mono ?_
 rw[← HX.out]
 rintro r w3 ⟨rfl,hr3,hf3⟩
 obtain ⟨W,G⟩:∃ z,z=(Rd.type (n+1) E).2:=⟨_,rfl⟩
 obtain ⟨S,H⟩:∃ z,z=(Rd.type (n+1) E).1:=⟨_,rfl⟩
 rw[← G] at B
 rw[← H] at hr3 B
 try rw[← G]
 have Q:=QA hf3
 have O:=QA hr3
 clear hf3 hr3 G H F
 go_wp2_with fail
 refine (rend_any w1.heap.size g S w3 O.out).mono ?_
 rintro r w5 ⟨rfl,hr5,hf5⟩
 obtain ⟨I,K⟩:∃ z,z=Rd.fin S:=⟨_,rfl⟩
 rw[← K] at hr5 B
 have ad:=hr5.c4
 have Z:=hr5.c3
 have L:Hid (Below w.heap.size w w5):=QA (below_frv (b:=w1.heap.size) R.out (QM _) (Q.out.trans hf5) J)
 clear hr5 hf5 K
 by_cases he:I.err=0
 ·have e5:=neF (n:=I.err) (k:=0) (by omega)
  have A:=QA he
  clear he
  go_wp2_with fail
  refine bodyPost_ret (v:=.tuple #[.string ⟨W.toArray⟩,.int .i64 0,.int .i64 0]) (by simp[results,Tryz.results178,go_sem]) rfl ?_
  refine ⟨L.out,.inl ?_⟩
  rw[B.out]
  exact ⟨A.out,rfl⟩
 ·have e5:=neT (n:=I.err) (k:=0) (by omega)
  have A:=QA he
  clear he
  go_wp2_with fail
  refine wp_region_cuts [] (by kernel_rfl) (by kernel_rfl) ?_;simp only[wpMix,List.take_succ_cons,List.take_zero,List.drop_succ_cons,List.drop_zero,Nat.sub_zero,Nat.reduceSub,QY]
  repeat (go_big_quiet_step (fail))
  refine wpQuiet_nil ?_
  rintro _ ⟨nq,rfl⟩
  go_wp2_with fail
  refine bodyPost_ret (v:=.tuple #[.string ⟨#[]⟩,.int .i64 I.at_,.int .i64 I.err]) (by simp[results,Tryz.results178,go_sem]) rfl ?_
  refine ⟨Below.drewN L.out _,.inr ?_⟩
  rw[B.out]
  exact ⟨A.out,rfl⟩
end Go.Proofs.YtefjgpkpplkkgaaGreatDoor
