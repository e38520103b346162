/-
  The reader of documents: a selection, walked, its sets' walks being given. The reader of documents: selections and their sets, as deep as they go.
-/
import Derived.Test.YtefjgpkpplkkgaaGreatDoorZp16
open Go.Lib renaming hid → QA
open List renaming mem_singleton → QB, length_map → QX
open Nat renaming le_refl → QM, le_trans → QR, reduceAdd → QY
namespace Go.Proofs.YtefjgpkpplkkgaaGreatDoor
set_option linter.unusedSimpArgs false
set_option linter.unusedVariables false
open Go Go.RowKit
theorem FJ.copy {w0 w:World} {b g t6 lo:Nat} {bx:List Box} {T6:TypeId} {ds:List D} {cs:List Value} {s:Rd.St} {r:Nat} {o:Obj} (h:FJ w0 b g t6 lo bx T6 ds cs s w) (hr:(r,o)∈bx) {d:D} {us:List Value} (hd:Reads w (fun x=>lo≤x) d us) :
  Reads (putCells w r 0 us) (fun x=>w0.heap.size≤x) d us∧RdAt (putCells w r 0 us) b g s∧Fr b w0 (putCells w r 0 us):=by
 have lb:=h.lb
 have lg:=h.lg
 have l6:=h.l6
 have C:=h.lx _ hr
 simp only at C
 have B:∀ x,x≠r→(putCells w r 0 us).heap[x]?=w.heap[x]?:=fun x h1=>putCells_ne _ _ h1 _ _ _
 have A:=putCells_size r us 0 w
 have E:=putCells_os r us 0 w
 refine ⟨hd.to ⟨by rw[A];exact QM _,fun x hx hp=>⟨by have F:lo≤x:=hp;show w0.heap.size≤x;omega,B x (by have F:lo≤x:=hp;omega)⟩⟩,h.rd.to (by rw[A];exact QM _) (B b (by omega)) (B g (by omega)),⟨E.1.trans h.fr.os,E.2.1.trans h.fr.tape,E.2.2.trans h.fr.output,by rw[A];exact h.fr.size,fun x hx hxb=>by
  rw[B x (by omega)]
  exact h.fr.block x hx hxb⟩⟩
theorem isW_nil (s:Rd.St):Rd.isW s []=Rd.isN s:=by simp[Rd.isW]
set_option maxHeartbeats 4000000 in
set_option maxRecDepth 100000 in
theorem sel_step (b g n:Nat) (hnb:n≤1600) (f:Rd.St→Rd.St×Qr.Sel) (s:Rd.St) (hfo:∀ s,Rd.Ok s (f s).1) (hfd:∀ s,(f s).1.deep=s.deep) (hS:SelsC b g n f s) (w:World) (h:RdAt w b g s) (hn:s.rest.length≤n) (hd:0≤s.deep∧s.deep≤800000) :
  Calls Tryz.prog 214 #[.pointer (some ⟨b,0,none⟩)] w (Got b g w (Qr.selOf f (n+1) s).2.d (Qr.selOf f (n+1) s).1):=by
 have cd:=h.lt
 have HS:=QA hS
 have bK:=QA hfo
 have bL:=QA hfd
 have HN:=QA hn
 have H:=QA h
 have cp:Hid (Rd.Ok s s):=QA (Rd.Ok.refl s)
 have cq:Hid (s.deep=s.deep):=QA rfl
 obtain ⟨d0,d1⟩:=hd
 have ca:Below w.heap.size w (w.alloc (.cells #[.int .i64 0,.string ⟨#[]⟩,.string ⟨#[]⟩,.slice none 0 0,.slice none 0 0,.slice none 0 0,.int .i64 0] 174)):=(Below.refl _ _).alloc (QM _) _
 have bU:=QA ca
 clear h hS hn ca hfo hfd
 go_enter Tryz.func214,Tryz.ntmps214
 go_wp2_with fail
 refine (rpeek_any b g s _ (H.out.below bU.out)).mono ?_
 rintro r w2 ⟨rfl,hb2⟩
 obtain ⟨D,bW⟩:∃ x,x=(Rd.peek s).at_:=⟨_,rfl⟩
 rw[← bW]
 have ba:=QA bW
 have bZ:Hid (FJ w b g w2.heap.size (w2.heap.size+1) [(w.heap.size,Obj.cells #[.int .i64 0,.string ⟨#[]⟩,.string ⟨#[]⟩,.slice none 0 0,.slice none 0 0,.slice none 0 0,.int .i64 0] 174 (0,0))] 174 [.int 0,.str [],.str [],.seq 7 [],.seq 3 [],.seq 7 [],.int D] [.int .i64 0,.string ⟨#[]⟩,.string ⟨#[]⟩,.slice none 0 0,.slice none 0 0,.slice none 0 0,.int .i64 D] s (w2.alloc (.cells #[.int .i64 0,.string ⟨#[]⟩,.string ⟨#[]⟩,.slice none 0 0,.slice none 0 0,.slice none 0 0,.int .i64 D] 174))):=by
  have bS:Below w2.heap.size w2 (w2.alloc (.cells #[.int .i64 0,.string ⟨#[]⟩,.string ⟨#[]⟩,.slice none 0 0,.slice none 0 0,.slice none 0 0,.int .i64 D] 174)):=(Below.refl _ _).alloc (QM _) _
  have cr:(w.alloc (.cells #[.int .i64 0,.string ⟨#[]⟩,.string ⟨#[]⟩,.slice none 0 0,.slice none 0 0,.slice none 0 0,.int .i64 0] 174)).heap.size=w.heap.size+1:=by simp
  have cD:=hb2.size
  refine QA ⟨((H.out.below bU.out).below hb2).below bS,fun p hp=>?_,heap_at_new _ _,((But.of_below bU.out).trans (But.of_below hb2)).trans (But.of_below bS),cd.1,cd.2,fun p hp=>?_,⟨by omega,by omega⟩,by simp,.cons (.int _) (.cons (.str []) (.cons (.str []) (.cons (.seq (cap:=0) .nil) (.cons (.seq (cap:=0) .nil) (.cons (.seq (cap:=0) .nil) (.cons (.int _) .nil))))))⟩
  ·rw[QB.1 hp]
   show (w2.alloc _).heap[w.heap.size]?=_
   rw[bS.block w.heap.size (by omega),hb2.block w.heap.size (by omega)]
   exact heap_at_new _ _
  ·rw[QB.1 hp]
   simp only
   omega
 have cj:w.heap.size<w2.heap.size:=by have:=hb2.size;simp at this;omega
 obtain ⟨I,bQ⟩:∃ x,x=w2.heap.size:=⟨_,rfl⟩
 obtain ⟨lo,b8⟩:∃ x,x=w2.heap.size+1:=⟨_,rfl⟩
 have n1:¬ I=w.heap.size:=by omega
 have n2:¬ w.heap.size=I:=by omega
 clear hb2 bW
 go_wp2_with fail
 refine (rtake_any b g s Qr.sDots _ bZ.out.rd).mono ?_
 rintro r w3 ⟨rfl,h3,f3⟩
 have bV:=bZ.out.step h3 f3
 rw[← b8,← bQ] at bV
 rw[← bQ]
 have bO:=QA bV
 obtain ⟨B,hB⟩:∃ B,B=Rd.isS s Qr.sDots:=⟨_,rfl⟩
 have HB:=QA hB
 rw[← hB]
 clear h3 f3 bV hB bQ b8 cj bZ
 cases B
 ·have HT:Hid (Rd.take Qr.sDots s=s):=by unfold Rd.take;rw[if_neg (by rw[← HB.out];simp)];exact QA rfl
  have W:Hid (FJ w b g I lo [(w.heap.size,Obj.cells #[.int .i64 0,.string ⟨#[]⟩,.string ⟨#[]⟩,.slice none 0 0,.slice none 0 0,.slice none 0 0,.int .i64 0] 174 (0,0))] 174 [.int 0,.str [],.str [],.seq 7 [],.seq 3 [],.seq 7 [],.int D] [.int .i64 0,.string ⟨#[]⟩,.string ⟨#[]⟩,.slice none 0 0,.slice none 0 0,.slice none 0 0,.int .i64 D] s (w3)):=by rw[HT.out] at bO;exact bO
  have HR:Hid (Qr.selOf f (n+1) s=Qr.fieldOf f (n+1) D s):=by unfold Qr.selOf;rw[if_neg (by rw[← HB.out];simp),← ba.out];exact QA rfl
  have y0:=blk_cell W.out.b6 0 (.int .i64 0) rfl
  have an:=blk_free W.out.b6 0
  have y1:=blk_cell W.out.b6 1 (.string ⟨#[]⟩) rfl
  have a6:=blk_free W.out.b6 1
  have y2:=blk_cell W.out.b6 2 (.string ⟨#[]⟩) rfl
  have am:=blk_free W.out.b6 2
  have y3:=blk_cell W.out.b6 3 (.slice none 0 0) rfl
  have a7:=blk_free W.out.b6 3
  have y4:=blk_cell W.out.b6 4 (.slice none 0 0) rfl
  have aK:=blk_free W.out.b6 4
  have y5:=blk_cell W.out.b6 5 (.slice none 0 0) rfl
  have a9:=blk_free W.out.b6 5
  have y6:=blk_cell W.out.b6 6 (.int .i64 D) rfl
  have a8:=blk_free W.out.b6 6
  go_wp2_with fail
  refine (field_step b g n D hnb f s HS.out w3 W.out.rd HN.out ⟨d0,d1⟩).mono ?_
  rintro r w4 ⟨cs,rfl,hrd,h4,f4⟩
  obtain ⟨k',a',al,nm,a1,a2,a3,cg,c1,ck,c2,ci,c3,rfl⟩:=Sel_cells hrd
  have R:=QA (W.out.step h4 f4)
  have G:=R.out.copy (r:=w.heap.size) (QB.2 rfl) (W.out.data hrd)
  simp only[putCells,QY,Nat.zero_add] at G
  have av:=QA G
  clear G hrd h4 f4
  clear y0 an y1 a6 y2 am y3 a7 y4 aK y5 a9 y6 a8
  have z0:=blk_cell (R.out.cb _ (QB.2 rfl)) 0 (.int .i64 0) rfl
  have bo:=blk_free (R.out.cb _ (QB.2 rfl)) 0
  have z1:=blk_cell (R.out.cb _ (QB.2 rfl)) 1 (.string ⟨#[]⟩) rfl
  have bw:=blk_free (R.out.cb _ (QB.2 rfl)) 1
  have z2:=blk_cell (R.out.cb _ (QB.2 rfl)) 2 (.string ⟨#[]⟩) rfl
  have bn:=blk_free (R.out.cb _ (QB.2 rfl)) 2
  have z3:=blk_cell (R.out.cb _ (QB.2 rfl)) 3 (.slice none 0 0) rfl
  have bl:=blk_free (R.out.cb _ (QB.2 rfl)) 3
  have z4:=blk_cell (R.out.cb _ (QB.2 rfl)) 4 (.slice none 0 0) rfl
  have bv:=blk_free (R.out.cb _ (QB.2 rfl)) 4
  have z5:=blk_cell (R.out.cb _ (QB.2 rfl)) 5 (.slice none 0 0) rfl
  have bm:=blk_free (R.out.cb _ (QB.2 rfl)) 5
  have z6:=blk_cell (R.out.cb _ (QB.2 rfl)) 6 (.int .i64 0) rfl
  have bB:=blk_free (R.out.cb _ (QB.2 rfl)) 6
  go_wp2_with fail
  refine bodyPost_ret (v:=.agg #[.int .i64 k',.string al,.string nm,.slice a1 cg c1,.slice a2 ck c2,.slice a3 ci c3,.int .i64 a']) (by simp[results,Tryz.results214,go_sem,z0,z1,z2,z3,z4,z5,z6,n1,n2]) rfl ?_
  rw[HR.out]
  exact ⟨_,rfl,av.out⟩
 ·have HT:Hid (Rd.take Qr.sDots s=Rd.next s):=by unfold Rd.take;rw[if_pos HB.out.symm];exact QA rfl
  have W:Hid (FJ w b g I lo [(w.heap.size,Obj.cells #[.int .i64 0,.string ⟨#[]⟩,.string ⟨#[]⟩,.slice none 0 0,.slice none 0 0,.slice none 0 0,.int .i64 0] 174 (0,0))] 174 [.int 0,.str [],.str [],.seq 7 [],.seq 3 [],.seq 7 [],.int D] [.int .i64 0,.string ⟨#[]⟩,.string ⟨#[]⟩,.slice none 0 0,.slice none 0 0,.slice none 0 0,.int .i64 D] (Rd.next s) (w3)):=by rw[HT.out] at bO;exact bO
  have ar:Hid (Rd.Ok s (Rd.next s)):=QA (Rd.ok_next s)
  have ay:Hid ((Rd.next s).deep=s.deep):=QA (Rd.next_deep s)
  have bI:=QA (Rd.next_sign HB.out.symm)
  have a4:Hid (s.err=0):=QA (by have:=HB.out.symm;unfold Rd.isS at this;simp only[Bool.and_eq_true,decide_eq_true_eq] at this;exact this.1.1)
  go_wp2_with fail
  refine (rword0_any b g (Rd.next s) w3 W.out.rd).mono ?_
  rintro r w4 ⟨rfl,hb4⟩
  have R:Hid (FJ w b g I lo [(w.heap.size,Obj.cells #[.int .i64 0,.string ⟨#[]⟩,.string ⟨#[]⟩,.slice none 0 0,.slice none 0 0,.slice none 0 0,.int .i64 0] 174 (0,0))] 174 [.int 0,.str [],.str [],.seq 7 [],.seq 3 [],.seq 7 [],.int D] [.int .i64 0,.string ⟨#[]⟩,.string ⟨#[]⟩,.slice none 0 0,.slice none 0 0,.slice none 0 0,.int .i64 D] (Rd.next s) (w4)):=QA (W.out.below hb4)
  obtain ⟨N,hN⟩:∃ B,B=Rd.isN (Rd.next s):=⟨_,rfl⟩
  have br:=QA hN
  rw[← hN]
  clear hN hb4
  cases N
  ·have y0:=blk_cell R.out.b6 0 (.int .i64 0) rfl
   have an:=blk_free R.out.b6 0
   have aP:Hid (FJ w b g I lo [(w.heap.size,Obj.cells #[.int .i64 0,.string ⟨#[]⟩,.string ⟨#[]⟩,.slice none 0 0,.slice none 0 0,.slice none 0 0,.int .i64 0] 174 (0,0))] 174 [.int 3,.str [],.str [],.seq 7 [],.seq 3 [],.seq 7 [],.int D] [.int .i64 3,.string ⟨#[]⟩,.string ⟨#[]⟩,.slice none 0 0,.slice none 0 0,.slice none 0 0,.int .i64 D] (Rd.next s) ((w4).setCell ⟨I,0,none⟩ (.int .i64 3))):=QA (R.out.put 0 (.int 3) rfl)
   have aE:Hid (Below ((w4).setCell ⟨I,0,none⟩ (.int .i64 3)).heap.size ((w4).setCell ⟨I,0,none⟩ (.int .i64 3)) (((w4).setCell ⟨I,0,none⟩ (.int .i64 3)).alloc (.cells #[.string ⟨#[111,110]⟩] 9))):=QA ((Below.refl _ _).alloc (QM _) _)
   obtain ⟨bp,ae⟩:∃ x,x=((w4).setCell ⟨I,0,none⟩ (.int .i64 3)).heap.size:=⟨_,rfl⟩
   have aX:Hid (Txts (((w4).setCell ⟨I,0,none⟩ (.int .i64 3)).alloc (.cells #[.string ⟨#[111,110]⟩] 9)) (.slice (some ⟨bp,0,none⟩) 1 1) [Qr.sOn]):=by
    rw[ae];exact QA (txts_one _ Qr.sOn ⟨#[111,110]⟩ 9 rfl)
   try simp only[size_set] at ae
   subst ae
   go_wp2_with fail
   refine (rword_any b g (Rd.next s) _ [Qr.sOn] _ ((aP.out.below aE.out).rd) aX.out (by simp)).mono ?_
   rintro r w22x ⟨rfl,hb22⟩
   have aa:Hid (FJ w b g I lo [(w.heap.size,Obj.cells #[.int .i64 0,.string ⟨#[]⟩,.string ⟨#[]⟩,.slice none 0 0,.slice none 0 0,.slice none 0 0,.int .i64 0] 174 (0,0))] 174 [.int 3,.str [],.str [],.seq 7 [],.seq 3 [],.seq 7 [],.int D] [.int .i64 3,.string ⟨#[]⟩,.string ⟨#[]⟩,.slice none 0 0,.slice none 0 0,.slice none 0 0,.int .i64 D] (Rd.next s) (w22x)):=QA ((aP.out.below aE.out).below hb22)
   obtain ⟨O2,aZ⟩:∃ B,B=Rd.isW (Rd.next s) [Qr.sOn]:=⟨_,rfl⟩
   have bg:=QA aZ
   rw[← aZ]
   clear aZ hb22
   clear y0 an
   cases O2
   ·have ap:Hid (Qr.onOf (Rd.next s)=(Rd.next s,[])):=by unfold Qr.onOf;rw[if_neg (by rw[← bg.out];simp)];exact QA rfl
    go_wp2_with fail
    refine (dirs_any b g n hnb (Rd.next s) _ aa.out.rd (QR ar.out.len HN.out) (by rw[ay.out];omega)).mono ?_
    rintro r w41x ⟨ra41,rc41,rfl,hrd,h41,f41⟩
    obtain ⟨K,ao⟩:∃ x,x=Qr.dirs (n+1) (Rd.next s):=⟨_,rfl⟩
    rw[← ao] at hrd h41 ⊢
    have ai:=QA ao
    have F:=aa.out.data hrd
    obtain ⟨S,J⟩:∃ x,x=K.2.length:=⟨_,rfl⟩
    rw[QX,← J] at F ⊢
    have P:Hid (Rd.Ok s K.1):=by rw[ai.out];exact QA (ar.out.trans (Qr.ok_dirs (n+1) _))
    have M:Hid (K.1.deep=s.deep):=by rw[ai.out,Qr.dirs_deep];exact ay
    have T:Hid (FJ w b g I lo [(w.heap.size,Obj.cells #[.int .i64 0,.string ⟨#[]⟩,.string ⟨#[]⟩,.slice none 0 0,.slice none 0 0,.slice none 0 0,.int .i64 0] 174 (0,0))] 174 [.int 3,.str [],.str [],.seq 7 [],.seq 3 [],.seq 7 [],.int D] [.int .i64 3,.string ⟨#[]⟩,.string ⟨#[]⟩,.slice none 0 0,.slice none 0 0,.slice none 0 0,.int .i64 D] K.1 (w41x)):=QA (aa.out.step h41 f41)
    have aS:=QA F
    clear hrd h41 f41 ao F J
    have y4:=blk_cell T.out.b6 4 (.slice none 0 0) rfl
    have aK:=blk_free T.out.b6 4
    have aG:Hid (FJ w b g I lo [(w.heap.size,Obj.cells #[.int .i64 0,.string ⟨#[]⟩,.string ⟨#[]⟩,.slice none 0 0,.slice none 0 0,.slice none 0 0,.int .i64 0] 174 (0,0))] 174 [.int 3,.str [],.str [],.seq 7 [],.seq 3 (K.2.map Qr.Dir.d),.seq 7 [],.int D] [.int .i64 3,.string ⟨#[]⟩,.string ⟨#[]⟩,.slice none 0 0,.slice ra41 S rc41,.slice none 0 0,.int .i64 D] K.1 ((w41x).setCell ⟨I,4,none⟩ (.slice ra41 S rc41))):=QA (T.out.put 4 (aS.out) rfl)
    go_wp2_with fail
    refine (HS.out K.1 _ aG.out.rd (QR P.out.len HN.out) M.out a4.out ?_).mono ?_
    ·right;exact Nat.lt_of_le_of_lt (show K.1.rest.length≤(Rd.next s).rest.length by have h8:=Qr.ok_onOf (Rd.next s);rw[ap.out] at h8;have h9:=h8.trans (Qr.ok_dirs (n+1) _);rw[ai.out];exact h9.len) bI.out.1
    rintro r w43x ⟨ra43,rc43,rfl,hrd,h43,f43⟩
    obtain ⟨Z,aA⟩:∃ x,x=Qr.selsOf f K.1:=⟨_,rfl⟩
    rw[← aA] at hrd h43 ⊢
    have aH:=QA aA
    have F:=aG.out.data hrd
    obtain ⟨aq,J⟩:∃ x,x=Z.2.length:=⟨_,rfl⟩
    rw[QX,← J] at F ⊢
    have bM:Hid (Rd.Ok s Z.1):=by rw[aH.out];exact QA (P.out.trans (Qr.ok_selsOf f bK.out _))
    have bP:Hid (Z.1.deep=s.deep):=by rw[aH.out,Qr.selsOf_deep f bL.out];exact M
    have o:Hid (FJ w b g I lo [(w.heap.size,Obj.cells #[.int .i64 0,.string ⟨#[]⟩,.string ⟨#[]⟩,.slice none 0 0,.slice none 0 0,.slice none 0 0,.int .i64 0] 174 (0,0))] 174 [.int 3,.str [],.str [],.seq 7 [],.seq 3 (K.2.map Qr.Dir.d),.seq 7 [],.int D] [.int .i64 3,.string ⟨#[]⟩,.string ⟨#[]⟩,.slice none 0 0,.slice ra41 S rc41,.slice none 0 0,.int .i64 D] Z.1 (w43x)):=QA (aG.out.step h43 f43)
    have aR:=QA F
    clear hrd h43 f43 aA F J
    have y5:=blk_cell o.out.b6 5 (.slice none 0 0) rfl
    have a9:=blk_free o.out.b6 5
    have bj:Hid (FJ w b g I lo [(w.heap.size,Obj.cells #[.int .i64 0,.string ⟨#[]⟩,.string ⟨#[]⟩,.slice none 0 0,.slice none 0 0,.slice none 0 0,.int .i64 0] 174 (0,0))] 174 [.int 3,.str [],.str [],.seq 7 [],.seq 3 (K.2.map Qr.Dir.d),.seq 7 (Z.2.map Qr.Sel.d),.int D] [.int .i64 3,.string ⟨#[]⟩,.string ⟨#[]⟩,.slice none 0 0,.slice ra41 S rc41,.slice ra43 aq rc43,.int .i64 D] Z.1 ((w43x).setCell ⟨I,5,none⟩ (.slice ra43 aq rc43))):=QA (o.out.put 5 (aR.out) rfl)
    have HR:Hid (Qr.selOf f (n+1) s=(Z.1,.mk 3 [] [] [] K.2 Z.2 D)):=by
     refine QA ?_
     unfold Qr.selOf
     rw[if_pos HB.out.symm,if_neg (by rw[isW_nil,← br.out];simp),← ba.out]
     unfold Qr.inlineOf
     dsimp only
     rw[ap.out,← ai.out,← aH.out]
    have y0:=blk_cell o.out.b6 0 (.int .i64 3) rfl
    have an:=blk_free o.out.b6 0
    have y1:=blk_cell o.out.b6 1 (.string ⟨#[]⟩) rfl
    have a6:=blk_free o.out.b6 1
    have y2:=blk_cell o.out.b6 2 (.string ⟨#[]⟩) rfl
    have am:=blk_free o.out.b6 2
    have y3:=blk_cell o.out.b6 3 (.slice none 0 0) rfl
    have a7:=blk_free o.out.b6 3
    have y4:=blk_cell o.out.b6 4 (.slice ra41 S rc41) rfl
    have aK:=blk_free o.out.b6 4
    have y6:=blk_cell o.out.b6 6 (.int .i64 D) rfl
    have a8:=blk_free o.out.b6 6
    have z0:=blk_cell (o.out.cb _ (QB.2 rfl)) 0 (.int .i64 0) rfl
    have bo:=blk_free (o.out.cb _ (QB.2 rfl)) 0
    have z1:=blk_cell (o.out.cb _ (QB.2 rfl)) 1 (.string ⟨#[]⟩) rfl
    have bw:=blk_free (o.out.cb _ (QB.2 rfl)) 1
    have z2:=blk_cell (o.out.cb _ (QB.2 rfl)) 2 (.string ⟨#[]⟩) rfl
    have bn:=blk_free (o.out.cb _ (QB.2 rfl)) 2
    have z3:=blk_cell (o.out.cb _ (QB.2 rfl)) 3 (.slice none 0 0) rfl
    have bl:=blk_free (o.out.cb _ (QB.2 rfl)) 3
    have z4:=blk_cell (o.out.cb _ (QB.2 rfl)) 4 (.slice none 0 0) rfl
    have bv:=blk_free (o.out.cb _ (QB.2 rfl)) 4
    have z5:=blk_cell (o.out.cb _ (QB.2 rfl)) 5 (.slice none 0 0) rfl
    have bm:=blk_free (o.out.cb _ (QB.2 rfl)) 5
    have z6:=blk_cell (o.out.cb _ (QB.2 rfl)) 6 (.int .i64 0) rfl
    have bB:=blk_free (o.out.cb _ (QB.2 rfl)) 6
    have G:=bj.out.fin (r:=w.heap.size) (QB.2 rfl)
    simp only[putCells,QY,Nat.zero_add] at G
    have av:=QA G
    clear G
    go_wp2_with fail
    refine bodyPost_ret (v:=.agg #[.int .i64 3,.string ⟨#[]⟩,.string ⟨#[]⟩,.slice none 0 0,.slice ra41 S rc41,.slice ra43 aq rc43,.int .i64 D]) (by simp[results,Tryz.results214,go_sem,z0,z1,z2,z3,z4,z5,z6,n1,n2]) rfl ?_
    rw[HR.out]
    unfold Qr.Sel.d
    rw[Qr.Sel.dl_map]
    exact ⟨_,rfl,av.out⟩
   ·go_wp2_with fail
    refine (rnext_any b g (Rd.next s) _ aa.out.rd).mono ?_
    rintro r w41x ⟨rfl,h41,f41⟩
    obtain ⟨V,aF⟩:∃ x,x=Rd.next (Rd.next s):=⟨_,rfl⟩
    rw[← aF] at h41
    have ac:=QA aF
    have P:Hid (Rd.Ok s V):=by rw[ac.out];exact QA (ar.out.trans (Rd.ok_next _))
    have M:Hid (V.deep=s.deep):=by rw[ac.out,Rd.next_deep];exact ay
    have T:Hid (FJ w b g I lo [(w.heap.size,Obj.cells #[.int .i64 0,.string ⟨#[]⟩,.string ⟨#[]⟩,.slice none 0 0,.slice none 0 0,.slice none 0 0,.int .i64 0] 174 (0,0))] 174 [.int 3,.str [],.str [],.seq 7 [],.seq 3 [],.seq 7 [],.int D] [.int .i64 3,.string ⟨#[]⟩,.string ⟨#[]⟩,.slice none 0 0,.slice none 0 0,.slice none 0 0,.int .i64 D] V (w41x)):=QA (aa.out.step h41 f41)
    clear h41 f41 aF
    go_wp2_with fail
    refine (rname_any b g V _ T.out.rd).mono ?_
    rintro r w42x ⟨rfl,h42,f42⟩
    obtain ⟨Q,au⟩:∃ x,x=(Rd.name V).1:=⟨_,rfl⟩
    rw[← au] at h42
    have ab:=QA au
    have af:Hid (Rd.Ok s Q):=by rw[ab.out];exact QA (P.out.trans (Rd.ok_name _))
    have aj:Hid (Q.deep=s.deep):=by rw[ab.out,Rd.name_deep];exact M
    obtain ⟨C,ad⟩:∃ x,x=(Rd.name V).2:=⟨_,rfl⟩
    rw[← ad]
    have aU:=QA ad
    clear ad
    have aw:Hid (FJ w b g I lo [(w.heap.size,Obj.cells #[.int .i64 0,.string ⟨#[]⟩,.string ⟨#[]⟩,.slice none 0 0,.slice none 0 0,.slice none 0 0,.int .i64 0] 174 (0,0))] 174 [.int 3,.str [],.str [],.seq 7 [],.seq 3 [],.seq 7 [],.int D] [.int .i64 3,.string ⟨#[]⟩,.string ⟨#[]⟩,.slice none 0 0,.slice none 0 0,.slice none 0 0,.int .i64 D] Q (w42x)):=QA (T.out.step h42 f42)
    clear h42 f42 au
    have y2:=blk_cell aw.out.b6 2 (.string ⟨#[]⟩) rfl
    have am:=blk_free aw.out.b6 2
    have ax:Hid (FJ w b g I lo [(w.heap.size,Obj.cells #[.int .i64 0,.string ⟨#[]⟩,.string ⟨#[]⟩,.slice none 0 0,.slice none 0 0,.slice none 0 0,.int .i64 0] 174 (0,0))] 174 [.int 3,.str [],.str C,.seq 7 [],.seq 3 [],.seq 7 [],.int D] [.int .i64 3,.string ⟨#[]⟩,.string ⟨C.toArray⟩,.slice none 0 0,.slice none 0 0,.slice none 0 0,.int .i64 D] Q ((w42x).setCell ⟨I,2,none⟩ (.string ⟨C.toArray⟩))):=QA (aw.out.put 2 (.str C) rfl)
    have ap:Hid (Qr.onOf (Rd.next s)=(Q,C)):=by unfold Qr.onOf;rw[if_pos bg.out.symm,← ac.out];exact QA (Prod.ext ab.out.symm aU.out.symm)
    go_wp2_with fail
    refine (dirs_any b g n hnb Q _ ax.out.rd (QR af.out.len HN.out) (by rw[aj.out];omega)).mono ?_
    rintro r w44x ⟨ra44,rc44,rfl,hrd,h44,f44⟩
    obtain ⟨L,aC⟩:∃ x,x=Qr.dirs (n+1) Q:=⟨_,rfl⟩
    rw[← aC] at hrd h44 ⊢
    have ah:=QA aC
    have F:=ax.out.data hrd
    obtain ⟨U,J⟩:∃ x,x=L.2.length:=⟨_,rfl⟩
    rw[QX,← J] at F ⊢
    have ak:Hid (Rd.Ok s L.1):=by rw[ah.out];exact QA (af.out.trans (Qr.ok_dirs (n+1) _))
    have ag:Hid (L.1.deep=s.deep):=by rw[ah.out,Qr.dirs_deep];exact aj
    have aJ:Hid (FJ w b g I lo [(w.heap.size,Obj.cells #[.int .i64 0,.string ⟨#[]⟩,.string ⟨#[]⟩,.slice none 0 0,.slice none 0 0,.slice none 0 0,.int .i64 0] 174 (0,0))] 174 [.int 3,.str [],.str C,.seq 7 [],.seq 3 [],.seq 7 [],.int D] [.int .i64 3,.string ⟨#[]⟩,.string ⟨C.toArray⟩,.slice none 0 0,.slice none 0 0,.slice none 0 0,.int .i64 D] L.1 (w44x)):=QA (ax.out.step h44 f44)
    have aY:=QA F
    clear hrd h44 f44 aC F J
    have y4:=blk_cell aJ.out.b6 4 (.slice none 0 0) rfl
    have aK:=blk_free aJ.out.b6 4
    have aD:Hid (FJ w b g I lo [(w.heap.size,Obj.cells #[.int .i64 0,.string ⟨#[]⟩,.string ⟨#[]⟩,.slice none 0 0,.slice none 0 0,.slice none 0 0,.int .i64 0] 174 (0,0))] 174 [.int 3,.str [],.str C,.seq 7 [],.seq 3 (L.2.map Qr.Dir.d),.seq 7 [],.int D] [.int .i64 3,.string ⟨#[]⟩,.string ⟨C.toArray⟩,.slice none 0 0,.slice ra44 U rc44,.slice none 0 0,.int .i64 D] L.1 ((w44x).setCell ⟨I,4,none⟩ (.slice ra44 U rc44))):=QA (aJ.out.put 4 (aY.out) rfl)
    clear y2 am 
    go_wp2_with fail
    refine (HS.out L.1 _ aD.out.rd (QR ak.out.len HN.out) ag.out a4.out ?_).mono ?_
    ·right;exact Nat.lt_of_le_of_lt (show L.1.rest.length≤(Rd.next s).rest.length by have h8:=Qr.ok_onOf (Rd.next s);rw[ap.out] at h8;have h9:=h8.trans (Qr.ok_dirs (n+1) _);rw[ah.out];exact h9.len) bI.out.1
    rintro r w46x ⟨ra46,rc46,rfl,hrd,h46,f46⟩
    obtain ⟨Y,az⟩:∃ x,x=Qr.selsOf f L.1:=⟨_,rfl⟩
    rw[← az] at hrd h46 ⊢
    have aI:=QA az
    have F:=aD.out.data hrd
    obtain ⟨aB,J⟩:∃ x,x=Y.2.length:=⟨_,rfl⟩
    rw[QX,← J] at F ⊢
    have bN:Hid (Rd.Ok s Y.1):=by rw[aI.out];exact QA (ak.out.trans (Qr.ok_selsOf f bK.out _))
    have bJ:Hid (Y.1.deep=s.deep):=by rw[aI.out,Qr.selsOf_deep f bL.out];exact ag
    have A:Hid (FJ w b g I lo [(w.heap.size,Obj.cells #[.int .i64 0,.string ⟨#[]⟩,.string ⟨#[]⟩,.slice none 0 0,.slice none 0 0,.slice none 0 0,.int .i64 0] 174 (0,0))] 174 [.int 3,.str [],.str C,.seq 7 [],.seq 3 (L.2.map Qr.Dir.d),.seq 7 [],.int D] [.int .i64 3,.string ⟨#[]⟩,.string ⟨C.toArray⟩,.slice none 0 0,.slice ra44 U rc44,.slice none 0 0,.int .i64 D] Y.1 (w46x)):=QA (aD.out.step h46 f46)
    have aQ:=QA F
    clear hrd h46 f46 az F J
    have y5:=blk_cell A.out.b6 5 (.slice none 0 0) rfl
    have a9:=blk_free A.out.b6 5
    have bq:Hid (FJ w b g I lo [(w.heap.size,Obj.cells #[.int .i64 0,.string ⟨#[]⟩,.string ⟨#[]⟩,.slice none 0 0,.slice none 0 0,.slice none 0 0,.int .i64 0] 174 (0,0))] 174 [.int 3,.str [],.str C,.seq 7 [],.seq 3 (L.2.map Qr.Dir.d),.seq 7 (Y.2.map Qr.Sel.d),.int D] [.int .i64 3,.string ⟨#[]⟩,.string ⟨C.toArray⟩,.slice none 0 0,.slice ra44 U rc44,.slice ra46 aB rc46,.int .i64 D] Y.1 ((w46x).setCell ⟨I,5,none⟩ (.slice ra46 aB rc46))):=QA (A.out.put 5 (aQ.out) rfl)
    have HR:Hid (Qr.selOf f (n+1) s=(Y.1,.mk 3 [] C [] L.2 Y.2 D)):=by
     refine QA ?_
     unfold Qr.selOf
     rw[if_pos HB.out.symm,if_neg (by rw[isW_nil,← br.out];simp),← ba.out]
     unfold Qr.inlineOf
     dsimp only
     rw[ap.out,← ah.out,← aI.out]
    have y0:=blk_cell A.out.b6 0 (.int .i64 3) rfl
    have an:=blk_free A.out.b6 0
    have y1:=blk_cell A.out.b6 1 (.string ⟨#[]⟩) rfl
    have a6:=blk_free A.out.b6 1
    have y2:=blk_cell A.out.b6 2 (.string ⟨C.toArray⟩) rfl
    have am:=blk_free A.out.b6 2
    have y3:=blk_cell A.out.b6 3 (.slice none 0 0) rfl
    have a7:=blk_free A.out.b6 3
    have y4:=blk_cell A.out.b6 4 (.slice ra44 U rc44) rfl
    have aK:=blk_free A.out.b6 4
    have y6:=blk_cell A.out.b6 6 (.int .i64 D) rfl
    have a8:=blk_free A.out.b6 6
    have z0:=blk_cell (A.out.cb _ (QB.2 rfl)) 0 (.int .i64 0) rfl
    have bo:=blk_free (A.out.cb _ (QB.2 rfl)) 0
    have z1:=blk_cell (A.out.cb _ (QB.2 rfl)) 1 (.string ⟨#[]⟩) rfl
    have bw:=blk_free (A.out.cb _ (QB.2 rfl)) 1
    have z2:=blk_cell (A.out.cb _ (QB.2 rfl)) 2 (.string ⟨#[]⟩) rfl
    have bn:=blk_free (A.out.cb _ (QB.2 rfl)) 2
    have z3:=blk_cell (A.out.cb _ (QB.2 rfl)) 3 (.slice none 0 0) rfl
    have bl:=blk_free (A.out.cb _ (QB.2 rfl)) 3
    have z4:=blk_cell (A.out.cb _ (QB.2 rfl)) 4 (.slice none 0 0) rfl
    have bv:=blk_free (A.out.cb _ (QB.2 rfl)) 4
    have z5:=blk_cell (A.out.cb _ (QB.2 rfl)) 5 (.slice none 0 0) rfl
    have bm:=blk_free (A.out.cb _ (QB.2 rfl)) 5
    have z6:=blk_cell (A.out.cb _ (QB.2 rfl)) 6 (.int .i64 0) rfl
    have bB:=blk_free (A.out.cb _ (QB.2 rfl)) 6
    have G:=bq.out.fin (r:=w.heap.size) (QB.2 rfl)
    simp only[putCells,QY,Nat.zero_add] at G
    have av:=QA G
    clear G
    go_wp2_with fail
    refine bodyPost_ret (v:=.agg #[.int .i64 3,.string ⟨#[]⟩,.string ⟨C.toArray⟩,.slice none 0 0,.slice ra44 U rc44,.slice ra46 aB rc46,.int .i64 D]) (by simp[results,Tryz.results214,go_sem,z0,z1,z2,z3,z4,z5,z6,n1,n2]) rfl ?_
    rw[HR.out]
    unfold Qr.Sel.d
    rw[Qr.Sel.dl_map]
    exact ⟨_,rfl,av.out⟩
  ·have bt:Hid (Below (w4).heap.size (w4) ((w4).alloc (.cells #[.string ⟨#[111,110]⟩] 9))):=QA ((Below.refl _ _).alloc (QM _) _)
   obtain ⟨b7,aW⟩:∃ x,x=(w4).heap.size:=⟨_,rfl⟩
   have bR:Hid (Txts ((w4).alloc (.cells #[.string ⟨#[111,110]⟩] 9)) (.slice (some ⟨b7,0,none⟩) 1 1) [Qr.sOn]):=by
    rw[aW];exact QA (txts_one _ Qr.sOn ⟨#[111,110]⟩ 9 rfl)
   try simp only[size_set] at aW
   subst aW
   go_wp2_with fail
   refine (rword_any b g (Rd.next s) _ [Qr.sOn] _ ((R.out.below bt.out).rd) bR.out (by simp)).mono ?_
   rintro r w11x ⟨rfl,hb11⟩
   have aO:Hid (FJ w b g I lo [(w.heap.size,Obj.cells #[.int .i64 0,.string ⟨#[]⟩,.string ⟨#[]⟩,.slice none 0 0,.slice none 0 0,.slice none 0 0,.int .i64 0] 174 (0,0))] 174 [.int 0,.str [],.str [],.seq 7 [],.seq 3 [],.seq 7 [],.int D] [.int .i64 0,.string ⟨#[]⟩,.string ⟨#[]⟩,.slice none 0 0,.slice none 0 0,.slice none 0 0,.int .i64 D] (Rd.next s) (w11x)):=QA ((R.out.below bt.out).below hb11)
   obtain ⟨O,hO⟩:∃ B,B=Rd.isW (Rd.next s) [Qr.sOn]:=⟨_,rfl⟩
   have HO:=QA hO
   rw[← hO]
   clear hO hb11
   cases O
   ·go_wp2_with fail
    refine (rname_any b g (Rd.next s) _ aO.out.rd).mono ?_
    rintro r w61x ⟨rfl,h61,f61⟩
    obtain ⟨aL,bD⟩:∃ x,x=(Rd.name (Rd.next s)).1:=⟨_,rfl⟩
    rw[← bD] at h61
    have aV:=QA bD
    have a5:Hid (Rd.Ok s aL):=by rw[aV.out];exact QA (ar.out.trans (Rd.ok_name _))
    have a0:Hid (aL.deep=s.deep):=by rw[aV.out,Rd.name_deep];exact ay
    obtain ⟨X,aT⟩:∃ x,x=(Rd.name (Rd.next s)).2:=⟨_,rfl⟩
    rw[← aT]
    have bT:=QA aT
    clear aT
    have aN:Hid (FJ w b g I lo [(w.heap.size,Obj.cells #[.int .i64 0,.string ⟨#[]⟩,.string ⟨#[]⟩,.slice none 0 0,.slice none 0 0,.slice none 0 0,.int .i64 0] 174 (0,0))] 174 [.int 0,.str [],.str [],.seq 7 [],.seq 3 [],.seq 7 [],.int D] [.int .i64 0,.string ⟨#[]⟩,.string ⟨#[]⟩,.slice none 0 0,.slice none 0 0,.slice none 0 0,.int .i64 D] aL (w61x)):=QA (aO.out.step h61 f61)
    clear h61 f61 bD
    have y0:=blk_cell aN.out.b6 0 (.int .i64 0) rfl
    have an:=blk_free aN.out.b6 0
    have y2:=blk_cell aN.out.b6 2 (.string ⟨#[]⟩) rfl
    have am:=blk_free aN.out.b6 2
    have bA:Hid (FJ w b g I lo [(w.heap.size,Obj.cells #[.int .i64 0,.string ⟨#[]⟩,.string ⟨#[]⟩,.slice none 0 0,.slice none 0 0,.slice none 0 0,.int .i64 0] 174 (0,0))] 174 [.int 2,.str [],.str X,.seq 7 [],.seq 3 [],.seq 7 [],.int D] [.int .i64 2,.string ⟨#[]⟩,.string ⟨X.toArray⟩,.slice none 0 0,.slice none 0 0,.slice none 0 0,.int .i64 D] aL (((w61x).setCell ⟨I,0,none⟩ (.int .i64 2)).setCell ⟨I,2,none⟩ (.string ⟨X.toArray⟩))):=QA ((aN.out.put 0 (.int 2) rfl).put 2 (.str X) rfl)
    go_wp2_with fail
    refine (dirs_any b g n hnb aL _ bA.out.rd (QR a5.out.len HN.out) (by rw[a0.out];omega)).mono ?_
    rintro r w63x ⟨ra63,rc63,rfl,hrd,h63,f63⟩
    obtain ⟨aM,bz⟩:∃ x,x=Qr.dirs (n+1) aL:=⟨_,rfl⟩
    rw[← bz] at hrd h63 ⊢
    have bd:=QA bz
    have F:=bA.out.data hrd
    obtain ⟨bE,J⟩:∃ x,x=aM.2.length:=⟨_,rfl⟩
    rw[QX,← J] at F ⊢
    have cf:Hid (Rd.Ok s aM.1):=by rw[bd.out];exact QA (a5.out.trans (Qr.ok_dirs (n+1) _))
    have ce:Hid (aM.1.deep=s.deep):=by rw[bd.out,Qr.dirs_deep];exact a0
    have E:Hid (FJ w b g I lo [(w.heap.size,Obj.cells #[.int .i64 0,.string ⟨#[]⟩,.string ⟨#[]⟩,.slice none 0 0,.slice none 0 0,.slice none 0 0,.int .i64 0] 174 (0,0))] 174 [.int 2,.str [],.str X,.seq 7 [],.seq 3 [],.seq 7 [],.int D] [.int .i64 2,.string ⟨#[]⟩,.string ⟨X.toArray⟩,.slice none 0 0,.slice none 0 0,.slice none 0 0,.int .i64 D] aM.1 (w63x)):=QA (bA.out.step h63 f63)
    have bY:=QA F
    clear hrd h63 f63 bz F J
    have y4:=blk_cell E.out.b6 4 (.slice none 0 0) rfl
    have aK:=blk_free E.out.b6 4
    have cc:Hid (FJ w b g I lo [(w.heap.size,Obj.cells #[.int .i64 0,.string ⟨#[]⟩,.string ⟨#[]⟩,.slice none 0 0,.slice none 0 0,.slice none 0 0,.int .i64 0] 174 (0,0))] 174 [.int 2,.str [],.str X,.seq 7 [],.seq 3 (aM.2.map Qr.Dir.d),.seq 7 [],.int D] [.int .i64 2,.string ⟨#[]⟩,.string ⟨X.toArray⟩,.slice none 0 0,.slice ra63 bE rc63,.slice none 0 0,.int .i64 D] aM.1 ((w63x).setCell ⟨I,4,none⟩ (.slice ra63 bE rc63))):=QA (E.out.put 4 (bY.out) rfl)
    have HR:Hid (Qr.selOf f (n+1) s=(aM.1,.mk 2 [] X [] aM.2 [] D)):=by
     refine QA ?_
     unfold Qr.selOf
     rw[if_pos HB.out.symm,if_pos (by rw[isW_nil,← br.out,← HO.out];rfl),← ba.out]
     unfold Qr.spreadOf
     dsimp only
     rw[← aV.out,← bT.out,← bd.out]
    clear y0 an y2 am
    have y0:=blk_cell E.out.b6 0 (.int .i64 2) rfl
    have an:=blk_free E.out.b6 0
    have y1:=blk_cell E.out.b6 1 (.string ⟨#[]⟩) rfl
    have a6:=blk_free E.out.b6 1
    have y2:=blk_cell E.out.b6 2 (.string ⟨X.toArray⟩) rfl
    have am:=blk_free E.out.b6 2
    have y3:=blk_cell E.out.b6 3 (.slice none 0 0) rfl
    have a7:=blk_free E.out.b6 3
    have y5:=blk_cell E.out.b6 5 (.slice none 0 0) rfl
    have a9:=blk_free E.out.b6 5
    have y6:=blk_cell E.out.b6 6 (.int .i64 D) rfl
    have a8:=blk_free E.out.b6 6
    have z0:=blk_cell (E.out.cb _ (QB.2 rfl)) 0 (.int .i64 0) rfl
    have bo:=blk_free (E.out.cb _ (QB.2 rfl)) 0
    have z1:=blk_cell (E.out.cb _ (QB.2 rfl)) 1 (.string ⟨#[]⟩) rfl
    have bw:=blk_free (E.out.cb _ (QB.2 rfl)) 1
    have z2:=blk_cell (E.out.cb _ (QB.2 rfl)) 2 (.string ⟨#[]⟩) rfl
    have bn:=blk_free (E.out.cb _ (QB.2 rfl)) 2
    have z3:=blk_cell (E.out.cb _ (QB.2 rfl)) 3 (.slice none 0 0) rfl
    have bl:=blk_free (E.out.cb _ (QB.2 rfl)) 3
    have z4:=blk_cell (E.out.cb _ (QB.2 rfl)) 4 (.slice none 0 0) rfl
    have bv:=blk_free (E.out.cb _ (QB.2 rfl)) 4
    have z5:=blk_cell (E.out.cb _ (QB.2 rfl)) 5 (.slice none 0 0) rfl
    have bm:=blk_free (E.out.cb _ (QB.2 rfl)) 5
    have z6:=blk_cell (E.out.cb _ (QB.2 rfl)) 6 (.int .i64 0) rfl
    have bB:=blk_free (E.out.cb _ (QB.2 rfl)) 6
    have G:=cc.out.fin (r:=w.heap.size) (QB.2 rfl)
    simp only[putCells,QY,Nat.zero_add] at G
    have av:=QA G
    clear G
    go_wp2_with fail
    refine bodyPost_ret (v:=.agg #[.int .i64 2,.string ⟨#[]⟩,.string ⟨X.toArray⟩,.slice none 0 0,.slice ra63 bE rc63,.slice none 0 0,.int .i64 D]) (by simp[results,Tryz.results214,go_sem,z0,z1,z2,z3,z4,z5,z6,n1,n2]) rfl ?_
    rw[HR.out]
    unfold Qr.Sel.d
    rw[Qr.Sel.dl_map]
    exact ⟨_,rfl,av.out⟩
   ·have y0:=blk_cell aO.out.b6 0 (.int .i64 0) rfl
    have an:=blk_free aO.out.b6 0
    have aP:Hid (FJ w b g I lo [(w.heap.size,Obj.cells #[.int .i64 0,.string ⟨#[]⟩,.string ⟨#[]⟩,.slice none 0 0,.slice none 0 0,.slice none 0 0,.int .i64 0] 174 (0,0))] 174 [.int 3,.str [],.str [],.seq 7 [],.seq 3 [],.seq 7 [],.int D] [.int .i64 3,.string ⟨#[]⟩,.string ⟨#[]⟩,.slice none 0 0,.slice none 0 0,.slice none 0 0,.int .i64 D] (Rd.next s) ((w11x).setCell ⟨I,0,none⟩ (.int .i64 3))):=QA (aO.out.put 0 (.int 3) rfl)
    have aE:Hid (Below ((w11x).setCell ⟨I,0,none⟩ (.int .i64 3)).heap.size ((w11x).setCell ⟨I,0,none⟩ (.int .i64 3)) (((w11x).setCell ⟨I,0,none⟩ (.int .i64 3)).alloc (.cells #[.string ⟨#[111,110]⟩] 9))):=QA ((Below.refl _ _).alloc (QM _) _)
    obtain ⟨bp,ae⟩:∃ x,x=((w11x).setCell ⟨I,0,none⟩ (.int .i64 3)).heap.size:=⟨_,rfl⟩
    have aX:Hid (Txts (((w11x).setCell ⟨I,0,none⟩ (.int .i64 3)).alloc (.cells #[.string ⟨#[111,110]⟩] 9)) (.slice (some ⟨bp,0,none⟩) 1 1) [Qr.sOn]):=by
     rw[ae];exact QA (txts_one _ Qr.sOn ⟨#[111,110]⟩ 9 rfl)
    try simp only[size_set] at ae
    subst ae
    go_wp2_with fail
    refine (rword_any b g (Rd.next s) _ [Qr.sOn] _ ((aP.out.below aE.out).rd) aX.out (by simp)).mono ?_
    rintro r w22x ⟨rfl,hb22⟩
    have aa:Hid (FJ w b g I lo [(w.heap.size,Obj.cells #[.int .i64 0,.string ⟨#[]⟩,.string ⟨#[]⟩,.slice none 0 0,.slice none 0 0,.slice none 0 0,.int .i64 0] 174 (0,0))] 174 [.int 3,.str [],.str [],.seq 7 [],.seq 3 [],.seq 7 [],.int D] [.int .i64 3,.string ⟨#[]⟩,.string ⟨#[]⟩,.slice none 0 0,.slice none 0 0,.slice none 0 0,.int .i64 D] (Rd.next s) (w22x)):=QA ((aP.out.below aE.out).below hb22)
    obtain ⟨O2,aZ⟩:∃ B,B=Rd.isW (Rd.next s) [Qr.sOn]:=⟨_,rfl⟩
    have bg:=QA aZ
    rw[← aZ]
    clear aZ hb22
    clear y0 an
    cases O2
    ·have ap:Hid (Qr.onOf (Rd.next s)=(Rd.next s,[])):=by unfold Qr.onOf;rw[if_neg (by rw[← bg.out];simp)];exact QA rfl
     go_wp2_with fail
     refine (dirs_any b g n hnb (Rd.next s) _ aa.out.rd (QR ar.out.len HN.out) (by rw[ay.out];omega)).mono ?_
     rintro r w41x ⟨ra41,rc41,rfl,hrd,h41,f41⟩
     obtain ⟨K,ao⟩:∃ x,x=Qr.dirs (n+1) (Rd.next s):=⟨_,rfl⟩
     rw[← ao] at hrd h41 ⊢
     have ai:=QA ao
     have F:=aa.out.data hrd
     obtain ⟨S,J⟩:∃ x,x=K.2.length:=⟨_,rfl⟩
     rw[QX,← J] at F ⊢
     have P:Hid (Rd.Ok s K.1):=by rw[ai.out];exact QA (ar.out.trans (Qr.ok_dirs (n+1) _))
     have M:Hid (K.1.deep=s.deep):=by rw[ai.out,Qr.dirs_deep];exact ay
     have T:Hid (FJ w b g I lo [(w.heap.size,Obj.cells #[.int .i64 0,.string ⟨#[]⟩,.string ⟨#[]⟩,.slice none 0 0,.slice none 0 0,.slice none 0 0,.int .i64 0] 174 (0,0))] 174 [.int 3,.str [],.str [],.seq 7 [],.seq 3 [],.seq 7 [],.int D] [.int .i64 3,.string ⟨#[]⟩,.string ⟨#[]⟩,.slice none 0 0,.slice none 0 0,.slice none 0 0,.int .i64 D] K.1 (w41x)):=QA (aa.out.step h41 f41)
     have aS:=QA F
     clear hrd h41 f41 ao F J
     have y4:=blk_cell T.out.b6 4 (.slice none 0 0) rfl
     have aK:=blk_free T.out.b6 4
     have aG:Hid (FJ w b g I lo [(w.heap.size,Obj.cells #[.int .i64 0,.string ⟨#[]⟩,.string ⟨#[]⟩,.slice none 0 0,.slice none 0 0,.slice none 0 0,.int .i64 0] 174 (0,0))] 174 [.int 3,.str [],.str [],.seq 7 [],.seq 3 (K.2.map Qr.Dir.d),.seq 7 [],.int D] [.int .i64 3,.string ⟨#[]⟩,.string ⟨#[]⟩,.slice none 0 0,.slice ra41 S rc41,.slice none 0 0,.int .i64 D] K.1 ((w41x).setCell ⟨I,4,none⟩ (.slice ra41 S rc41))):=QA (T.out.put 4 (aS.out) rfl)
     go_wp2_with fail
     refine (HS.out K.1 _ aG.out.rd (QR P.out.len HN.out) M.out a4.out ?_).mono ?_
     ·right;exact Nat.lt_of_le_of_lt (show K.1.rest.length≤(Rd.next s).rest.length by have h8:=Qr.ok_onOf (Rd.next s);rw[ap.out] at h8;have h9:=h8.trans (Qr.ok_dirs (n+1) _);rw[ai.out];exact h9.len) bI.out.1
     rintro r w43x ⟨ra43,rc43,rfl,hrd,h43,f43⟩
     obtain ⟨Z,aA⟩:∃ x,x=Qr.selsOf f K.1:=⟨_,rfl⟩
     rw[← aA] at hrd h43 ⊢
     have aH:=QA aA
     have F:=aG.out.data hrd
     obtain ⟨aq,J⟩:∃ x,x=Z.2.length:=⟨_,rfl⟩
     rw[QX,← J] at F ⊢
     have bM:Hid (Rd.Ok s Z.1):=by rw[aH.out];exact QA (P.out.trans (Qr.ok_selsOf f bK.out _))
     have bP:Hid (Z.1.deep=s.deep):=by rw[aH.out,Qr.selsOf_deep f bL.out];exact M
     have o:Hid (FJ w b g I lo [(w.heap.size,Obj.cells #[.int .i64 0,.string ⟨#[]⟩,.string ⟨#[]⟩,.slice none 0 0,.slice none 0 0,.slice none 0 0,.int .i64 0] 174 (0,0))] 174 [.int 3,.str [],.str [],.seq 7 [],.seq 3 (K.2.map Qr.Dir.d),.seq 7 [],.int D] [.int .i64 3,.string ⟨#[]⟩,.string ⟨#[]⟩,.slice none 0 0,.slice ra41 S rc41,.slice none 0 0,.int .i64 D] Z.1 (w43x)):=QA (aG.out.step h43 f43)
     have aR:=QA F
     clear hrd h43 f43 aA F J
     have y5:=blk_cell o.out.b6 5 (.slice none 0 0) rfl
     have a9:=blk_free o.out.b6 5
     have bj:Hid (FJ w b g I lo [(w.heap.size,Obj.cells #[.int .i64 0,.string ⟨#[]⟩,.string ⟨#[]⟩,.slice none 0 0,.slice none 0 0,.slice none 0 0,.int .i64 0] 174 (0,0))] 174 [.int 3,.str [],.str [],.seq 7 [],.seq 3 (K.2.map Qr.Dir.d),.seq 7 (Z.2.map Qr.Sel.d),.int D] [.int .i64 3,.string ⟨#[]⟩,.string ⟨#[]⟩,.slice none 0 0,.slice ra41 S rc41,.slice ra43 aq rc43,.int .i64 D] Z.1 ((w43x).setCell ⟨I,5,none⟩ (.slice ra43 aq rc43))):=QA (o.out.put 5 (aR.out) rfl)
     have HR:Hid (Qr.selOf f (n+1) s=(Z.1,.mk 3 [] [] [] K.2 Z.2 D)):=by
      refine QA ?_
      unfold Qr.selOf
      rw[if_pos HB.out.symm,if_neg (by rw[isW_nil,← br.out,← HO.out];simp),← ba.out]
      unfold Qr.inlineOf
      dsimp only
      rw[ap.out,← ai.out,← aH.out]
     have y0:=blk_cell o.out.b6 0 (.int .i64 3) rfl
     have an:=blk_free o.out.b6 0
     have y1:=blk_cell o.out.b6 1 (.string ⟨#[]⟩) rfl
     have a6:=blk_free o.out.b6 1
     have y2:=blk_cell o.out.b6 2 (.string ⟨#[]⟩) rfl
     have am:=blk_free o.out.b6 2
     have y3:=blk_cell o.out.b6 3 (.slice none 0 0) rfl
     have a7:=blk_free o.out.b6 3
     have y4:=blk_cell o.out.b6 4 (.slice ra41 S rc41) rfl
     have aK:=blk_free o.out.b6 4
     have y6:=blk_cell o.out.b6 6 (.int .i64 D) rfl
     have a8:=blk_free o.out.b6 6
     have z0:=blk_cell (o.out.cb _ (QB.2 rfl)) 0 (.int .i64 0) rfl
     have bo:=blk_free (o.out.cb _ (QB.2 rfl)) 0
     have z1:=blk_cell (o.out.cb _ (QB.2 rfl)) 1 (.string ⟨#[]⟩) rfl
     have bw:=blk_free (o.out.cb _ (QB.2 rfl)) 1
     have z2:=blk_cell (o.out.cb _ (QB.2 rfl)) 2 (.string ⟨#[]⟩) rfl
     have bn:=blk_free (o.out.cb _ (QB.2 rfl)) 2
     have z3:=blk_cell (o.out.cb _ (QB.2 rfl)) 3 (.slice none 0 0) rfl
     have bl:=blk_free (o.out.cb _ (QB.2 rfl)) 3
     have z4:=blk_cell (o.out.cb _ (QB.2 rfl)) 4 (.slice none 0 0) rfl
     have bv:=blk_free (o.out.cb _ (QB.2 rfl)) 4
     have z5:=blk_cell (o.out.cb _ (QB.2 rfl)) 5 (.slice none 0 0) rfl
     have bm:=blk_free (o.out.cb _ (QB.2 rfl)) 5
     have z6:=blk_cell (o.out.cb _ (QB.2 rfl)) 6 (.int .i64 0) rfl
     have bB:=blk_free (o.out.cb _ (QB.2 rfl)) 6
     have G:=bj.out.fin (r:=w.heap.size) (QB.2 rfl)
     simp only[putCells,QY,Nat.zero_add] at G
     have av:=QA G
     clear G
     go_wp2_with fail
     refine bodyPost_ret (v:=.agg #[.int .i64 3,.string ⟨#[]⟩,.string ⟨#[]⟩,.slice none 0 0,.slice ra41 S rc41,.slice ra43 aq rc43,.int .i64 D]) (by simp[results,Tryz.results214,go_sem,z0,z1,z2,z3,z4,z5,z6,n1,n2]) rfl ?_
     rw[HR.out]
     unfold Qr.Sel.d
     rw[Qr.Sel.dl_map]
     exact ⟨_,rfl,av.out⟩
    ·go_wp2_with fail
     refine (rnext_any b g (Rd.next s) _ aa.out.rd).mono ?_
     rintro r w41x ⟨rfl,h41,f41⟩
     obtain ⟨V,aF⟩:∃ x,x=Rd.next (Rd.next s):=⟨_,rfl⟩
     rw[← aF] at h41
     have ac:=QA aF
     have P:Hid (Rd.Ok s V):=by rw[ac.out];exact QA (ar.out.trans (Rd.ok_next _))
     have M:Hid (V.deep=s.deep):=by rw[ac.out,Rd.next_deep];exact ay
     have T:Hid (FJ w b g I lo [(w.heap.size,Obj.cells #[.int .i64 0,.string ⟨#[]⟩,.string ⟨#[]⟩,.slice none 0 0,.slice none 0 0,.slice none 0 0,.int .i64 0] 174 (0,0))] 174 [.int 3,.str [],.str [],.seq 7 [],.seq 3 [],.seq 7 [],.int D] [.int .i64 3,.string ⟨#[]⟩,.string ⟨#[]⟩,.slice none 0 0,.slice none 0 0,.slice none 0 0,.int .i64 D] V (w41x)):=QA (aa.out.step h41 f41)
     clear h41 f41 aF
     go_wp2_with fail
     refine (rname_any b g V _ T.out.rd).mono ?_
     rintro r w42x ⟨rfl,h42,f42⟩
     obtain ⟨Q,au⟩:∃ x,x=(Rd.name V).1:=⟨_,rfl⟩
     rw[← au] at h42
     have ab:=QA au
     have af:Hid (Rd.Ok s Q):=by rw[ab.out];exact QA (P.out.trans (Rd.ok_name _))
     have aj:Hid (Q.deep=s.deep):=by rw[ab.out,Rd.name_deep];exact M
     obtain ⟨C,ad⟩:∃ x,x=(Rd.name V).2:=⟨_,rfl⟩
     rw[← ad]
     have aU:=QA ad
     clear ad
     have aw:Hid (FJ w b g I lo [(w.heap.size,Obj.cells #[.int .i64 0,.string ⟨#[]⟩,.string ⟨#[]⟩,.slice none 0 0,.slice none 0 0,.slice none 0 0,.int .i64 0] 174 (0,0))] 174 [.int 3,.str [],.str [],.seq 7 [],.seq 3 [],.seq 7 [],.int D] [.int .i64 3,.string ⟨#[]⟩,.string ⟨#[]⟩,.slice none 0 0,.slice none 0 0,.slice none 0 0,.int .i64 D] Q (w42x)):=QA (T.out.step h42 f42)
     clear h42 f42 au
     have y2:=blk_cell aw.out.b6 2 (.string ⟨#[]⟩) rfl
     have am:=blk_free aw.out.b6 2
     have ax:Hid (FJ w b g I lo [(w.heap.size,Obj.cells #[.int .i64 0,.string ⟨#[]⟩,.string ⟨#[]⟩,.slice none 0 0,.slice none 0 0,.slice none 0 0,.int .i64 0] 174 (0,0))] 174 [.int 3,.str [],.str C,.seq 7 [],.seq 3 [],.seq 7 [],.int D] [.int .i64 3,.string ⟨#[]⟩,.string ⟨C.toArray⟩,.slice none 0 0,.slice none 0 0,.slice none 0 0,.int .i64 D] Q ((w42x).setCell ⟨I,2,none⟩ (.string ⟨C.toArray⟩))):=QA (aw.out.put 2 (.str C) rfl)
     have ap:Hid (Qr.onOf (Rd.next s)=(Q,C)):=by unfold Qr.onOf;rw[if_pos bg.out.symm,← ac.out];exact QA (Prod.ext ab.out.symm aU.out.symm)
     go_wp2_with fail
     refine (dirs_any b g n hnb Q _ ax.out.rd (QR af.out.len HN.out) (by rw[aj.out];omega)).mono ?_
     rintro r w44x ⟨ra44,rc44,rfl,hrd,h44,f44⟩
     obtain ⟨L,aC⟩:∃ x,x=Qr.dirs (n+1) Q:=⟨_,rfl⟩
     rw[← aC] at hrd h44 ⊢
     have ah:=QA aC
     have F:=ax.out.data hrd
     obtain ⟨U,J⟩:∃ x,x=L.2.length:=⟨_,rfl⟩
     rw[QX,← J] at F ⊢
     have ak:Hid (Rd.Ok s L.1):=by rw[ah.out];exact QA (af.out.trans (Qr.ok_dirs (n+1) _))
     have ag:Hid (L.1.deep=s.deep):=by rw[ah.out,Qr.dirs_deep];exact aj
     have aJ:Hid (FJ w b g I lo [(w.heap.size,Obj.cells #[.int .i64 0,.string ⟨#[]⟩,.string ⟨#[]⟩,.slice none 0 0,.slice none 0 0,.slice none 0 0,.int .i64 0] 174 (0,0))] 174 [.int 3,.str [],.str C,.seq 7 [],.seq 3 [],.seq 7 [],.int D] [.int .i64 3,.string ⟨#[]⟩,.string ⟨C.toArray⟩,.slice none 0 0,.slice none 0 0,.slice none 0 0,.int .i64 D] L.1 (w44x)):=QA (ax.out.step h44 f44)
     have aY:=QA F
     clear hrd h44 f44 aC F J
     have y4:=blk_cell aJ.out.b6 4 (.slice none 0 0) rfl
     have aK:=blk_free aJ.out.b6 4
     have aD:Hid (FJ w b g I lo [(w.heap.size,Obj.cells #[.int .i64 0,.string ⟨#[]⟩,.string ⟨#[]⟩,.slice none 0 0,.slice none 0 0,.slice none 0 0,.int .i64 0] 174 (0,0))] 174 [.int 3,.str [],.str C,.seq 7 [],.seq 3 (L.2.map Qr.Dir.d),.seq 7 [],.int D] [.int .i64 3,.string ⟨#[]⟩,.string ⟨C.toArray⟩,.slice none 0 0,.slice ra44 U rc44,.slice none 0 0,.int .i64 D] L.1 ((w44x).setCell ⟨I,4,none⟩ (.slice ra44 U rc44))):=QA (aJ.out.put 4 (aY.out) rfl)
     clear y2 am 
     go_wp2_with fail
     refine (HS.out L.1 _ aD.out.rd (QR ak.out.len HN.out) ag.out a4.out ?_).mono ?_
     ·right;exact Nat.lt_of_le_of_lt (show L.1.rest.length≤(Rd.next s).rest.length by have h8:=Qr.ok_onOf (Rd.next s);rw[ap.out] at h8;have h9:=h8.trans (Qr.ok_dirs (n+1) _);rw[ah.out];exact h9.len) bI.out.1
     rintro r w46x ⟨ra46,rc46,rfl,hrd,h46,f46⟩
     obtain ⟨Y,az⟩:∃ x,x=Qr.selsOf f L.1:=⟨_,rfl⟩
     rw[← az] at hrd h46 ⊢
     have aI:=QA az
     have F:=aD.out.data hrd
     obtain ⟨aB,J⟩:∃ x,x=Y.2.length:=⟨_,rfl⟩
     rw[QX,← J] at F ⊢
     have bN:Hid (Rd.Ok s Y.1):=by rw[aI.out];exact QA (ak.out.trans (Qr.ok_selsOf f bK.out _))
     have bJ:Hid (Y.1.deep=s.deep):=by rw[aI.out,Qr.selsOf_deep f bL.out];exact ag
     have A:Hid (FJ w b g I lo [(w.heap.size,Obj.cells #[.int .i64 0,.string ⟨#[]⟩,.string ⟨#[]⟩,.slice none 0 0,.slice none 0 0,.slice none 0 0,.int .i64 0] 174 (0,0))] 174 [.int 3,.str [],.str C,.seq 7 [],.seq 3 (L.2.map Qr.Dir.d),.seq 7 [],.int D] [.int .i64 3,.string ⟨#[]⟩,.string ⟨C.toArray⟩,.slice none 0 0,.slice ra44 U rc44,.slice none 0 0,.int .i64 D] Y.1 (w46x)):=QA (aD.out.step h46 f46)
     have aQ:=QA F
     clear hrd h46 f46 az F J
     have y5:=blk_cell A.out.b6 5 (.slice none 0 0) rfl
     have a9:=blk_free A.out.b6 5
     have bq:Hid (FJ w b g I lo [(w.heap.size,Obj.cells #[.int .i64 0,.string ⟨#[]⟩,.string ⟨#[]⟩,.slice none 0 0,.slice none 0 0,.slice none 0 0,.int .i64 0] 174 (0,0))] 174 [.int 3,.str [],.str C,.seq 7 [],.seq 3 (L.2.map Qr.Dir.d),.seq 7 (Y.2.map Qr.Sel.d),.int D] [.int .i64 3,.string ⟨#[]⟩,.string ⟨C.toArray⟩,.slice none 0 0,.slice ra44 U rc44,.slice ra46 aB rc46,.int .i64 D] Y.1 ((w46x).setCell ⟨I,5,none⟩ (.slice ra46 aB rc46))):=QA (A.out.put 5 (aQ.out) rfl)
     have HR:Hid (Qr.selOf f (n+1) s=(Y.1,.mk 3 [] C [] L.2 Y.2 D)):=by
      refine QA ?_
      unfold Qr.selOf
      rw[if_pos HB.out.symm,if_neg (by rw[isW_nil,← br.out,← HO.out];simp),← ba.out]
      unfold Qr.inlineOf
      dsimp only
      rw[ap.out,← ah.out,← aI.out]
     have y0:=blk_cell A.out.b6 0 (.int .i64 3) rfl
     have an:=blk_free A.out.b6 0
     have y1:=blk_cell A.out.b6 1 (.string ⟨#[]⟩) rfl
     have a6:=blk_free A.out.b6 1
     have y2:=blk_cell A.out.b6 2 (.string ⟨C.toArray⟩) rfl
     have am:=blk_free A.out.b6 2
     have y3:=blk_cell A.out.b6 3 (.slice none 0 0) rfl
     have a7:=blk_free A.out.b6 3
     have y4:=blk_cell A.out.b6 4 (.slice ra44 U rc44) rfl
     have aK:=blk_free A.out.b6 4
     have y6:=blk_cell A.out.b6 6 (.int .i64 D) rfl
     have a8:=blk_free A.out.b6 6
     have z0:=blk_cell (A.out.cb _ (QB.2 rfl)) 0 (.int .i64 0) rfl
     have bo:=blk_free (A.out.cb _ (QB.2 rfl)) 0
     have z1:=blk_cell (A.out.cb _ (QB.2 rfl)) 1 (.string ⟨#[]⟩) rfl
     have bw:=blk_free (A.out.cb _ (QB.2 rfl)) 1
     have z2:=blk_cell (A.out.cb _ (QB.2 rfl)) 2 (.string ⟨#[]⟩) rfl
     have bn:=blk_free (A.out.cb _ (QB.2 rfl)) 2
     have z3:=blk_cell (A.out.cb _ (QB.2 rfl)) 3 (.slice none 0 0) rfl
     have bl:=blk_free (A.out.cb _ (QB.2 rfl)) 3
     have z4:=blk_cell (A.out.cb _ (QB.2 rfl)) 4 (.slice none 0 0) rfl
     have bv:=blk_free (A.out.cb _ (QB.2 rfl)) 4
     have z5:=blk_cell (A.out.cb _ (QB.2 rfl)) 5 (.slice none 0 0) rfl
     have bm:=blk_free (A.out.cb _ (QB.2 rfl)) 5
     have z6:=blk_cell (A.out.cb _ (QB.2 rfl)) 6 (.int .i64 0) rfl
     have bB:=blk_free (A.out.cb _ (QB.2 rfl)) 6
     have G:=bq.out.fin (r:=w.heap.size) (QB.2 rfl)
     simp only[putCells,QY,Nat.zero_add] at G
     have av:=QA G
     clear G
     go_wp2_with fail
     refine bodyPost_ret (v:=.agg #[.int .i64 3,.string ⟨#[]⟩,.string ⟨C.toArray⟩,.slice none 0 0,.slice ra44 U rc44,.slice ra46 aB rc46,.int .i64 D]) (by simp[results,Tryz.results214,go_sem,z0,z1,z2,z3,z4,z5,z6,n1,n2]) rfl ?_
     rw[HR.out]
     unfold Qr.Sel.d
     rw[Qr.Sel.dl_map]
     exact ⟨_,rfl,av.out⟩
theorem sel_any (b g n:Nat) (hnb:n≤1600):∀ kk:Nat,SelC b g n kk
 | 0=>fun s w h hn hk hd=>sel_step b g n hnb (Qr.sel (n+1) 0) s (Qr.ok_sel (n+1) 0) (Qr.sel_deep (n+1) 0) (fun s1 w1 _ _ _ he _=>by
   rcases hk with hx|hx
   ·exact absurd he hx
   ·have:=h.rest_len;omega) w h hn (by omega)
 | kk+1=>fun s w h hn hk hd=>sel_step b g n hnb (Qr.sel (n+1) (kk+1)) s (Qr.ok_sel (n+1) (kk+1)) (Qr.sel_deep (n+1) (kk+1)) (fun s1 w1 h1 hn1 hd1 he h2=>sels_step b g n kk hnb (sel_any b g n hnb kk) s1 w1 h1 hn1 (by
   rcases hk with hx|hx
   ·exact absurd he hx
   ·rcases h2 with hy|hy
    ·exact .inl hy
    ·right;omega) (by omega)) w h hn (by omega)
theorem sels_any (b g n:Nat) (hnb:n≤1600) (s:Rd.St) (w:World) (h:RdAt w b g s) (hn:s.rest.length≤n) (hd:0≤s.deep∧s.deep≤700000) :
  Calls Tryz.prog 175 #[.pointer (some ⟨b,0,none⟩)] w (GotL b g w 7 ((Qr.sels (n+1) (n+1) s).2.map Qr.Sel.d) (Qr.sels (n+1) (n+1) s).1) :=
 sels_step b g n n hnb (sel_any b g n hnb n) s w h hn (.inr (by omega)) (by omega)
end Go.Proofs.YtefjgpkpplkkgaaGreatDoor
