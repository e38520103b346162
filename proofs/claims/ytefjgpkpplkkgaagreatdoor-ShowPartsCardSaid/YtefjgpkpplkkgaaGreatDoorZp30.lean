/-
  'Doc' of package show, walked. The document of 'awake' of the shows' law, read plain. 'ShowParts': its inner function, walked. 'ShowParts', walked. 'ShowParts', walked whole.
-/
import Derived.Test.YtefjgpkpplkkgaaGreatDoorZp29
import Derived.Test.YtefjgpkpplkkgaaGreatDoorZp21
import Derived.Test.YtefjgpkpplkkgaaGreatDoorZp26
import Derived.Test.YtefjgpkpplkkgaaGreatDoorZp15
open Array renaming getInternal_eq_getElem → QD
open Go.Lib renaming hid → QA
open List renaming setIfInBounds_toArray → QC, drop_succ_cons → QE, take_succ_cons → QF, set_cons_succ → QG, set_cons_zero → QH, getElem_cons_zero → QI, getElem_cons_succ → QJ, getElem_toArray → QK, drop_zero → QL, take_zero → QN, length_cons → QO, length_nil → QS, length_append → QT, mem_of_getElem? → ZC, take_length → ZG, getElem?_eq_getElem → ZJ, all_cons → ZY
open Nat renaming le_refl → QM, le_trans → QR, add_zero → QZ, zero_le → ZV
namespace Go.Proofs.YtefjgpkpplkkgaaGreatDoor
set_option linter.unusedSimpArgs false
set_option linter.unusedVariables false
open Go Go.RowKit
theorem word_ne (k:Int):Dq.word k≠[]:=by
 unfold Dq.word
 repeat' split
 all_goals simp
theorem docT_ne {x:Dq.Doc} (h:x.good=true):x.txt≠[]:=by
 unfold Dq.Doc.good at h
 rw[Bool.and_eq_true,decide_eq_true_iff] at h
 unfold Dq.Doc.txt
 intro e
 rw[List.append_eq_nil_iff] at e
 cases ho:x.ops with
 | cons y r =>
  rw[ho,List.flatMap_cons,List.append_eq_nil_iff] at e
  have:=e.1.1
  unfold Dq.opT at this
  exact word_ne _ (List.append_eq_nil_iff.1 this).1
 | nil =>
  cases hf:x.frags with
  | cons y r =>
   rw[hf,List.flatMap_cons,List.append_eq_nil_iff] at e
   have:=e.2.1
   unfold Dq.frT at this
   simp at this
  | nil=>rw[ho,hf] at h;simp at h
def Dq.Doc.fine (x:Dq.Doc):Prop:=(x.ops.length≤1000000000∧x.frags.length≤1000000000)∧(Vl.sumC Dq.opC 0 x.ops≤300000000000∧Vl.sumC Dq.frC 0 x.frags≤300000000000) ∧
 (∀ y∈x.ops,Vl.sumC Dq.varC 2 y.vars≤1000000000∧Dq.dirsC y.dirs≤1000000000∧Dq.Sel.costs y.sels≤1000000000)∧(∀ y∈x.frags,Dq.dirsC y.dirs≤1000000000∧Dq.Sel.costs y.sels≤1000000000)
theorem wh_new (w:World) (c:Array Value) (T:TypeId):WW w (w.heap.size+1) ⟨[],false⟩ ((w.alloc (.cells c T)).alloc (.cells #[.pointer none,.slice none 0 0,.bool false] 104)):=by
 refine ⟨⟨by omega,.pointer none,.slice none 0 0,.inl rfl,box_at2_1 w _ _ _ _,World.ownsRowF_nil _ _ _ _,by simp[Value.ownBlock]⟩,((Below.refl _ _).alloc (QM _) _).alloc (by simp) _⟩
set_option maxHeartbeats 4000000 in
set_option maxRecDepth 100000 in
theorem showDoc_any (x:Dq.Doc) (hfine:x.fine) (a1 a2:Option Addr) (c1 c2:Nat) (w:World) (hE:Env w) (h3:3≤w.heap.size) (hR:Reads w (fun _=>True) x.d [.slice a1 x.ops.length c1,.slice a2 x.frags.length c2]) :
  Calls Tryz.prog 20 #[.agg #[.slice a1 x.ops.length c1,.slice a2 x.frags.length c2]] w (fun e w'=>Below w.heap.size w w'∧((x.good=true∧x.txt.length≤700000000000∧e=.returned (.tuple #[.string ⟨x.txt.toArray⟩,.int .i64 0]))∨(x.good=false∧e=.returned (.tuple #[.string ⟨#[]⟩,.int .i64 2])))):=by
 obtain ⟨⟨c4,dl⟩,⟨dh,c0⟩,bm,bj⟩:=hfine
 obtain ⟨y1,y2,u1,u2,ex,be,bt⟩:=Dq.Doc.opened hR
 obtain ⟨rfl,rfl,rfl,rfl⟩:a1=y1∧c1=u1∧a2=y2∧c2=u2:=by simpa [and_assoc] using ex
 clear ex hR
 obtain ⟨b,hb⟩:∃ q,q=w.heap.size+1:=⟨_,rfl⟩
 obtain ⟨wb,ab⟩:∃ q,q=(w.alloc (.cells #[.slice a1 x.ops.length c1,.slice a2 x.frags.length c2] 43)).alloc (.cells #[.pointer none,.slice none 0 0,.bool false] 104):=⟨_,rfl⟩
 have H0:Hid (WW w b ⟨[],false⟩ wb):=by rw[ab,hb];exact QA (wh_new w _ _)
 have aV:Hid (wb.heap[w.heap.size]?=some (.cells #[.slice a1 x.ops.length c1,.slice a2 x.frags.length c2] 43 (0,0))):=by rw[ab];exact QA (box_at2_0 w _ _ _ _)
 have bq:w.heap.size≠b:=by omega
 have E0:=QA (Vl.Eff.refl ⟨[],false⟩)
 have O0:=QA (Lib.OthersKept.refl 5 (some b) wb)
 have Z0:=QA (QM wb.heap.size)
 have bL:=QA be
 have cG:=QA bt
 have HE:=QA hE
 have cx:=QA bm
 have b6:=QA bj
 have bK:=QA ab
 have HB:=QA hb
 obtain ⟨q,hq⟩:∃ q,decide ((0:Int)<(x.ops.length:Int)+(x.frags.length:Int))=q:=⟨_,rfl⟩
 have HQ:Hid (decide (0<x.ops.length+x.frags.length)=q):=QA (by rw[← hq,decide_eq_decide];omega)
 have bu:=QA (Vl.cds_sum x.ops Dq.opC 0)
 have br:=QA (Vl.cds_sum x.frags Dq.frC 0)
 clear be bt hE bm bj ab hb
 go_enter Tryz.func20,Tryz.ntmps20
 obtain ⟨aU,a5⟩:=blk2 aV.out rfl rfl
 go_wp2_with fail
 rw[← bK.out,← HB.out]
 refine (H0.out.need q).mono ?_
 rintro e w1 ⟨rfl,s1,h,e,o,z⟩
 have H1:=QA h
 have df:s1.out.length≤0:=e.len
 have E1:=QA e
 have O1:=QA o
 have Z1:=QA z
 have b5:=QA (ok8_at o aV.out bq (by decide))
 clear aU a5 h e o z
 obtain ⟨a3,aZ⟩:=blk2 b5.out rfl rfl
 go_wp2_with fail
 clear a3 aZ
 go_loopg [21] (x.ops.length+1) (fun k i wr=>∃ (j:Nat) (P:Vl.Sh),k=x.ops.length+1-j∧j≤x.ops.length∧i=.int .i64 j∧WW w b P wr∧Vl.Eff ⟨[],false⟩ (q&&Vl.gds (Vl.ats x.ops Dq.opG true) j) (Vl.tds (Vl.ats x.ops Dq.opT []) [] j) (Vl.cds (Vl.ats x.ops Dq.opC 0) 0 j) P∧OK8 b wb wr)
 case atStart=>exact ⟨0,s1,rfl,ZV _,rfl,H1.out,E1.out.to (by rw[Vl.gds,Bool.and_true]) (fun _=>by rw[Vl.tds]) (ZV _),O1.out⟩
 case round =>
  obtain ⟨j,P,L,hj,rfl,K,Z,o1⟩:=hrel
  have HK:=QA L
  have cJ:P.out.length≤0+Vl.cds (Vl.ats x.ops Dq.opC 0) 0 j:=Z.len
  have H2:=QA K
  have E2:=QA Z
  have O2:=QA o1
  have ct:=QA (ok8_at o1 aV.out bq (by decide))
  clear L K Z o1
  by_cases hjn:j<x.ops.length
  ·have e5:decide (j<x.ops.length)=true:=decide_eq_true hjn
   obtain ⟨y,M⟩:∃ y,x.ops[j]?=some y:=⟨x.ops[j],ZJ hjn⟩
   have a6:=Vl.cds_le (Vl.ats x.ops Dq.opC 0) 0 hjn
   have bQ:Vl.cds (Vl.ats x.ops Dq.opC 0) 0 x.ops.length=Vl.sumC Dq.opC 0 x.ops:=by rw[bu.out _ (QM _),ZG]
   rw[Vl.ats_some M] at a6
   have cy:=cx.out y (ZC M)
   obtain ⟨g,C,cs,ha,-,B,O,A,hd⟩:=bL.out.el j y.d (by rw[List.getElem?_map,M];rfl)
   obtain ⟨v1,v2,v4,m1,m2,m4,rfl,-⟩:=Dq.Op.opened hd
   subst ha
   have k0:wr.cell? ⟨g,C+j*6,none⟩=_:=(H2.out.bel.cell (p:=⟨g,C+j*6,none⟩) B).trans (A 0 _ rfl)
   have k1:wr.cell? ⟨g,C+j*6+1,none⟩=_:=(H2.out.bel.cell (p:=⟨g,C+j*6+1,none⟩) B).trans (A 1 _ rfl)
   have k2:wr.cell? ⟨g,C+j*6+2,none⟩=_:=(H2.out.bel.cell (p:=⟨g,C+j*6+2,none⟩) B).trans (A 2 _ rfl)
   have k3:wr.cell? ⟨g,C+j*6+3,none⟩=_:=(H2.out.bel.cell (p:=⟨g,C+j*6+3,none⟩) B).trans (A 3 _ rfl)
   have k4:wr.cell? ⟨g,C+j*6+4,none⟩=_:=(H2.out.bel.cell (p:=⟨g,C+j*6+4,none⟩) B).trans (A 4 _ rfl)
   have k5:wr.cell? ⟨g,C+j*6+5,none⟩=_:=(H2.out.bel.cell (p:=⟨g,C+j*6+5,none⟩) B).trans (A 5 _ rfl)
   have HC:=QA (wop_any w b HE.out h3 y v1 v2 v4 m1 m2 m4 hd (by omega) cy P _ (H2.out.alloc (.cells #[.int .i64 y.kind,.string ⟨y.name.toArray⟩,.slice v1 y.vars.length m1,.slice v2 y.dirs.length m2,.slice v4 y.sels.length m4,.int .i64 y.at_] 96)) (by omega))
   have HX:=QA M
   clear M hd A O B
   go_wp2_with fail
   refine HC.out.mono ?_
   rintro e w3 ⟨rfl,s3,h,e,o,z⟩
   have H3:=QA h
   have E3:Hid (Vl.Eff ⟨[],false⟩ (q&&Vl.gds (Vl.ats x.ops Dq.opG true) (j+1)) (Vl.tds (Vl.ats x.ops Dq.opT []) [] (j+1)) (Vl.cds (Vl.ats x.ops Dq.opC 0) 0 (j+1)) s3):=QA ((E2.out.comp e).to (by rw[Vl.gds,Vl.ats_some HX.out,Bool.and_assoc]) (fun _=>by rw[Vl.tds,Vl.ats_some HX.out];simp) (by rw[Vl.cds,Vl.ats_some HX.out];omega))
   have O3:=QA (O2.out.trans (ok8_alloc o))
   clear h e o z HC k0 k1 k2 k3 k4 k5
   go_wp2_with fail
   go_roundg (x.ops.length+1-(j+1))
   case measure=>rw[HK.out];omega
   case rel=>exact ⟨j+1,s3,rfl,hjn,by go_num,H3.out,E3.out,O3.out⟩
  have e5:decide (j<x.ops.length)=false:=decide_eq_false hjn
  obtain rfl:j=x.ops.length:=by omega
  have E4:Hid (Vl.Eff ⟨[],false⟩ (q&&x.ops.all Dq.opG) (x.ops.flatMap Dq.opT) (Vl.sumC Dq.opC 0 x.ops) P):=QA (E2.out.to (by rw[Vl.gds_all x.ops _ _ (QM _),ZG]) (fun _=>by rw[Vl.tds_join x.ops _ _ _ (QM _),ZG,joinT_flat]) (by rw[bu.out _ (QM _),ZG];exact QM _))
  have cO:P.out.length≤Vl.sumC Dq.opC 0 x.ops:=by have:=E4.out.len;simpa using this
  clear E2 cJ
  obtain ⟨b8,b4⟩:=blk2 ct.out rfl rfl
  go_wp2_with fail
  clear b8 b4
  go_loopg [31] (x.frags.length+1) (fun k i wq=>∃ (j:Nat) (s4:Vl.Sh),k=x.frags.length+1-j∧j≤x.frags.length∧i=.int .i64 j∧WW w b s4 wq∧Vl.Eff P (Vl.gds (Vl.ats x.frags Dq.frG true) j) (Vl.tds (Vl.ats x.frags Dq.frT []) [] j) (Vl.cds (Vl.ats x.frags Dq.frC 0) 0 j) s4∧OK8 b wb wq∧True)
  case atStart=>exact ⟨0,P,rfl,ZV _,rfl,H2.out,Vl.Eff.refl P,O2.out,trivial⟩
  case round =>
   obtain ⟨j,aY,L,hj,rfl,K,Z,o1,z1⟩:=hrel
   have cb:=QA L
   have dk:=Z.len
   clear L
   by_cases hjn:j<x.frags.length
   rotate_left
   ·have e6:decide (j<x.frags.length)=false:=decide_eq_false hjn
    obtain rfl:j=x.frags.length:=by omega
    have H5:=QA K
    have E5:Hid (Vl.Eff ⟨[],false⟩ x.good x.txt (Vl.sumC Dq.opC 0 x.ops+Vl.sumC Dq.frC 0 x.frags) aY):=QA ((E4.out.comp Z).to (by rw[Vl.gds_all x.frags _ _ (QM _),ZG];unfold Dq.Doc.good;rw[HQ.out,Bool.and_assoc]) (fun _=>by rw[Vl.tds_join x.frags _ _ _ (QM _),ZG,joinT_flat];rfl) (by rw[br.out _ (QM _),ZG];exact QM _))
    obtain ⟨bg,a0⟩:=E5.out.done
    have cg:=QA bg
    have bR:=QA a0
    have bN:Hid (x.good=true→x.txt.length≤700000000000):=QA (fun hg=>by
     have:=E5.out.len
     rw[a0 hg] at this
     simp only[QS,Nat.zero_add] at this
     omega)
    clear K Z o1 z1 bg a0
    have aN:Hid (Calls Tryz.prog 56 #[.pointer (some ⟨b,0,none⟩)] wr (fun e w'=>Below w.heap.size wr w'∧((x.good=true∧e=.returned (.tuple #[.string ⟨x.txt.toArray⟩,.int .i64 0]))∨(x.good=false∧e=.returned (.tuple #[.string ⟨#[]⟩,.int .i64 2]))))):=by
     have aX:=H5.out.badCell
     rw[cg.out] at aX
     cases hg:x.good
     ·rw[hg] at aX
      refine QA ?_
      clear hg
      go_enter Tryz.func56,Tryz.ntmps56
      go_wp2_with fail
      go_ret2
      exact ⟨Below.refl _ _,.inr ⟨by first|trivial|rfl,rfl⟩⟩
     ·rw[hg] at aX
      have a4:=H5.out.wh
      rw[bR.out hg] at a4
      have bH:=QA a4
      have bP:=QA (docT_ne hg)
      refine QA ?_
      clear hg a4
      go_enter Tryz.func56,Tryz.ntmps56
      go_wp2_with fail
      refine (wrString _ b _ _ _ bH.out bP.out).mono ?_
      rintro e w6 ⟨rfl,hb6⟩
      have an:=QA hb6
      clear hb6
      go_wp2_with fail
      go_ret2
      exact ⟨an.out,.inl ⟨by first|trivial|rfl,rfl⟩⟩
    go_wp2_with fail
    refine aN.out.mono ?_
    rintro e w6 ⟨hb6,hres⟩
    have an:=QA (H5.out.bel.trans hb6)
    clear hb6 aN
    rcases hres with ⟨hg,rfl⟩|⟨hg,rfl⟩
    ·have HG:=QA hg
     clear hg
     go_wp2_with fail
     go_ret2
     exact ⟨an.out,.inl ⟨HG.out,bN.out HG.out,rfl⟩⟩
    ·have HG:=QA hg
     clear hg
     go_wp2_with fail
     go_ret2
     exact ⟨an.out,.inr ⟨HG.out,rfl⟩⟩
   have e6:decide (j<x.frags.length)=true:=decide_eq_true hjn
   obtain ⟨y,M⟩:∃ y,x.frags[j]?=some y:=⟨x.frags[j],ZJ hjn⟩
   have a6:=Vl.cds_le (Vl.ats x.frags Dq.frC 0) 0 hjn
   have bQ:Vl.cds (Vl.ats x.frags Dq.frC 0) 0 x.frags.length=Vl.sumC Dq.frC 0 x.frags:=by rw[br.out _ (QM _),ZG]
   rw[Vl.ats_some M] at a6
   have di:Dq.frC y=20+y.name.length+y.on.length+Dq.dirsC y.dirs+Dq.Sel.costs y.sels:=rfl
   have da:=dirs_len y.dirs
   obtain ⟨cU,cL⟩:=b6.out y (ZC M)
   obtain ⟨g,C,cs,ha,-,B,O,A,hd⟩:=cG.out.el j y.d (by rw[List.getElem?_map,M];rfl)
   obtain ⟨v2,v4,m2,m4,rfl,bh,bl⟩:=Dq.Fr.opened hd
   subst ha
   have bB:=QA bh
   have cE:=QA bl
   obtain ⟨bo,ce⟩:∃ q,(y.name==[111,110])=q:=⟨_,rfl⟩
   have bT:Hid (decide (y.name≠[111,110])=!bo):=QA (by rw[← ce];by_cases h:y.name=[111,110]<;>simp[h])
   have k0:wr.cell? ⟨g,C+j*5,none⟩=_:=(K.bel.cell (p:=⟨g,C+j*5,none⟩) B).trans (A 0 _ rfl)
   have k1:wr.cell? ⟨g,C+j*5+1,none⟩=_:=(K.bel.cell (p:=⟨g,C+j*5+1,none⟩) B).trans (A 1 _ rfl)
   have k2:wr.cell? ⟨g,C+j*5+2,none⟩=_:=(K.bel.cell (p:=⟨g,C+j*5+2,none⟩) B).trans (A 2 _ rfl)
   have k3:wr.cell? ⟨g,C+j*5+3,none⟩=_:=(K.bel.cell (p:=⟨g,C+j*5+3,none⟩) B).trans (A 3 _ rfl)
   have k4:wr.cell? ⟨g,C+j*5+4,none⟩=_:=(K.bel.cell (p:=⟨g,C+j*5+4,none⟩) B).trans (A 4 _ rfl)
   obtain ⟨wc,J⟩:∃ q,q=wr.alloc (.cells #[.string ⟨y.name.toArray⟩,.string ⟨y.on.toArray⟩,.slice v2 y.dirs.length m2,.slice v4 y.sels.length m4,.int .i64 y.at_] 102):=⟨_,rfl⟩
   have bZ:Hid (WW w b aY wc):=by rw[J];exact QA (K.alloc _)
   have cj:Hid (OK8 b wb wc):=by rw[J];exact QA (o1.alloc _)
   have b9:=QA (QM wc.heap.size)
   have bF:=QA Z
   have N:Hid (wc.heap[wr.heap.size]?=some (.cells #[.string ⟨y.name.toArray⟩,.string ⟨y.on.toArray⟩,.slice v2 y.dirs.length m2,.slice v4 y.sels.length m4,.int .i64 y.at_] 102 (0,0))):=by rw[J];exact QA (box_at1_0 wr _ _)
   have D:wr.heap.size≠b:=by have:=K.lt;omega
   have cV:wr.heap.size+1=wc.heap.size:=by rw[J];simp
   have b7:=QA J
   have HX:=QA M
   clear K Z o1 z1 J M hd bh bl A O B
   obtain ⟨I,H,E,F,G⟩:=blk5 N.out rfl rfl rfl rfl rfl
   go_wp2_with fail
   rw[← b7.out]
   obtain ⟨I,H,E,F,G⟩:=blk5 N.out rfl rfl rfl rfl rfl
   go_wp2_with fail
   refine (wputc w b aY _ bZ.out [102,114,97,103,109,101,110,116,32] (by show _+9≤_;omega)).mono ?_
   rintro e w51 ⟨rfl,s51,h,e,o,z⟩
   have bx:=e.len
   try simp only[QO,QS,QZ] at bx
   have bS:=QA h
   have bG:=QA (bF.out.comp e)
   have b1:=QA (cj.out.trans o)
   have bJ:=QA (QR b9.out z)
   have aQ:=QA (ok8_at o N.out D (by decide))
   clear I H E F G
   clear h e o z
   clear k0 k1 k2 k3 k4
   obtain ⟨V,aB,ao,ak,ah⟩:=blk5 aQ.out rfl rfl rfl rfl rfl
   go_wp2_with fail
   refine (wname_any w b s51 _ bS.out y.name (by omega)).mono ?_
   rintro e w52 ⟨rfl,s52,h,e,o,z⟩
   have bi:=e.len
   try simp only[QO,QS,QZ] at bi
   have b2:=QA h
   have cp:=QA (bG.out.comp e)
   have cw:=QA (b1.out.trans o)
   have co:=QA (QR bJ.out z)
   have aJ:=QA (ok8_at o aQ.out D (by decide))
   clear V aB ao ak ah
   clear h e o z
   obtain ⟨au,S,ax,az,Q⟩:=blk5 aJ.out rfl rfl rfl rfl rfl
   go_wp2_with fail
   refine (b2.out.need (!bo)).mono ?_
   rintro e w53 ⟨rfl,s53,h,e,o,z⟩
   have bd:=e.len
   try simp only[QO,QS,QZ] at bd
   have cC:=QA h
   have b3:=QA (cp.out.comp e)
   have ck:=QA (cw.out.trans o)
   have cA:=QA (QR co.out z)
   have aP:=QA (ok8_at o aJ.out D (by decide))
   clear au S ax az Q
   clear h e o z
   obtain ⟨av,aG,U,aC,ad⟩:=blk5 aP.out rfl rfl rfl rfl rfl
   go_wp2_with fail
   refine (wputc w b s53 _ cC.out [32,111,110,32] (by show _+4≤_;omega)).mono ?_
   rintro e w54 ⟨rfl,s54,h,e,o,z⟩
   have bs:=e.len
   try simp only[QO,QS,QZ] at bs
   have b0:=QA h
   have bE:=QA (b3.out.comp e)
   have cz:=QA (ck.out.trans o)
   have cH:=QA (QR cA.out z)
   have aK:=QA (ok8_at o aP.out D (by decide))
   clear av aG U aC ad
   clear h e o z
   obtain ⟨aw,aI,aE,ai,ae⟩:=blk5 aK.out rfl rfl rfl rfl rfl
   go_wp2_with fail
   refine (wname_any w b s54 _ b0.out y.on (by omega)).mono ?_
   rintro e w55 ⟨rfl,s55,h,e,o,z⟩
   have bk:=e.len
   try simp only[QO,QS,QZ] at bk
   have cm:=QA h
   have cn:=QA (bE.out.comp e)
   have cB:=QA (cz.out.trans o)
   have ca:=QA (QR cH.out z)
   have aR:=QA (ok8_at o aK.out D (by decide))
   clear aw aI aE ai ae
   clear h e o z
   obtain ⟨X,W,ay,aq,aj⟩:=blk5 aR.out rfl rfl rfl rfl rfl
   go_wp2_with fail
   refine (wdirs_any w b HE.out h3 y.dirs 0 (by omega) v2 m2 bB.out (by omega) (by omega) s55 _ cm.out (by omega)).mono ?_
   rintro e w56 ⟨rfl,s56,h,e,o,z⟩
   have bv:=e.len
   try simp only[QO,QS,QZ] at bv
   have ch:=QA h
   have cF:=QA (cn.out.comp e)
   have bW:=QA (cB.out.trans o)
   have bI:=QA (QR ca.out z)
   have aS:=QA (ok8_at o aR.out D (by decide))
   clear X W ay aq aj
   clear h e o z
   obtain ⟨ar,af,ag,aF,aa⟩:=blk5 aS.out rfl rfl rfl rfl rfl
   go_wp2_with fail
   refine (wputc w b s56 _ ch.out [32] (by show _+1≤_;omega)).mono ?_
   rintro e w57 ⟨rfl,s57,h,e,o,z⟩
   have bn:=e.len
   try simp only[QO,QS,QZ] at bn
   have bX:=QA h
   have cv:=QA (cF.out.comp e)
   have bA:=QA (bW.out.trans o)
   have cD:=QA (QR bI.out z)
   have aM:=QA (ok8_at o aS.out D (by decide))
   clear ar af ag aF aa
   clear h e o z
   obtain ⟨am,ac,R,ap,aH⟩:=blk5 aM.out rfl rfl rfl rfl rfl
   go_wp2_with fail
   refine (wsels_all w b HE.out h3 16 0 rfl y.sels v4 m4 cE.out (by omega) s57 _ bX.out (by omega)).mono ?_
   rintro e w58 ⟨rfl,s58,h,e,o,z⟩
   have bp:=e.len
   try simp only[QO,QS,QZ] at bp
   have bU:=QA h
   have ci:=QA (cv.out.comp e)
   have bC:=QA (bA.out.trans o)
   have bD:=QA (QR cD.out z)
   have aL:=QA (ok8_at o aM.out D (by decide))
   clear am ac R ap aH
   clear h e o z
   obtain ⟨al,aA,Y,T,aD⟩:=blk5 aL.out rfl rfl rfl rfl rfl
   go_wp2_with fail
   refine (wputc w b s58 _ bU.out [10] (by show _+1≤_;omega)).mono ?_
   rintro e w59 ⟨rfl,s59,h,e,o,z⟩
   have bf:=e.len
   try simp only[QO,QS,QZ] at bf
   have cq:=QA h
   have bY:=QA (ci.out.comp e)
   have cI:=QA (bC.out.trans o)
   have dp:=QA (QR bD.out z)
   have cS:=QA (ok8_at o aL.out D (by decide))
   clear al aA Y T aD
   clear h e o z
   have EE:Hid (Vl.Eff P (Vl.gds (Vl.ats x.frags Dq.frG true) (j+1)) (Vl.tds (Vl.ats x.frags Dq.frT []) [] (j+1)) (Vl.cds (Vl.ats x.frags Dq.frC 0) 0 (j+1)) s59):=QA (bY.out.to (by rw[Vl.gds,Vl.ats_some HX.out];unfold Dq.frG;rw[bT.out];simp[Bool.and_assoc]) (fun _=>by rw[Vl.tds,Vl.ats_some HX.out];unfold Dq.frT;simp) (by rw[Vl.cds,Vl.ats_some HX.out];simp;omega))
   go_wp2_with fail
   go_roundg (x.frags.length+1-(j+1))
   case measure=>rw[cb.out];omega
   case rel=>exact ⟨j+1,s59,rfl,hjn,by go_num,cq.out,EE.out,cI.out,trivial⟩
def awL:List UInt8:=[123,97,40,98,58,49,41,123,46,46,46,70,125,125]
def awT:List Lx.Tok:=[⟨5,[123],0⟩,⟨1,[97],1⟩,⟨5,[40],2⟩,⟨1,[98],3⟩,⟨5,[58],4⟩,⟨2,[49],5⟩,⟨5,[41],6⟩,⟨5,[123],7⟩,⟨5,[46,46,46],8⟩,⟨1,[70],11⟩,⟨5,[125],12⟩,⟨5,[125],13⟩,⟨0,[],14⟩]
set_option maxRecDepth 100000 in
set_option maxHeartbeats 1000000 in
theorem lex_aw:Lx.lex awL=.ok awT:=by
 simp (decide:=true) [awL,Lx.lex,Lx.lexGo,Lx.gap,Lx.token,awT,Lx.isBlank,Lx.bom,Lx.isLetter,Lx.isDigit,Lx.isWord,Lx.number,Lx.hd,Lx.digits,Lx.numFrac,Lx.numExp,Lx.numEnd,Lx.quotes3,Lx.dots3,Lx.signs]
theorem begin_aw:Rd.begin_ awL=⟨awT,0,0,0⟩:=by unfold Rd.begin_;rw[lex_aw]
def awOp (a b c d e:Int):Dq.Op:=⟨1,[],[],[],[.mk 1 [] [97] [.mk [98] (.mk 2 [49] [] [] c) d] [] [.mk 2 [] [70] [] [] [] e] b],a⟩
theorem parse_aw:(Qr.parse awL).1.err=0∧((Qr.parse awL).2.1.length=1∧(Qr.parse awL).2.2=[])∧∃ a b c d e,(Qr.parse awL).2.1.map Qr.Op.d=[(awOp a b c d e).d]:=by
 unfold Qr.parse
 rw[begin_aw]
 exact ⟨rfl,⟨rfl,rfl⟩,_,_,_,_,_,rfl⟩
def awDoc (a b c d e:Int):Dq.Doc:=⟨[awOp a b c d e],[]⟩
theorem awOne:Vl.one [49] 2=true:=by
 have h:Lx.lex [49]=.ok [⟨2,[49],0⟩,⟨0,[],1⟩]:=by
  simp (decide:=true) [Lx.lex,Lx.lexGo,Lx.gap,Lx.token,Lx.isBlank,Lx.bom,Lx.isLetter,Lx.isDigit,Lx.isWord,Lx.number,Lx.hd,Lx.digits,Lx.numFrac,Lx.numExp,Lx.numEnd,Lx.quotes3,Lx.dots3,Lx.signs]
 unfold Vl.one
 rw[h]
 rfl
theorem awDoc_good (a b c d e:Int):(awDoc a b c d e).good=true:=by
 have o:(Vl.Z.mk 2 [49] [] [] c).good 0=true:=by
  rw[Vl.Z.good_eq]
  show (Vl.parts 2 0 0&&_)=true
  rw[if_pos (by show (1:Int)≤2∧(2:Int)≤7;decide)]
  show (Vl.parts 2 0 0&&(Vl.leaf 2 [49]).1)=true
  rw[show (Vl.leaf 2 [49]).1=Vl.one [49] 2 from rfl,awOne]
  rfl
 have B:Dq.argsG 0 [.mk [98] (.mk 2 [49] [] [] c) d]=true:=by
  unfold Dq.argsG Dq.argG
  simp only[ZY,List.all_nil,Bool.and_true,Vl.ZA.name,Vl.ZA.v]
  have A:Dq.argsG 1 [.mk [98] (.mk 2 [49] [] [] c) d]=true:=by
   unfold Dq.argsG Dq.argG
   simp only[ZY,List.all_nil,Bool.and_true,Vl.ZA.name,Vl.ZA.v]
   rw[o];rfl
  rw[o];rfl
 have A:Dq.argsG 1 [.mk [98] (.mk 2 [49] [] [] c) d]=true:=by
  unfold Dq.argsG Dq.argG
  simp only[ZY,List.all_nil,Bool.and_true,Vl.ZA.name,Vl.ZA.v]
  rw[o];rfl
 unfold awDoc Dq.Doc.good awOp Dq.opG Dq.selsG
 simp only[ZY,List.all_nil,Dq.Sel.goods,Dq.Sel.good,A]
 rfl
theorem awDoc_txt (a b c d e:Int):(awDoc a b c d e).txt=[113,117,101,114,121,32,123,97,40,98,58,32,49,41,32,123,46,46,46,70,125,125,10]:=by
 kernel_rfl
theorem awDoc_fine (a b c d e:Int):(awDoc a b c d e).fine:=by
 refine ⟨⟨by show 1≤1000000000;decide,by show 0≤1000000000;decide⟩,⟨of_decide_eq_true (by kernel_rfl),of_decide_eq_true (by kernel_rfl)⟩,fun y hy=>?_,fun y hy=>by cases hy⟩
 obtain rfl:=List.mem_singleton.1 hy
 exact ⟨of_decide_eq_true (by kernel_rfl),of_decide_eq_true (by kernel_rfl),of_decide_eq_true (by kernel_rfl)⟩
set_option maxHeartbeats 1000000 in
set_option maxRecDepth 100000 in
theorem wAwake_any (w:World) (hE:Env w) (h3:3≤w.heap.size) :
  Calls Tryz.prog 17 #[] w (fun e w'=>e=.returned (.bool true)∧Below w.heap.size w w'∧Env w'):=by
 have F:=QA hE
 clear hE
 go_enter Tryz.func17,Tryz.ntmps17
 go_wp2_with fail
 refine (qparse_any ⟨awL.toArray⟩ w (by decide) F.out h3).mono ?_
 rintro e w1 ⟨hb1,-,hres⟩
 obtain ⟨O,⟨K,H⟩,M,L,G,E,I,R⟩:=parse_aw
 have P:(⟨awL.toArray⟩:ByteArray).data.toList=awL:=rfl
 rw[P] at hres
 rcases hres with ⟨a1,a2,c1,c2,-,rfl,hro,hrf⟩|⟨h,-⟩
 rotate_left
 ·exact absurd O h
 rw[K,H]
 rw[K,R] at hro
 rw[H] at hrf
 have D:=QA hb1
 have J:=QA (F.out.below hb1)
 have U:3≤w1.heap.size:=by have:=hb1.size;omega
 obtain ⟨Q,A⟩:∃ q,q=w1.alloc (.cells #[.slice a1 1 c1,.slice a2 0 c2] 43):=⟨_,rfl⟩
 have o:Below w1.heap.size w1 Q:=by rw[A];exact (Below.refl _ _).alloc (QM _) _
 have S:Hid (Reads w1 (fun _=>True) (awDoc M L G E I).d [.slice a1 1 c1,.slice a2 0 c2]):=by
  have T:Reads w1 (fun _=>True) (.seq 6 [(awOp M L G E I).d]) [.slice a1 1 c1]:=hro.to ⟨QM _,fun _ _ _=>⟨trivial,rfl⟩⟩
  have V:Reads w1 (fun _=>True) (.seq 5 []) [.slice a2 0 c2]:=hrf.to ⟨QM _,fun _ _ _=>⟨trivial,rfl⟩⟩
  exact QA (.obj (.cons T (.cons V .nil)))
 have N:=QA (showDoc_any (awDoc M L G E I) (awDoc_fine ..) a1 a2 c1 c2 Q (J.out.below o) (by have:=o.size;omega) (S.out.to (Stands.below o)))
 rw[A] at N
 have B:=QA (D.out.trans (o.mono D.out.size))
 rw[A] at B
 clear hb1 hro hrf A o O K H R P
 go_wp2_with fail
 refine N.out.mono ?_
 rintro e w2 ⟨hb2,hres⟩
 rcases hres with ⟨-,-,rfl⟩|⟨h,-⟩
 rotate_left
 ·rw[awDoc_good] at h;cases h
 rw[awDoc_txt]
 have C:=QA (B.out.trans (hb2.mono B.out.size))
 clear hb2
 go_wp2_with fail
 refine bodyPost_ret (v:=.bool true) (by simp[results,Tryz.results17,go_sem]) rfl ?_
 exact ⟨rfl,C.out,F.out.below C.out⟩
namespace Dq
def Doc.tx (x:Doc):List UInt8:=if x.good then x.txt else []
end Dq
set_option maxHeartbeats 2000000 in
set_option maxRecDepth 100000 in
theorem partText_any (x:Dq.Doc) (hfine:x.fine) (a1 a2:Option Addr) (c1 c2:Nat) (w:World) (hE:Env w) (h3:3≤w.heap.size) (hR:Reads w (fun _=>True) x.d [.slice a1 x.ops.length c1,.slice a2 x.frags.length c2]) :
  Calls Tryz.prog 19 #[.agg #[.slice a1 x.ops.length c1,.slice a2 x.frags.length c2]] w (fun e w'=>Below w.heap.size w w'∧x.tx.length≤700000000000∧e=.returned (.tuple #[.string ⟨x.tx.toArray⟩,.bool (x.good||decide (x.ops.length+x.frags.length=0))])):=by
 obtain ⟨Q,P⟩:=hfine.1
 obtain ⟨G,o⟩:∃ q,q=w.alloc (.cells #[.slice a1 x.ops.length c1,.slice a2 x.frags.length c2] 43):=⟨_,rfl⟩
 have A:Below w.heap.size w G:=by rw[o];exact (Below.refl _ _).alloc (QM _) _
 have B:G.heap[w.heap.size]?=some (.cells #[.slice a1 x.ops.length c1,.slice a2 x.frags.length c2] 43 (0,0)):=by rw[o];exact heap_at_new _ _
 have H:=showDoc_any x hfine a1 a2 c1 c2 G (hE.below A) (by have:=A.size;omega) (hR.to (Stands.below A))
 have J:=QA B
 have D:=QA A
 have L:w.heap.size<G.heap.size:=by rw[o];simp
 rw[o] at H
 have M:=QA H
 have K:=QA o
 clear o A B H hE hR hfine
 go_enter Tryz.func19,Tryz.ntmps19
 go_wp2_with fail
 refine M.out.mono ?_
 rw[← K.out]
 rintro e w1 ⟨hb1,hres⟩
 have F:=QA (D.out.trans (hb1.mono D.out.size))
 have I:Hid (w1.heap[w.heap.size]?=_):=QA ((hb1.block w.heap.size L).trans J.out)
 obtain ⟨R,k1⟩:=blk2 I.out rfl rfl
 clear hb1 M
 rcases hres with ⟨hg,hlt9,rfl⟩|⟨hg,rfl⟩
 ·have E:=QA hlt9
  clear hlt9
  have C:=QA hg
  clear hg
  go_wp2_with fail
  refine wp_region_cuts [] (by kernel_rfl) (by kernel_rfl) ?_;simp only[wpMix,QF,QN,QE,QL,Nat.sub_zero,Nat.reduceSub,Nat.reduceAdd]
  repeat (go_big_quiet_step (fail))
  refine wpQuiet_nil ?_;rintro _ ⟨nq,rfl⟩
  go_wp2_with fail
  go_ret2
  refine ⟨Below.drewN F.out nq,?_,?_⟩
  ·unfold Dq.Doc.tx
   rw[C.out]
   exact E.out
  unfold Dq.Doc.tx
  rw[C.out]
  rfl
 ·have C:=QA hg
  clear hg
  obtain ⟨q,O⟩:∃ q,(((x.ops.length:Int)+(x.frags.length:Int))==0)=q:=⟨_,rfl⟩
  have N:Hid (decide (x.ops.length+x.frags.length=0)=q):=QA (by
   rw[← O]
   by_cases h:x.ops.length+x.frags.length=0
   ·rw[decide_eq_true h];exact (beq_iff_eq.2 (by omega)).symm
   ·rw[decide_eq_false h];exact (beq_eq_false_iff_ne.2 (by omega)).symm)
  go_wp2_with fail
  refine wp_region_cuts [] (by kernel_rfl) (by kernel_rfl) ?_;simp only[wpMix,QF,QN,QE,QL,Nat.sub_zero,Nat.reduceSub,Nat.reduceAdd]
  repeat (go_big_quiet_step (fail))
  refine wpQuiet_nil ?_;rintro _ ⟨nq,rfl⟩
  go_wp2_with fail
  go_ret2
  refine ⟨Below.drewN F.out nq,?_,?_⟩
  ·unfold Dq.Doc.tx
   rw[C.out]
   exact ZV _
  unfold Dq.Doc.tx
  rw[C.out,N.out]
  rfl
theorem dq_fine {x:Dq.Doc} (h:x.sm):x.fine:=by
 obtain ⟨L,O⟩:=Dq.docC_le h
 obtain ⟨⟨g1,g2⟩,M,D⟩:=h
 have B:∀ d s,Dq.smS d s→Dq.dirsC d≤1000000000∧Dq.Sel.costs s≤1000000000:=by
  rintro d s ⟨⟨C,o⟩,A,q4⟩
  have N:=Dq.dirsC_le o
  have J:=Dq.selsC_le s (Dq.Sel.sml_iff.2 q4)
  have H:=Nat.mul_le_mul_right 1330000 C
  have K:=Nat.mul_le_mul_right 1330000 A
  omega
 refine ⟨⟨by omega,by omega⟩,⟨by omega,by omega⟩,fun y hy=>?_,fun y hy=>?_⟩
 ·obtain ⟨⟨E,F⟩,I,G⟩:=g2 y hy
  have:=Dq.sum_le (l:=y.vars) (f:=Dq.varC) (m:=2) (B:=1330000) (fun z hz=>by
   obtain ⟨C,o,-,A⟩:=F z hz
   unfold Dq.varC;omega)
  have e:=Nat.mul_le_mul_right 1330000 E
  exact ⟨by omega,B _ _ G⟩
 ·exact B _ _ (D y hy).2.2
def both (x y:Dq.Doc):Dq.Doc:=⟨x.ops++y.ops,x.frags++y.frags⟩
theorem both_fine {x y:Dq.Doc} (hx:x.sm) (hy:y.sm):(both x y).fine:=by
 obtain ⟨H,L⟩:=Dq.docC_le hx
 obtain ⟨M,F⟩:=Dq.docC_le hy
 obtain ⟨⟨J,K⟩,⟨D,E⟩,A,B⟩:=dq_fine hx
 obtain ⟨⟨I,b2⟩,⟨b3,b4⟩,b5,b6⟩:=dq_fine hy
 have lx:=hx.1.1
 have G:=hy.1.1
 have o:=hx.2.1
 have C:=hy.2.1
 refine ⟨⟨by show (x.ops++y.ops).length≤_;rw[QT];omega,by show (x.frags++y.frags).length≤_;rw[QT];omega⟩,⟨by show Vl.sumC Dq.opC 0 (x.ops++y.ops)≤_;rw[Vl.sumC_app];omega,by show Vl.sumC Dq.frC 0 (x.frags++y.frags)≤_;rw[Vl.sumC_app];omega⟩,fun z hz=>?_,fun z hz=>?_⟩
 ·rcases List.mem_append.1 hz with h|h
  ·exact A z h
  ·exact b5 z h
 ·rcases List.mem_append.1 hz with h|h
  ·exact B z h
  ·exact b6 z h
def opsOf (x:Dq.Doc):Dq.Doc:=⟨x.ops,[]⟩
def frsOf (x:Dq.Doc):Dq.Doc:=⟨[],x.frags⟩
theorem opsOf_fine {x:Dq.Doc} (h:x.fine):(opsOf x).fine:=by
 obtain ⟨⟨o,D⟩,⟨A,E⟩,B,C⟩:=h
 exact ⟨⟨o,ZV _⟩,⟨A,ZV _⟩,B,fun z hz=>by cases hz⟩
theorem frsOf_fine {x:Dq.Doc} (h:x.fine):(frsOf x).fine:=by
 obtain ⟨⟨C,A⟩,⟨D,B⟩,E,o⟩:=h
 exact ⟨⟨ZV _,A⟩,⟨ZV _,B⟩,(fun z hz=>by cases hz),o⟩
theorem opsOf_p (x:Dq.Doc):((opsOf x).good||decide ((opsOf x).ops.length+(opsOf x).frags.length=0))=x.ops.all Dq.opG:=by
 unfold opsOf Dq.Doc.good
 cases h:x.ops<;>simp[h]
theorem frsOf_p (x:Dq.Doc):((frsOf x).good||decide ((frsOf x).ops.length+(frsOf x).frags.length=0))=x.frags.all Dq.frG:=by
 unfold frsOf Dq.Doc.good
 cases h:x.frags<;>simp[h]
theorem opsOf_t {x:Dq.Doc} (h:x.ops.all Dq.opG=true):(opsOf x).tx=x.ops.flatMap Dq.opT:=by
 unfold Dq.Doc.tx opsOf Dq.Doc.good Dq.Doc.txt
 cases ho:x.ops with
 | nil=>simp
 | cons y r=>rw[ho] at h;simp[h]
theorem frsOf_t {x:Dq.Doc} (h:x.frags.all Dq.frG=true):(frsOf x).tx=x.frags.flatMap Dq.frT:=by
 unfold Dq.Doc.tx frsOf Dq.Doc.good Dq.Doc.txt
 cases ho:x.frags with
 | nil=>simp
 | cons y r=>rw[ho] at h;simp[h]
theorem both_good (x y:Dq.Doc):(both x y).good=(decide (0<(both x y).ops.length+(both x y).frags.length)&&(x.ops.all Dq.opG&&(y.ops.all Dq.opG&&(x.frags.all Dq.frG&&y.frags.all Dq.frG)))):=by
 unfold Dq.Doc.good
 show (_&&((x.ops++y.ops).all Dq.opG&&(x.frags++y.frags).all Dq.frG))=_
 rw[List.all_append,List.all_append]
 simp[Bool.and_assoc]
theorem both_txt (x y:Dq.Doc):(both x y).txt=x.ops.flatMap Dq.opT++(y.ops.flatMap Dq.opT++(x.frags.flatMap Dq.frT++y.frags.flatMap Dq.frT)):=by
 unfold Dq.Doc.txt
 show (x.ops++y.ops).flatMap Dq.opT++(x.frags++y.frags).flatMap Dq.frT=_
 rw[List.flatMap_append,List.flatMap_append]
 simp
set_option maxHeartbeats 4000000 in
set_option maxRecDepth 100000 in
theorem showParts_any (x y:Dq.Doc) (fx:x.fits) (fy:y.fits) (a1 a2 b1 b2:Option Addr) (c1 c2 d1 d2:Nat) (w:World) (hE:Env w) (h3:3≤w.heap.size) (rx:Reads w (fun _=>True) x.d [.slice a1 x.ops.length c1,.slice a2 x.frags.length c2]) (ry:Reads w (fun _=>True) y.d [.slice b1 y.ops.length d1,.slice b2 y.frags.length d2]) :
  Calls Tryz.prog 4 #[.agg #[.slice a1 x.ops.length c1,.slice a2 x.frags.length c2],.agg #[.slice b1 y.ops.length d1,.slice b2 y.frags.length d2]] w (fun e w'=>e=.returned (.bool true)∧Below w.heap.size w w'):=by
 obtain ⟨b6,bj,aB,aF,ax⟩:=info_parts infoFr
 obtain ⟨ch,bY,aE,D,aG⟩:=info_parts infoOp
 obtain ⟨wb,G⟩:∃ q,q=(w.alloc (.cells #[.slice a1 x.ops.length c1,.slice a2 x.frags.length c2] 43)).alloc (.cells #[.slice b1 y.ops.length d1,.slice b2 y.frags.length d2] 43):=⟨_,rfl⟩
 have Y:Below w.heap.size w wb:=by rw[G];exact ((Below.refl _ _).alloc (QM _) _).alloc (by simp) _
 have b4:wb.heap[w.heap.size]?=some (.cells #[.slice a1 x.ops.length c1,.slice a2 x.frags.length c2] 43 (0,0)):=by rw[G];exact box_at2_0 w _ _ _ _
 have bd:wb.heap[w.heap.size+1]?=some (.cells #[.slice b1 y.ops.length d1,.slice b2 y.frags.length d2] 43 (0,0)):=by rw[G];exact box_at2_1 w _ _ _ _
 have dv:wb.heap.size=w.heap.size+2:=by rw[G];simp
 have b8:=QA Y
 have bM:=QA (rx.to (Stands.below Y))
 have bt:=QA (ry.to (Stands.below Y))
 have cO:=QA b4
 have cX:=QA bd
 have aW:=wAwake_any wb (hE.below Y) (by omega)
 rw[G] at aW
 have ck:=QA aW
 have cA:=QA G
 have cz:=QA fx
 have cY:=QA fy
 clear aW G Y b4 bd hE rx ry fx fy
 go_enter Tryz.func4,Tryz.ntmps4
 go_wp2_with fail
 refine ck.out.mono ?_
 rw[← cA.out]
 rintro e w1 ⟨rfl,hb1,hE1⟩
 have bq:=QA (b8.out.trans (hb1.mono b8.out.size))
 have cy:=QA hE1
 have ay:=QA (bM.out.to (Stands.below hb1))
 have br:=QA (bt.out.to (Stands.below hb1))
 have bA:Hid (w1.heap[w.heap.size]?=_):=QA ((hb1.block w.heap.size (by omega)).trans cO.out)
 have cu:Hid (w1.heap[w.heap.size+1]?=_):=QA ((hb1.block (w.heap.size+1) (by omega)).trans cX.out)
 have dq:=hb1.size
 have C:=QA (dqFew_any x cz.out a1 a2 c1 c2 w1 ay.out)
 obtain ⟨k0,k1⟩:=blk2 bA.out rfl rfl
 clear hb1 hE1 ck
 go_wp2_with fail
 refine C.out.mono ?_
 rintro e w2 ⟨b,rfl,hb2,hf⟩
 have ap:=QA (bq.out.trans (hb2.mono bq.out.size))
 have cd:=QA (cy.out.below hb2)
 have bN:=QA (ay.out.to (Stands.below hb2))
 have az:=QA (br.out.to (Stands.below hb2))
 have cB:Hid (w2.heap[w.heap.size]?=_):=QA ((hb2.block w.heap.size (by omega)).trans bA.out)
 have bl:Hid (w2.heap[w.heap.size+1]?=_):=QA ((hb2.block (w.heap.size+1) (by omega)).trans cu.out)
 have dB:=hb2.size
 have cG:=QA hf
 clear hb2 hf k0 k1 C
 cases b
 ·go_wp2_with fail
  refine (wAwake_any w2 cd.out (by omega)).mono ?_
  rintro e w3 ⟨rfl,hb3,hE3⟩
  have U:=QA (ap.out.trans (hb3.mono ap.out.size))
  clear hb3 hE3
  go_wp2_with fail
  go_ret
  exact ⟨rfl,U.out⟩
 have C:=QA (dqFew_any y cY.out b1 b2 d1 d2 w2 az.out)
 obtain ⟨k0,k1⟩:=blk2 bl.out rfl rfl
 go_wp2_with fail
 refine C.out.mono ?_
 rintro e w3 ⟨b,rfl,hb3,hf⟩
 have U:=QA (ap.out.trans (hb3.mono ap.out.size))
 have a8:=QA (cd.out.below hb3)
 have bJ:=QA (bN.out.to (Stands.below hb3))
 have cf:=QA (az.out.to (Stands.below hb3))
 have aZ:Hid (w3.heap[w.heap.size]?=_):=QA ((hb3.block w.heap.size (by omega)).trans cB.out)
 have a3:Hid (w3.heap[w.heap.size+1]?=_):=QA ((hb3.block (w.heap.size+1) (by omega)).trans bl.out)
 have dp:=hb3.size
 have cW:=QA hf
 clear hb3 hf k0 k1 C
 cases b
 ·go_wp2_with fail
  refine (wAwake_any w3 a8.out (by omega)).mono ?_
  rintro e w4 ⟨rfl,hb4,hE4⟩
  have cQ:=QA (U.out.trans (hb4.mono U.out.size))
  clear hb4 hE4
  go_wp2_with fail
  go_ret
  exact ⟨rfl,cQ.out⟩
 have O:=QA (cG.out (by trivial))
 have P:=QA (cW.out (by trivial))
 have lx:=O.out.1.1
 have ly:=P.out.1.1
 have ds:=O.out.2.1
 have du:=P.out.2.1
 obtain ⟨p1,p2,p3,p4,ex,be,bT⟩:=Dq.Doc.opened bJ.out
 obtain ⟨rfl,rfl,rfl,rfl⟩:a1=p1∧c1=p3∧a2=p2∧c2=p4:=by simpa [and_assoc] using ex
 obtain ⟨q1,q2,q3,q4,ey,bU,cg⟩:=Dq.Doc.opened cf.out
 obtain ⟨rfl,rfl,rfl,rfl⟩:b1=q1∧d1=q3∧b2=q2∧d2=q4:=by simpa [and_assoc] using ey
 have bn:=QA be
 have cl:=QA bT
 have cp:=QA bU
 have cb:=QA cg
 clear ex ey be bT bU cg
 obtain ⟨z0,z1⟩:=blk2 aZ.out rfl rfl
 obtain ⟨z2,z3⟩:=blk2 a3.out rfl rfl
 have L:Hid (∀ w':World,Below w3.heap.size w3 w'→w'.cell? ⟨w.heap.size,0,none⟩=some (.slice a1 x.ops.length c1)∧w'.cell? ⟨w.heap.size,1,none⟩=some (.slice a2 x.frags.length c2)∧w'.cell? ⟨w.heap.size+1,0,none⟩=some (.slice b1 y.ops.length d1)∧w'.cell? ⟨w.heap.size+1,1,none⟩=some (.slice b2 y.frags.length d2)):=QA (fun w' hb=>⟨(hb.cell (p:=⟨w.heap.size,0,none⟩) (block_lt aZ.out)).trans z0,(hb.cell (p:=⟨w.heap.size,1,none⟩) (block_lt aZ.out)).trans z1,(hb.cell (p:=⟨w.heap.size+1,0,none⟩) (block_lt a3.out)).trans z2,(hb.cell (p:=⟨w.heap.size+1,1,none⟩) (block_lt a3.out)).trans z3⟩)
 clear z0 z1 z2 z3
 go_wp2_with fail
 refine wp_region_phase (fun w'=>w'.cell? ⟨w.heap.size,0,none⟩=some (.slice a1 x.ops.length c1)∧w'.cell? ⟨w.heap.size,1,none⟩=some (.slice a2 x.frags.length c2)∧w'.cell? ⟨w.heap.size+1,0,none⟩=some (.slice b1 y.ops.length d1)∧w'.cell? ⟨w.heap.size+1,1,none⟩=some (.slice b2 y.frags.length d2)) 17 (by kernel_rfl) ?_
 have hS:=L.out _ (Below.drew (Below.refl w3.heap.size w3))
 refine wpAnyB_take (i:=1) (v:=(.pointer (some ⟨w.heap.size,0,none⟩))) (by kernel_rfl) (by decide) rfl (by kernel_rfl) (by kernel_rfl) (by kernel_rfl) (fun _ _ _ h=>h) (Or.inl ⟨by rfl,fun w hSw=>by obtain ⟨H,J,M,I⟩:=hSw;go_simp;first|done|rfl|decide⟩) hS ?_;simp only[Act.put,QD,QK,QI,QJ,QC,QH,QG]
 refine wpAnyB_take (i:=2) (v:=(.slice a1 x.ops.length c1)) (by kernel_rfl) (by decide) rfl (by kernel_rfl) (by kernel_rfl) (by kernel_rfl) (fun _ _ _ h=>h) (Or.inl ⟨by rfl,fun w hSw=>by obtain ⟨H,J,M,I⟩:=hSw;go_simp;first|done|rfl|decide⟩) hS ?_;simp only[Act.put,QD,QK,QI,QJ,QC,QH,QG]
 refine wpAnyB_take (i:=4) (v:=(.pointer (some ⟨w.heap.size+1,0,none⟩))) (by kernel_rfl) (by decide) rfl (by kernel_rfl) (by kernel_rfl) (by kernel_rfl) (fun _ _ _ h=>h) (Or.inl ⟨by rfl,fun w hSw=>by obtain ⟨H,J,M,I⟩:=hSw;go_simp;first|done|rfl|decide⟩) hS ?_;simp only[Act.put,QD,QK,QI,QJ,QC,QH,QG]
 refine wpAnyB_take (i:=5) (v:=(.slice b1 y.ops.length d1)) (by kernel_rfl) (by decide) rfl (by kernel_rfl) (by kernel_rfl) (by kernel_rfl) (fun _ _ _ h=>h) (Or.inl ⟨by rfl,fun w hSw=>by obtain ⟨H,J,M,I⟩:=hSw;go_simp;first|done|rfl|decide⟩) hS ?_;simp only[Act.put,QD,QK,QI,QJ,QC,QH,QG]
 refine wpAnyB_take (i:=8) (v:=(.pointer (some ⟨w.heap.size,1,none⟩))) (by kernel_rfl) (by decide) rfl (by kernel_rfl) (by kernel_rfl) (by kernel_rfl) (fun _ _ _ h=>h) (Or.inl ⟨by rfl,fun w hSw=>by obtain ⟨H,J,M,I⟩:=hSw;go_simp;first|done|rfl|decide⟩) hS ?_;simp only[Act.put,QD,QK,QI,QJ,QC,QH,QG]
 refine wpAnyB_take (i:=9) (v:=(.slice a2 x.frags.length c2)) (by kernel_rfl) (by decide) rfl (by kernel_rfl) (by kernel_rfl) (by kernel_rfl) (fun _ _ _ h=>h) (Or.inl ⟨by rfl,fun w hSw=>by obtain ⟨H,J,M,I⟩:=hSw;go_simp;first|done|rfl|decide⟩) hS ?_;simp only[Act.put,QD,QK,QI,QJ,QC,QH,QG]
 refine wpAnyB_take (i:=11) (v:=(.pointer (some ⟨w.heap.size+1,1,none⟩))) (by kernel_rfl) (by decide) rfl (by kernel_rfl) (by kernel_rfl) (by kernel_rfl) (fun _ _ _ h=>h) (Or.inl ⟨by rfl,fun w hSw=>by obtain ⟨H,J,M,I⟩:=hSw;go_simp;first|done|rfl|decide⟩) hS ?_;simp only[Act.put,QD,QK,QI,QJ,QC,QH,QG]
 refine wpAnyB_take (i:=12) (v:=(.slice b2 y.frags.length d2)) (by kernel_rfl) (by decide) rfl (by kernel_rfl) (by kernel_rfl) (by kernel_rfl) (fun _ _ _ h=>h) (Or.inl ⟨by rfl,fun w hSw=>by obtain ⟨H,J,M,I⟩:=hSw;go_simp;first|done|rfl|decide⟩) hS ?_;simp only[Act.put,QD,QK,QI,QJ,QC,QH,QG]
 clear hS
 have E:Stands w3 (fun _=>True) w3 (fun g=>g<w3.heap.size):=Stands.sub w3 (fun g hg _=>hg)
 obtain ⟨ae,bu,bm,bf,bL⟩:=seq_src (bn.out.to E)
 obtain ⟨am,bh,b5,bz,b7⟩:=seq_src (cp.out.to E)
 obtain ⟨ak,bX,aC,bR,bc⟩:=seq_src (cl.out.to E)
 obtain ⟨aw,ba,aA,bW,ci⟩:=seq_src (cb.out.to E)
 have N:Hid (∀ (n:Nat) (a:Option Addr) (news:List Value) (w':World),Below w3.heap.size w3 w'→(n=0∨∃ ad:Addr,a=some ad∧ad.block<w3.heap.size∧∀ (j:Nat) u,news[j]?=some u→w3.cell? (ad.add j)=some u)→(n=0∨∃ ad:Addr,a=some ad∧∀ (j:Nat) u,news[j]?=some u→w'.cell? (ad.add j)=some u)):=QA (fun n a news w' hb h=>h.imp id (fun ⟨ad,e,hl,hc⟩=>⟨ad,e,fun j u hj=>(hb.cell (p:=ad.add j) (by unfold Addr.add;split<;>exact hl)).trans (hc j u hj)⟩))
 have ag:Below w3.heap.size w3 { heap:=w3.heap,tape:=w3.tape,drawn:=w3.drawn+1,os:=w3.os,output:=w3.output }:=Below.drew (Below.refl w3.heap.size w3)
 refine lattice0 (base:=w3.heap.size) (k1:=6) (k2:=5) (E1:=96) (E2:=102) (T5:=43) (box:=#[.slice none 0 0,.slice none 0 0]) (n1:=x.ops.length) (m1:=y.ops.length) (n2:=x.frags.length) (m2:=y.frags.length) (xs1:=ae) (ys1:=am) (xs2:=ak) (ys2:=aw) (by kernel_rfl) (fun w' hb=>L.out w' (ag.trans hb)) ?hr ?h1 ?h2 ?h14 ?h15 ?hend (QM _) (by kernel_rfl) (by kernel_rfl)
 case hr =>
  intro i j hi hj hji k e he hne
  have c0:i=0∨i=1∨i=2∨i=3:=by omega
  have cR:j=0∨j=1∨j=2∨j=3:=by omega
  cases e
  ·rcases c0 with rfl|rfl|rfl|rfl<;>rcases cR with rfl|rfl|rfl|rfl<;>cases k<;>first|(exfalso;revert hji;decide)|(show _=_;kernel_rfl)
  ·obtain ⟨rfl,rfl⟩:=he rfl
   cases k
   ·show _=_;kernel_rfl
   ·exact absurd ⟨rfl,rfl,rfl,rfl⟩ hne
 case h1 =>
  intro i hi a wq K v hsrc hb hlow hv hK
  have af:=ag.trans hb
  have aH:i=0∨i=1∨i=2:=by omega
  rcases aH with rfl|rfl|rfl
  ·refine wpOp_intro (i:=0) (by decide) (fun K0 HK0=>?_)
   simp only[QL,QF,QN]
   go_wp2_with fail
   refine HK0.out _ _ (hK _ _ ⟨(Below.refl _ _).alloc hlow _,⟨rfl,.inr ⟨wq.heap.size,0,#[],rfl,hlow,heap_at_new _ _,QM _,by unfold maxLen;omega,rfl,rfl⟩⟩,fun o ho _=>Lib.alloc_old _ _ _ ho,.inr (fun g hg=>by simpa [Value.ownBlock] using hg.symm)⟩)
  ·obtain ⟨e1,A⟩:=hv (by decide)
   refine wpOp_intro (i:=3) (by decide) (fun K0 HK0=>?_)
   simp only[QE,QL,QF,QN]
   exact wpList_app (by kernel_rfl) (.tmp 30) (.tmp 32) 40 rfl w3.heap.size 96 ch _ 6 104 Tryz.underlying40 bY aE D aG rfl (by decide) v 0 [] e1 A a1 x.ops.length c1 ae ((hsrc 32 (.inl rfl)).trans rfl) bm (N.out _ _ _ _ af bf) bL (by unfold maxLen;omega) (by omega) hlow 1 (by decide) (fun v' w' hs=>HK0.out _ _ (hK v' w' (by simpa using hs)))
  ·obtain ⟨e1,A⟩:=hv (by decide)
   refine wpOp_intro (i:=6) (by decide) (fun K0 HK0=>?_)
   simp only[QE,QL,QF,QN]
   exact wpList_app (by kernel_rfl) (.tmp 33) (.tmp 35) 40 rfl w3.heap.size 96 ch _ 6 104 Tryz.underlying40 bY aE D aG rfl (by decide) v x.ops.length ae e1 A b1 y.ops.length d1 am ((hsrc 35 (.inr rfl)).trans rfl) b5 (N.out _ _ _ _ af bz) b7 (by unfold maxLen;omega) (by omega) hlow 2 (by decide) (fun v' w' hs=>HK0.out _ _ (hK v' w' hs))
 case h2 =>
  intro i hi a wq K v hsrc hb hlow hv hK
  have af:=ag.trans hb
  have aH:i=0∨i=1∨i=2:=by omega
  rcases aH with rfl|rfl|rfl
  ·refine wpOp_intro (i:=7) (by decide) (fun K0 HK0=>?_)
   simp only[QE,QL,QF,QN]
   go_wp2_with fail
   refine HK0.out _ _ (hK _ _ ⟨(Below.refl _ _).alloc hlow _,⟨rfl,.inr ⟨wq.heap.size,0,#[],rfl,hlow,heap_at_new _ _,QM _,by unfold maxLen;omega,rfl,rfl⟩⟩,fun o ho _=>Lib.alloc_old _ _ _ ho,.inr (fun g hg=>by simpa [Value.ownBlock] using hg.symm)⟩)
  ·obtain ⟨e1,A⟩:=hv (by decide)
   refine wpOp_intro (i:=10) (by decide) (fun K0 HK0=>?_)
   simp only[QE,QL,QF,QN]
   exact wpList_app (by kernel_rfl) (.tmp 37) (.tmp 39) 41 rfl w3.heap.size 102 b6 _ 5 88 Tryz.underlying41 bj aB aF ax rfl (by decide) v 0 [] e1 A a2 x.frags.length c2 ak ((hsrc 39 (.inl rfl)).trans rfl) aC (N.out _ _ _ _ af bR) bc (by unfold maxLen;omega) (by omega) hlow 1 (by decide) (fun v' w' hs=>HK0.out _ _ (hK v' w' (by simpa using hs)))
  ·obtain ⟨e1,A⟩:=hv (by decide)
   refine wpOp_intro (i:=13) (by decide) (fun K0 HK0=>?_)
   simp only[QE,QL,QF,QN]
   exact wpList_app (by kernel_rfl) (.tmp 40) (.tmp 42) 41 rfl w3.heap.size 102 b6 _ 5 88 Tryz.underlying41 bj aB aF ax rfl (by decide) v x.frags.length ak e1 A b2 y.frags.length d2 aw ((hsrc 42 (.inr rfl)).trans rfl) aA (N.out _ _ _ _ af bW) ci (by unfold maxLen;omega) (by omega) hlow 2 (by decide) (fun v' w' hs=>HK0.out _ _ (hK v' w' hs))
 case h14 =>
  rintro a wq K v1 v2 e1 e2 ⟨p,q,r,rfl⟩ ⟨p',q',r',rfl⟩ hK
  have f1:a.tmps[36]?.getD undef=.slice p q r:=by rw[← e1];unfold Act.eval;simp[Array.getD_eq_getD_getElem?]
  have f2:a.tmps[43]?.getD undef=.slice p' q' r':=by rw[← e2];unfold Act.eval;simp[Array.getD_eq_getD_getElem?]
  have HK:=QA hK
  clear e1 e2 hK
  refine wpOp_intro (i:=14) (by decide) (fun K0 HK0=>?_)
  simp only[QE,QL,QF,QN]
  go_wp2_with fail
  exact HK0.out _ _ HK.out
 case h15 =>
  intro a wq K hK
  refine wpOp_intro (i:=15) (by decide) (fun K0 HK0=>?_)
  simp only[QE,QL,QF,QN]
  go_wp2_with fail
  exact HK0.out _ _ hK
 case hend =>
  intro x1 x2 v1 y1 y2 v2 z w4 hI
  simp (decide:=true) only[act2,opt1,chn,Act.put,if_true,if_false,QC,QH,QG]
  obtain ⟨aj,ah,aQ,-⟩:=own_slice (hI.c1 (by decide))
  obtain ⟨ai,aa,aN,-⟩:=own_slice (hI.c2 (by decide))
  have HI:=QA hI
  obtain ⟨zb,zc,zd,ze⟩:=hI.bx rfl
  have bI:=QA zc
  obtain ⟨cL,c3⟩:=blk2 zc rfl rfl
  have cx:=blk_free zc 0
  have cN:=blk_free zc 1
  clear hI zc zd ze
  refine wpAnyB_one (i:=16) (by kernel_rfl) ?_
  refine wpOp_intro (i:=16) (by decide) (fun K0 HK0=>?_)
  simp only[QE,QL,QF,QN]
  go_wp2_with fail
  obtain ⟨V,R⟩:∃ q,q=(w4.setCell ⟨z,0,none⟩ (.slice aj (x.ops.length+y.ops.length) ah)).setCell ⟨z,1,none⟩ (.slice ai (x.frags.length+y.frags.length) aa):=⟨_,rfl⟩
  have S:Below w3.heap.size w3 V:=by rw[R];exact ((ag.trans HI.out.bel).setCell zb _).setCell zb _
  have bB:V.heap[z]?=some (.cells #[.slice aj (x.ops.length+y.ops.length) ah,.slice ai (x.frags.length+y.frags.length) aa] 43 (0,0)):=by rw[R];exact heap_set1 (heap_set1 bI.out)
  have Z:∀ g,g≠z→V.heap[g]?=w4.heap[g]?:=fun g hg=>by rw[R,heap_set_ne hg,heap_set_ne hg]
  have cZ:V.heap.size=w4.heap.size:=by rw[R,size_set,size_set]
  have aO:Stands w3 (fun g=>g<w3.heap.size) V (fun g=>g<w3.heap.size):=⟨S.size,fun g hg hp=>⟨hp,S.block g hp⟩⟩
  have bP:Grows V (fun g=>g<w3.heap.size) w3.heap.size 96 6 (.slice aj (x.ops.length+y.ops.length) ah) ((x.ops++y.ops).map Dq.Op.d):=by
   have hc:=HI.out.c1 (by decide)
   rw[aQ] at hc
   refine ⟨⟨ae++am,?_,?_⟩,fun g hg hp=>?_⟩
   ·rw[List.length_map,QT]
    exact row_to hc (fun g hg=>Z g (fun e=>by have:=(HI.out.bx rfl).2.2.1 (by decide);rw[aQ] at this;subst e;exact this hg))
   ·rw[List.map_append];exact (bu.append bh).to aO
   ·have:=(hc.lt g hg).1
    have cT:g<w3.heap.size:=hp
    omega
  have bi:Grows V (fun g=>g<w3.heap.size) w3.heap.size 102 5 (.slice ai (x.frags.length+y.frags.length) aa) ((x.frags++y.frags).map Dq.Fr.d):=by
   have hc:=HI.out.c2 (by decide)
   rw[aN] at hc
   refine ⟨⟨ak++aw,?_,?_⟩,fun g hg hp=>?_⟩
   ·rw[List.length_map,QT]
    exact row_to hc (fun g hg=>Z g (fun e=>by have:=(HI.out.bx rfl).2.2.2 (by decide);rw[aN] at this;subst e;exact this hg))
   ·rw[List.map_append];exact (bX.append ba).to aO
   ·have:=(hc.lt g hg).1
    have cT:g<w3.heap.size:=hp
    omega
  have bC:Reads V (fun _=>True) (both x y).d [.slice aj (x.ops.length+y.ops.length) ah,.slice ai (x.frags.length+y.frags.length) aa] :=
   .obj (.cons (bP.reads.to (Stands.sub V (fun _ _ _=>trivial))) (.cons (bi.reads.to (Stands.sub V (fun _ _ _=>trivial))) .nil))
  have Q:(both x y).ops.length=x.ops.length+y.ops.length:=QT
  have T:(both x y).frags.length=x.frags.length+y.frags.length:=QT
  have co:=QA (a8.out.below S)
  have cK:3≤V.heap.size:=by have:=S.size;omega
  have F:=showDoc_any (both x y) (both_fine O.out P.out) aj ai ah aa V co.out cK (by rw[Q,T];exact bC)
  rw[Q,T] at F
  have W:=QA F
  have aU:=QA S
  have aM:=QA bB
  have ac:=QA (dq_fine O.out)
  have X:=QA (dq_fine P.out)
  rw[← R]
  clear R bB Z aO bP bi bC F S cL c3 cx cN aQ aN cZ zb Q T ag E ae bu bm bf bL am bh b5 bz b7 ak bX aC bR bc aw ba aA bW ci HI bI
  refine HK0.out _ _ ⟨fun _=>L.out _ aU.out,?_⟩
  clear HK0
  refine wpAnyB_done (by kernel_rfl) ?_ _
  obtain ⟨t0,t1⟩:=blk2 aM.out rfl rfl
  go_wp2_with fail
  refine W.out.mono ?_
  rintro e w6 ⟨hb6,hres⟩
  obtain ⟨tt,er,rfl,bG⟩:∃ (tt:List UInt8) (er:Int),e=.returned (.tuple #[.string ⟨tt.toArray⟩,.int .i64 er])∧(((both x y).good=true∧tt.length≤700000000000∧tt=(both x y).txt∧er=0)∨((both x y).good=false∧tt.length≤700000000000∧tt=[]∧er=2)):=by
   rcases hres with ⟨h1,h2,h3⟩|⟨h1,h2⟩
   ·exact ⟨_,_,h3,.inl ⟨h1,h2,rfl,rfl⟩⟩
   ·exact ⟨[],2,h2,.inr ⟨h1,ZV _,rfl,rfl⟩⟩
  have bK:=QA bG
  have bQ:=QA hb6
  have aq:=QA (aU.out.trans (hb6.mono aU.out.size))
  have ca:=QA (co.out.below hb6)
  have cI:3≤w6.heap.size:=by have:=hb6.size;omega
  clear hb6 hres bG W t0 t1
  have a5:Calls Tryz.prog 19 #[.agg #[.slice a1 x.ops.length c1,.slice none 0 0]] w6 (fun e w'=>Below w6.heap.size w6 w'∧(opsOf x).tx.length≤700000000000∧e=.returned (.tuple #[.string ⟨(opsOf x).tx.toArray⟩,.bool ((opsOf x).good||decide ((opsOf x).ops.length+(opsOf x).frags.length=0))])):=partText_any (opsOf x) (opsOf_fine ac.out) a1 none c1 0 w6 ca.out cI (.obj (.cons (bn.out.to (Stands.below aq.out)) (.cons (.seq .nil) .nil)))
  rw[opsOf_p x] at a5
  have bD:=QA a5
  obtain ⟨H,J,M,I⟩:=L.out w6 aq.out
  clear a5
  go_wp2_with fail
  refine bD.out.mono ?_
  rintro e w7 ⟨hb7,hlA,rfl⟩
  obtain ⟨tA,aY⟩:∃ q,q=(opsOf x).tx:=⟨_,rfl⟩
  obtain ⟨pA,aS⟩:∃ q,q=x.ops.all Dq.opG:=⟨_,rfl⟩
  rw[← aY] at hlA ⊢
  rw[← aS]
  have cw:=QA aY
  have cm:=QA aS
  have bv:=QA (bQ.out.trans (hb7.mono bQ.out.size))
  have av:=QA (aq.out.trans (hb7.mono aq.out.size))
  have bV:=QA (ca.out.below hb7)
  have cF:3≤w7.heap.size:=by have:=hb7.size;omega
  clear hb7 aY aS H J M I bD
  have aK:Calls Tryz.prog 19 #[.agg #[.slice b1 y.ops.length d1,.slice none 0 0]] w7 (fun e w'=>Below w7.heap.size w7 w'∧(opsOf y).tx.length≤700000000000∧e=.returned (.tuple #[.string ⟨(opsOf y).tx.toArray⟩,.bool ((opsOf y).good||decide ((opsOf y).ops.length+(opsOf y).frags.length=0))])):=partText_any (opsOf y) (opsOf_fine X.out) b1 none d1 0 w7 bV.out cF (.obj (.cons (cp.out.to (Stands.below av.out)) (.cons (.seq .nil) .nil)))
  rw[opsOf_p y] at aK
  have cn:=QA aK
  obtain ⟨H,J,M,I⟩:=L.out w7 av.out
  clear aK
  go_wp2_with fail
  refine cn.out.mono ?_
  rintro e w8 ⟨hb8,hlB,rfl⟩
  obtain ⟨tB,aX⟩:∃ q,q=(opsOf y).tx:=⟨_,rfl⟩
  obtain ⟨pB,aP⟩:∃ q,q=y.ops.all Dq.opG:=⟨_,rfl⟩
  rw[← aX] at hlB ⊢
  rw[← aP]
  have cC:=QA aX
  have bw:=QA aP
  have ce:=QA (bv.out.trans (hb8.mono bv.out.size))
  have an:=QA (av.out.trans (hb8.mono av.out.size))
  have bb:=QA (bV.out.below hb8)
  have cD:3≤w8.heap.size:=by have:=hb8.size;omega
  clear hb8 aX aP H J M I cn
  have aR:Calls Tryz.prog 19 #[.agg #[.slice none 0 0,.slice a2 x.frags.length c2]] w8 (fun e w'=>Below w8.heap.size w8 w'∧(frsOf x).tx.length≤700000000000∧e=.returned (.tuple #[.string ⟨(frsOf x).tx.toArray⟩,.bool ((frsOf x).good||decide ((frsOf x).ops.length+(frsOf x).frags.length=0))])):=partText_any (frsOf x) (frsOf_fine ac.out) none a2 0 c2 w8 bb.out cD (.obj (.cons (.seq .nil) (.cons (cl.out.to (Stands.below an.out)) .nil)))
  rw[frsOf_p x] at aR
  have bo:=QA aR
  obtain ⟨H,J,M,I⟩:=L.out w8 an.out
  clear aR
  go_wp2_with fail
  refine bo.out.mono ?_
  rintro e w9 ⟨hb9,hlC,rfl⟩
  obtain ⟨tC,a0⟩:∃ q,q=(frsOf x).tx:=⟨_,rfl⟩
  obtain ⟨pC,aI⟩:∃ q,q=x.frags.all Dq.frG:=⟨_,rfl⟩
  rw[← a0] at hlC ⊢
  rw[← aI]
  have cv:=QA a0
  have a9:=QA aI
  have bp:=QA (ce.out.trans (hb9.mono ce.out.size))
  have ar:=QA (an.out.trans (hb9.mono an.out.size))
  have b9:=QA (bb.out.below hb9)
  have cJ:3≤w9.heap.size:=by have:=hb9.size;omega
  clear hb9 a0 aI H J M I bo
  have aT:Calls Tryz.prog 19 #[.agg #[.slice none 0 0,.slice b2 y.frags.length d2]] w9 (fun e w'=>Below w9.heap.size w9 w'∧(frsOf y).tx.length≤700000000000∧e=.returned (.tuple #[.string ⟨(frsOf y).tx.toArray⟩,.bool ((frsOf y).good||decide ((frsOf y).ops.length+(frsOf y).frags.length=0))])):=partText_any (frsOf y) (frsOf_fine X.out) none b2 0 d2 w9 b9.out cJ (.obj (.cons (.seq .nil) (.cons (cb.out.to (Stands.below ar.out)) .nil)))
  rw[frsOf_p y] at aT
  have bs:=QA aT
  obtain ⟨H,J,M,I⟩:=L.out w9 ar.out
  clear aT
  go_wp2_with fail
  refine bs.out.mono ?_
  rintro e w10 ⟨hb10,hlD,rfl⟩
  obtain ⟨tD,aV⟩:∃ q,q=(frsOf y).tx:=⟨_,rfl⟩
  obtain ⟨pD,aL⟩:∃ q,q=y.frags.all Dq.frG:=⟨_,rfl⟩
  rw[← aV] at hlD ⊢
  rw[← aL]
  have cS:=QA aV
  have bk:=QA aL
  have bF:=QA (bp.out.trans (hb10.mono bp.out.size))
  have cj:=QA (ar.out.trans (hb10.mono ar.out.size))
  have c9:=QA (b9.out.below hb10)
  have c8:3≤w10.heap.size:=by have:=hb10.size;omega
  clear hb10 aV aL H J M I bs
  have D:w10.heap[z]?=_:=(bF.out.block z (block_lt aM.out)).trans aM.out
  obtain ⟨t0,t1⟩:=blk2 D rfl rfl
  have B:Hid (Below w.heap.size w w10):=QA (U.out.trans (cj.out.mono U.out.size))
  clear D
  have Q:(both x y).ops.length=x.ops.length+y.ops.length:=QT
  have T:(both x y).frags.length=x.frags.length+y.frags.length:=QT
  have aJ:=both_good x y
  rw[Q,T,← cm.out,← bw.out,← a9.out,← bk.out] at aJ
  have ab:=QA aJ
  clear Q T aJ
  by_cases hn0:x.ops.length+y.ops.length+(x.frags.length+y.frags.length)=0
  ·have bE:(both x y).good=false:=by rw[ab.out,hn0];rfl
   have cc:x.ops.length=0:=by omega
   have bS:y.ops.length=0:=by omega
   have b3:x.frags.length=0:=by omega
   have bO:y.frags.length=0:=by omega
   rcases bK.out with ⟨h,-⟩|⟨-,-,rfl,rfl⟩
   ·rw[bE] at h;cases h
   rw[cc,bS] at t0
   rw[b3,bO] at t1
   clear bE cc bS b3 bO hn0
   go_wp2_with fail
   go_ret
   exact ⟨rfl,B.out⟩
  obtain ⟨nn,a7⟩:∃ q,q=x.ops.length+y.ops.length:=⟨_,rfl⟩
  obtain ⟨mm,b0⟩:∃ q,q=x.frags.length+y.frags.length:=⟨_,rfl⟩
  have dz:nn≤1000:=by omega
  have dx:mm≤1000:=by omega
  rw[← a7] at t0 hn0 ab
  rw[← b0] at t1 hn0 ab
  have e0:(((nn:Int)+(mm:Int))==0)=false:=beq_eq_false_iff_ne.2 (by omega)
  have aD:Hid (decide (0<nn+mm)=true):=QA (decide_eq_true (by omega))
  clear a7 b0 hn0
  rcases bK.out with ⟨hg,hl,ht,rfl⟩|⟨hg,-,rfl,rfl⟩
  ·have bZ:pA=true∧pB=true∧pC=true∧pD=true:=by
    rw[ab.out,aD.out] at hg
    simpa using hg
   obtain ⟨rfl,rfl,rfl,rfl⟩:=bZ
   have dj:tt=((tA++tB)++tC)++tD:=by
    rw[ht,both_txt,cw.out,cC.out,cv.out,cS.out,opsOf_t cm.out.symm,opsOf_t bw.out.symm,frsOf_t a9.out.symm,frsOf_t bk.out.symm]
    simp
   have hq:(tA++(tB++(tC++tD))==((⟨tA.toArray⟩:ByteArray)++⟨tB.toArray⟩++⟨tC.toArray⟩++⟨tD.toArray⟩).toList)=true:=by
    rw[Lib.toList_data,ByteArray.data_append,ByteArray.data_append,ByteArray.data_append,Array.toList_append,Array.toList_append,Array.toList_append]
    simp
   clear ht hg
   go_wp2_with fail
   go_ret
   exact ⟨rfl,B.out⟩
  ·rw[ab.out,aD.out] at hg
   have HG:=QA hg
   clear hg
   cases pA
   ·go_wp2_with fail
    go_ret
    exact ⟨rfl,B.out⟩
   cases pB
   ·go_wp2_with fail
    go_ret
    exact ⟨rfl,B.out⟩
   cases pC
   ·go_wp2_with fail
    go_ret
    exact ⟨rfl,B.out⟩
   cases pD
   ·go_wp2_with fail
    go_ret
    exact ⟨rfl,B.out⟩
   ·exact absurd HG.out (by decide)
end Go.Proofs.YtefjgpkpplkkgaaGreatDoor
