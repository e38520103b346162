/-
  'Doc' of package show, walked. The document of 'awake' of the shows' law, read plain. 'ShowOne', walked.
-/
import Derived.Test.YtefjgpkpplkkgaaGreatDoorZo30
import Derived.Test.YtefjgpkpplkkgaaGreatDoorZo20
import Derived.Test.YtefjgpkpplkkgaaGreatDoorZo25
import Derived.Test.YtefjgpkpplkkgaaGreatDoorZo26
import Derived.Test.YtefjgpkpplkkgaaGreatDoorZo28
open Go.Lib renaming hid → QA
open List renaming length_cons → QO, length_nil → QS, mem_of_getElem? → ZE, take_length → ZI, getElem?_eq_getElem → ZL, all_cons → JA
open Nat renaming le_refl → QM, le_trans → QR, add_zero → ZC
namespace Go.Proofs.YtefjgpkpplkkgaaGreatDoor
set_option maxRecDepth 100000
set_option maxHeartbeats 4000000
set_option linter.unusedSimpArgs false
set_option linter.unusedVariables false
open Go Go.RowKit
theorem N6 (k:Int):Dq.word k≠[]:=by
 unfold Dq.word
 repeat' split
 all_goals simp
theorem NU {x:Dq.Doc} (h:x.good=true):x.txt≠[]:=by
 unfold Dq.Doc.good at h;rw[Bool.and_eq_true,decide_eq_true_iff]at h;unfold Dq.Doc.txt;intro e;rw[List.append_eq_nil_iff]at e;cases ho:x.ops with
 | cons y r =>
  rw[ho,List.flatMap_cons,List.append_eq_nil_iff]at e;have:=e.1.1;unfold Dq.opT at this;exact N6 _ (List.append_eq_nil_iff.1 this).1
 | nil =>
  cases hf:x.frags with
  | cons y r =>
   rw[hf,List.flatMap_cons,List.append_eq_nil_iff]at e;have:=e.2.1;unfold Dq.frT at this;simp at this
  | nil=>rw[ho,hf]at h;simp at h
def Dq.Doc.fine (x:Dq.Doc):Prop:=(x.ops.length≤1000000000∧x.frags.length≤1000000000)∧(Vl.sumC Dq.opC 0 x.ops≤300000000000∧Vl.sumC Dq.frC 0 x.frags≤300000000000) ∧
 (∀y∈x.ops,Vl.sumC Dq.varC 2 y.vars≤1000000000∧Dq.dirsC y.dirs≤1000000000∧Dq.Sel.costs y.sels≤1000000000)∧(∀y∈x.frags,Dq.dirsC y.dirs≤1000000000∧Dq.Sel.costs y.sels≤1000000000)
theorem PX (w:World) (c:Array Value) (T:TypeId):WW w (w.heap.size+1) ⟨[],false⟩ ((w.alloc (.cells c T)).alloc (.cells #[.pointer none,.slice none 0 0,.bool false] 104)):=by
 refine⟨⟨by omega,.pointer none,.slice none 0 0,.inl rfl,B0 w _ _ _ _,World.ownsRowF_nil _ _ _ _,by simp[Value.ownBlock]⟩,((Below.refl _ _).alloc (QM _) _).alloc (by simp) _⟩
theorem Ck (x:Dq.Doc) (hfine:x.fine) (a1 a2:Option Addr) (c1 c2:Nat) (w:World) (hE:Env w) (h3:3≤w.heap.size) (hR:Reads w (λ_=>True) x.d [.slice a1 x.ops.length c1,.slice a2 x.frags.length c2]) :
  Calls Tryz.prog 20 #[.agg #[.slice a1 x.ops.length c1,.slice a2 x.frags.length c2]] w (λe w'=>Below w.heap.size w w'∧((x.good=true∧x.txt.length≤700000000000∧e=.returned (.tuple #[.string ⟨x.txt.toArray⟩,.int .i64 0]))∨(x.good=false∧e=.returned (.tuple #[.string ⟨#[]⟩,.int .i64 2])))):=by
 obtain⟨⟨dr,de⟩,⟨c9,dd⟩,bu,bd⟩:=hfine;obtain⟨y1,y2,u1,u2,ex,bn,bw⟩:=Dq.Doc.opened hR;obtain⟨rfl,rfl,rfl,rfl⟩:a1=y1∧c1=u1∧a2=y2∧c2=u2:=by simpa [and_assoc] using ex
 clear ex hR;obtain⟨b,hb⟩:∃q,q=w.heap.size+1:=⟨_,rfl⟩
 obtain⟨wb,U⟩:∃q,q=(w.alloc (.cells #[.slice a1 x.ops.length c1,.slice a2 x.frags.length c2] 43)).alloc (.cells #[.pointer none,.slice none 0 0,.bool false] 104):=⟨_,rfl⟩
 have H0:Hid (WW w b ⟨[],false⟩ wb):=by rw[U,hb];exact QA (PX w _ _)
 have aW:Hid (wb.heap[w.heap.size]?=some (.cells #[.slice a1 x.ops.length c1,.slice a2 x.frags.length c2] 43 (0,0))):=by rw[U];exact QA (EC w _ _ _ _)
 have bx:w.heap.size≠b:=by omega
 have E0:=QA (Vl.Eff.refl ⟨[],false⟩);have O0:=QA (Lib.OthersKept.refl 5 (some b) wb);have Z0:=QA (QM wb.heap.size);have bU:=QA bn;have cw:=QA bw;have HE:=QA hE;have b1:=QA bu;have cg:=QA bd;have bR:=QA U;have HB:=QA hb;obtain⟨q,hq⟩:∃q,decide ((0:Int)<(x.ops.length:Int)+(x.frags.length:Int))=q:=⟨_,rfl⟩
 have HQ:Hid (decide (0<x.ops.length+x.frags.length)=q):=QA (by rw[← hq,decide_eq_decide];omega);have bq:=QA (Vl.cds_sum x.ops Dq.opC 0);have bf:=QA (Vl.cds_sum x.frags Dq.frC 0);clear bn bw hE bu bd U hb;go_enter Tryz.func20,Tryz.ntmps20;obtain⟨aU,a4⟩:=EY aW.out rfl rfl;go_wp2_with fail;rw[← bR.out,← HB.out];refine (H0.out.need q).mono ?_;rintro e w1 ⟨rfl,s1,h,e,o,z⟩;have H1:=QA h;have cY:s1.out.length≤0:=e.len;have E1:=QA e;have O1:=QA o;have Z1:=QA z;have bS:=QA (AD o aW.out bx (by decide));clear aU a4 h e o z;obtain⟨a0,aV⟩:=EY bS.out rfl rfl;go_wp2_with fail;clear a0 aV
 go_loopg [21] (x.ops.length+1) (λk i wr=>∃(j:Nat) (M:Vl.Sh),k=x.ops.length+1-j∧j≤x.ops.length∧i=.int .i64 j∧WW w b M wr∧Vl.Eff ⟨[],false⟩ (q&&Vl.gds (Vl.ats x.ops Dq.opG true) j) (Vl.tds (Vl.ats x.ops Dq.opT []) [] j) (Vl.cds (Vl.ats x.ops Dq.opC 0) 0 j) M∧OK8 b wb wr)
 case atStart=>exact⟨0,s1,rfl,Nat.zero_le _,rfl,H1.out,E1.out.to (by rw[Vl.gds,Bool.and_true]) (λ_=>by rw[Vl.tds]) (Nat.zero_le _),O1.out⟩
 case round =>
  obtain⟨j,M,O,hj,rfl,J,e1,o1⟩:=hrel;have HK:=QA O;have cp:M.out.length≤0+Vl.cds (Vl.ats x.ops Dq.opC 0) 0 j:=e1.len;have H2:=QA J;have E2:=QA e1;have O2:=QA o1;have bF:=QA (AD o1 aW.out bx (by decide));clear O J e1 o1;by_cases hjn:j<x.ops.length
  ·have e5:decide (j<x.ops.length)=true:=decide_eq_true hjn;obtain⟨y,P⟩:∃y,x.ops[j]?=some y:=⟨x.ops[j],ZL hjn⟩
   have aT:=Vl.cds_le (Vl.ats x.ops Dq.opC 0) 0 hjn;have bV:Vl.cds (Vl.ats x.ops Dq.opC 0) 0 x.ops.length=Vl.sumC Dq.opC 0 x.ops:=by rw[bq.out _ (QM _),ZI]
   rw[Vl.ats_some P]at aT;have cx:=b1.out y (ZE P);obtain⟨g,C,cs,ha,-,B,N,A,hd⟩:=bU.out.el j y.d (by rw[List.getElem?_map,P];rfl);obtain⟨v1,v2,v4,m1,m2,m4,rfl,-⟩:=Dq.Op.opened hd;subst ha;have k0:wr.cell? ⟨g,C+j*6,none⟩=_:=(H2.out.bel.cell (p:=⟨g,C+j*6,none⟩) B).trans (A 0 _ rfl);have k1:wr.cell? ⟨g,C+j*6+1,none⟩=_:=(H2.out.bel.cell (p:=⟨g,C+j*6+1,none⟩) B).trans (A 1 _ rfl);have k2:wr.cell? ⟨g,C+j*6+2,none⟩=_:=(H2.out.bel.cell (p:=⟨g,C+j*6+2,none⟩) B).trans (A 2 _ rfl);have k3:wr.cell? ⟨g,C+j*6+3,none⟩=_:=(H2.out.bel.cell (p:=⟨g,C+j*6+3,none⟩) B).trans (A 3 _ rfl);have k4:wr.cell? ⟨g,C+j*6+4,none⟩=_:=(H2.out.bel.cell (p:=⟨g,C+j*6+4,none⟩) B).trans (A 4 _ rfl);have k5:wr.cell? ⟨g,C+j*6+5,none⟩=_:=(H2.out.bel.cell (p:=⟨g,C+j*6+5,none⟩) B).trans (A 5 _ rfl);have HC:=QA (N5 w b HE.out h3 y v1 v2 v4 m1 m2 m4 hd (by omega) cx M _ (H2.out.alloc (.cells #[.int .i64 y.kind,.string ⟨y.name.toArray⟩,.slice v1 y.vars.length m1,.slice v2 y.dirs.length m2,.slice v4 y.sels.length m4,.int .i64 y.at_] 96)) (by omega));have HX:=QA P;clear P hd A N B;go_wp2_with fail;refine HC.out.mono ?_;rintro e w3 ⟨rfl,s3,h,e,o,z⟩;have H3:=QA h;have E3:Hid (Vl.Eff ⟨[],false⟩ (q&&Vl.gds (Vl.ats x.ops Dq.opG true) (j+1)) (Vl.tds (Vl.ats x.ops Dq.opT []) [] (j+1)) (Vl.cds (Vl.ats x.ops Dq.opC 0) 0 (j+1)) s3):=QA ((E2.out.comp e).to (by rw[Vl.gds,Vl.ats_some HX.out,Bool.and_assoc]) (λ_=>by rw[Vl.tds,Vl.ats_some HX.out];simp) (by rw[Vl.cds,Vl.ats_some HX.out];omega));have O3:=QA (O2.out.trans (Bb o));clear h e o z HC k0 k1 k2 k3 k4 k5;go_wp2_with fail;go_roundg (x.ops.length+1-(j+1))
   case measure=>rw[HK.out];omega
   case rel=>exact⟨j+1,s3,rfl,hjn,by go_num,H3.out,E3.out,O3.out⟩
  have e5:decide (j<x.ops.length)=false:=decide_eq_false hjn;obtain rfl:j=x.ops.length:=by omega
  have E4:Hid (Vl.Eff ⟨[],false⟩ (q&&x.ops.all Dq.opG) (x.ops.flatMap Dq.opT) (Vl.sumC Dq.opC 0 x.ops) M):=QA (E2.out.to (by rw[Vl.gds_all x.ops _ _ (QM _),ZI]) (λ_=>by rw[Vl.tds_join x.ops _ _ _ (QM _),ZI,Cb]) (by rw[bq.out _ (QM _),ZI];exact QM _));have cK:M.out.length≤Vl.sumC Dq.opC 0 x.ops:=by have:=E4.out.len;simpa using this
  clear E2 cp;obtain⟨b5,cB⟩:=EY bF.out rfl rfl;go_wp2_with fail;clear b5 cB
  go_loopg [31] (x.frags.length+1) (λk i wq=>∃(j:Nat) (s4:Vl.Sh),k=x.frags.length+1-j∧j≤x.frags.length∧i=.int .i64 j∧WW w b s4 wq∧Vl.Eff M (Vl.gds (Vl.ats x.frags Dq.frG true) j) (Vl.tds (Vl.ats x.frags Dq.frT []) [] j) (Vl.cds (Vl.ats x.frags Dq.frC 0) 0 j) s4∧OK8 b wb wq∧True)
  case atStart=>exact⟨0,M,rfl,Nat.zero_le _,rfl,H2.out,Vl.Eff.refl M,O2.out,trivial⟩
  case round =>
   obtain⟨j,a3,O,hj,rfl,J,e1,o1,z1⟩:=hrel;have ca:=QA O;have dg:=e1.len;clear O;by_cases hjn:j<x.frags.length;rotate_left
   ·have e6:decide (j<x.frags.length)=false:=decide_eq_false hjn;obtain rfl:j=x.frags.length:=by omega
    have H5:=QA J;have E5:Hid (Vl.Eff ⟨[],false⟩ x.good x.txt (Vl.sumC Dq.opC 0 x.ops+Vl.sumC Dq.frC 0 x.frags) a3):=QA ((E4.out.comp e1).to (by rw[Vl.gds_all x.frags _ _ (QM _),ZI];unfold Dq.Doc.good;rw[HQ.out,Bool.and_assoc]) (λ_=>by rw[Vl.tds_join x.frags _ _ _ (QM _),ZI,Cb];rfl) (by rw[bf.out _ (QM _),ZI];exact QM _));obtain⟨bp,a5⟩:=E5.out.done;have cF:=QA bp;have cy:=QA a5;have cJ:Hid (x.good=true→x.txt.length≤700000000000):=QA (λhg=>by
     have:=E5.out.len;rw[a5 hg]at this;simp only[QS,Nat.zero_add]at this;omega)
    clear J e1 o1 z1 bp a5;have aR:Hid (Calls Tryz.prog 56 #[.pointer (some ⟨b,0,none⟩)] wr (λe w'=>Below w.heap.size wr w'∧((x.good=true∧e=.returned (.tuple #[.string ⟨x.txt.toArray⟩,.int .i64 0]))∨(x.good=false∧e=.returned (.tuple #[.string ⟨#[]⟩,.int .i64 2]))))):=by
     have aY:=H5.out.badCell;rw[cF.out]at aY;cases hg:x.good
     ·rw[hg]at aY;refine QA ?_;clear hg;go_enter Tryz.func56,Tryz.ntmps56;go_wp2_with fail;go_ret2;exact⟨Below.refl _ _,.inr ⟨by first|trivial|rfl,rfl⟩⟩
     ·rw[hg]at aY;have aZ:=H5.out.wh;rw[cy.out hg]at aZ;have cf:=QA aZ;have cG:=QA (NU hg);refine QA ?_;clear hg aZ;go_enter Tryz.func56,Tryz.ntmps56;go_wp2_with fail;refine (Mr _ b _ _ _ cf.out cG.out).mono ?_;rintro e w6 ⟨rfl,hb6⟩;have ae:=QA hb6;clear hb6;go_wp2_with fail;go_ret2;exact⟨ae.out,.inl ⟨by first|trivial|rfl,rfl⟩⟩
    go_wp2_with fail;refine aR.out.mono ?_;rintro e w6 ⟨hb6,hres⟩;have ae:=QA (H5.out.bel.trans hb6);clear hb6 aR;rcases hres with⟨hg,rfl⟩|⟨hg,rfl⟩
    ·have HG:=QA hg;clear hg;go_wp2_with fail;go_ret2;exact⟨ae.out,.inl ⟨HG.out,cJ.out HG.out,rfl⟩⟩
    ·have HG:=QA hg;clear hg;go_wp2_with fail;go_ret2;exact⟨ae.out,.inr ⟨HG.out,rfl⟩⟩
   have e6:decide (j<x.frags.length)=true:=decide_eq_true hjn;obtain⟨y,P⟩:∃y,x.frags[j]?=some y:=⟨x.frags[j],ZL hjn⟩
   have aT:=Vl.cds_le (Vl.ats x.frags Dq.frC 0) 0 hjn;have bV:Vl.cds (Vl.ats x.frags Dq.frC 0) 0 x.frags.length=Vl.sumC Dq.frC 0 x.frags:=by rw[bf.out _ (QM _),ZI]
   rw[Vl.ats_some P]at aT;have c0:Dq.frC y=20+y.name.length+y.on.length+Dq.dirsC y.dirs+Dq.Sel.costs y.sels:=rfl;have c3:=B8 y.dirs;obtain⟨cL,cR⟩:=cg.out y (ZE P);obtain⟨g,C,cs,ha,-,B,N,A,hd⟩:=cw.out.el j y.d (by rw[List.getElem?_map,P];rfl);obtain⟨v2,v4,m2,m4,rfl,bj,bv⟩:=Dq.Fr.opened hd;subst ha;have b6:=QA bj;have cm:=QA bv;obtain⟨bo,ct⟩:∃q,(y.name==[111,110])=q:=⟨_,rfl⟩
   have bT:Hid (decide (y.name≠[111,110])=!bo):=QA (by rw[← ct];by_cases h:y.name=[111,110]<;>simp[h]);have k0:wr.cell? ⟨g,C+j*5,none⟩=_:=(J.bel.cell (p:=⟨g,C+j*5,none⟩) B).trans (A 0 _ rfl);have k1:wr.cell? ⟨g,C+j*5+1,none⟩=_:=(J.bel.cell (p:=⟨g,C+j*5+1,none⟩) B).trans (A 1 _ rfl);have k2:wr.cell? ⟨g,C+j*5+2,none⟩=_:=(J.bel.cell (p:=⟨g,C+j*5+2,none⟩) B).trans (A 2 _ rfl);have k3:wr.cell? ⟨g,C+j*5+3,none⟩=_:=(J.bel.cell (p:=⟨g,C+j*5+3,none⟩) B).trans (A 3 _ rfl);have k4:wr.cell? ⟨g,C+j*5+4,none⟩=_:=(J.bel.cell (p:=⟨g,C+j*5+4,none⟩) B).trans (A 4 _ rfl);obtain⟨wc,K⟩:∃q,q=wr.alloc (.cells #[.string ⟨y.name.toArray⟩,.string ⟨y.on.toArray⟩,.slice v2 y.dirs.length m2,.slice v4 y.sels.length m4,.int .i64 y.at_] 102):=⟨_,rfl⟩
   have bE:Hid (WW w b a3 wc):=by rw[K];exact QA (J.alloc _)
   have cc:Hid (OK8 b wb wc):=by rw[K];exact QA (o1.alloc _)
   have cz:=QA (QM wc.heap.size);have bA:=QA e1;have L:Hid (wc.heap[wr.heap.size]?=some (.cells #[.string ⟨y.name.toArray⟩,.string ⟨y.on.toArray⟩,.slice v2 y.dirs.length m2,.slice v4 y.sels.length m4,.int .i64 y.at_] 102 (0,0))):=by rw[K];exact QA (Bf wr _ _)
   have D:wr.heap.size≠b:=by have:=J.lt;omega
   have c6:wr.heap.size+1=wc.heap.size:=by rw[K];simp
   have cC:=QA K;have HX:=QA P;clear J e1 o1 z1 K P hd bj bv A N B;obtain⟨G,H,I,E,F⟩:=BD L.out rfl rfl rfl rfl rfl;go_wp2_with fail;rw[← cC.out];obtain⟨G,H,I,E,F⟩:=BD L.out rfl rfl rfl rfl rfl;go_wp2_with fail;refine (A8 w b a3 _ bE.out [102,114,97,103,109,101,110,116,32] (by show _+9≤_;omega)).mono ?_;rintro e w51 ⟨rfl,s51,h,e,o,z⟩;have bi:=e.len
   try simp only[QO,QS,ZC]at bi
   have cl:=QA h;have b0:=QA (bA.out.comp e);have cv:=QA (cc.out.trans o);have bX:=QA (QR cz.out z);have aO:=QA (AD o L.out D (by decide));clear G H I E F;clear h e o z;clear k0 k1 k2 k3 k4;obtain⟨af,aG,ay,Z,ah⟩:=BD aO.out rfl rfl rfl rfl rfl;go_wp2_with fail;refine (A1 w b s51 _ cl.out y.name (by omega)).mono ?_;rintro e w52 ⟨rfl,s52,h,e,o,z⟩;have be:=e.len
   try simp only[QO,QS,ZC]at be
   have b9:=QA h;have bO:=QA (b0.out.comp e);have bW:=QA (cv.out.trans o);have b8:=QA (QR bX.out z);have aL:=QA (AD o aO.out D (by decide));clear af aG ay Z ah;clear h e o z;obtain⟨aa,R,aA,aF,ag⟩:=BD aL.out rfl rfl rfl rfl rfl;go_wp2_with fail;refine (b9.out.need (!bo)).mono ?_;rintro e w53 ⟨rfl,s53,h,e,o,z⟩;have br:=e.len
   try simp only[QO,QS,ZC]at br
   have bL:=QA h;have bB:=QA (bO.out.comp e);have cr:=QA (bW.out.trans o);have bI:=QA (QR b8.out z);have aQ:=QA (AD o aL.out D (by decide));clear aa R aA aF ag;clear h e o z;obtain⟨ac,av,an,aH,ad⟩:=BD aQ.out rfl rfl rfl rfl rfl;go_wp2_with fail;refine (A8 w b s53 _ bL.out [32,111,110,32] (by show _+4≤_;omega)).mono ?_;rintro e w54 ⟨rfl,s54,h,e,o,z⟩;have bm:=e.len
   try simp only[QO,QS,ZC]at bm
   have ce:=QA h;have bK:=QA (bB.out.comp e);have bJ:=QA (cr.out.trans o);have ch:=QA (QR bI.out z);have aM:=QA (AD o aQ.out D (by decide));clear ac av an aH ad;clear h e o z;obtain⟨ai,al,Q,S,Y⟩:=BD aM.out rfl rfl rfl rfl rfl;go_wp2_with fail;refine (A1 w b s54 _ ce.out y.on (by omega)).mono ?_;rintro e w55 ⟨rfl,s55,h,e,o,z⟩;have bg:=e.len
   try simp only[QO,QS,ZC]at bg
   have co:=QA h;have bZ:=QA (bK.out.comp e);have bG:=QA (bJ.out.trans o);have bY:=QA (QR ch.out z);have aS:=QA (AD o aM.out D (by decide));clear ai al Q S Y;clear h e o z;obtain⟨aj,au,aE,W,ap⟩:=BD aS.out rfl rfl rfl rfl rfl;go_wp2_with fail;refine (CQ w b HE.out h3 y.dirs 0 (by omega) v2 m2 b6.out (by omega) (by omega) s55 _ co.out (by omega)).mono ?_;rintro e w56 ⟨rfl,s56,h,e,o,z⟩;have bs:=e.len
   try simp only[QO,QS,ZC]at bs
   have cb:=QA h;have cj:=QA (bZ.out.comp e);have cu:=QA (bG.out.trans o);have bP:=QA (QR bY.out z);have aN:=QA (AD o aS.out D (by decide));clear aj au aE W ap;clear h e o z;obtain⟨am,aw,aq,ak,aI⟩:=BD aN.out rfl rfl rfl rfl rfl;go_wp2_with fail;refine (A8 w b s56 _ cb.out [32] (by show _+1≤_;omega)).mono ?_;rintro e w57 ⟨rfl,s57,h,e,o,z⟩;have bh:=e.len
   try simp only[QO,QS,ZC]at bh
   have b7:=QA h;have cE:=QA (cj.out.comp e);have cD:=QA (cu.out.trans o);have bQ:=QA (QR bP.out z);have aP:=QA (AD o aN.out D (by decide));clear am aw aq ak aI;clear h e o z;obtain⟨T,aD,V,ab,az⟩:=BD aP.out rfl rfl rfl rfl rfl;go_wp2_with fail;refine (EB w b HE.out h3 16 0 rfl y.sels v4 m4 cm.out (by omega) s57 _ b7.out (by omega)).mono ?_;rintro e w58 ⟨rfl,s58,h,e,o,z⟩;have bl:=e.len
   try simp only[QO,QS,ZC]at bl
   have b3:=QA h;have cI:=QA (cE.out.comp e);have bD:=QA (cD.out.trans o);have bC:=QA (QR bQ.out z);have aK:=QA (AD o aP.out D (by decide));clear T aD V ab az;clear h e o z;obtain⟨ao,ax,X,aB,aC⟩:=BD aK.out rfl rfl rfl rfl rfl;go_wp2_with fail;refine (A8 w b s58 _ b3.out [10] (by show _+1≤_;omega)).mono ?_;rintro e w59 ⟨rfl,s59,h,e,o,z⟩;have bk:=e.len
   try simp only[QO,QS,ZC]at bk
   have bN:=QA h;have cA:=QA (cI.out.comp e);have cn:=QA (bD.out.trans o);have cZ:=QA (QR bC.out z);have cP:=QA (AD o aK.out D (by decide));clear ao ax X aB aC;clear h e o z;have EE:Hid (Vl.Eff M (Vl.gds (Vl.ats x.frags Dq.frG true) (j+1)) (Vl.tds (Vl.ats x.frags Dq.frT []) [] (j+1)) (Vl.cds (Vl.ats x.frags Dq.frC 0) 0 (j+1)) s59):=QA (cA.out.to (by rw[Vl.gds,Vl.ats_some HX.out];unfold Dq.frG;rw[bT.out];simp[Bool.and_assoc]) (λ_=>by rw[Vl.tds,Vl.ats_some HX.out];unfold Dq.frT;simp) (by rw[Vl.cds,Vl.ats_some HX.out];simp;omega));go_wp2_with fail;go_roundg (x.frags.length+1-(j+1))
   case measure=>rw[ca.out];omega
   case rel=>exact⟨j+1,s59,rfl,hjn,by go_num,bN.out,EE.out,cn.out,trivial⟩
def awL:List UInt8:=[123,97,40,98,58,49,41,123,46,46,46,70,125,125]
def awT:List Lx.Tok:=[⟨5,[123],0⟩,⟨1,[97],1⟩,⟨5,[40],2⟩,⟨1,[98],3⟩,⟨5,[58],4⟩,⟨2,[49],5⟩,⟨5,[41],6⟩,⟨5,[123],7⟩,⟨5,[46,46,46],8⟩,⟨1,[70],11⟩,⟨5,[125],12⟩,⟨5,[125],13⟩,⟨0,[],14⟩]
theorem Ob:Lx.lex awL=.ok awT:=by
 simp (decide:=true) [awL,Lx.lex,Lx.lexGo,Lx.gap,Lx.token,awT,Lx.isBlank,Lx.bom,Lx.isLetter,Lx.isDigit,Lx.isWord,Lx.number,Lx.hd,Lx.digits,Lx.numFrac,Lx.numExp,Lx.numEnd,Lx.quotes3,Lx.dots3,Lx.signs]
theorem Mz:Rd.begin_ awL=⟨awT,0,0,0⟩:=by unfold Rd.begin_;rw[Ob]
def N0 (a b c d e:Int):Dq.Op:=⟨1,[],[],[],[.mk 1 [] [97] [.mk [98] (.mk 2 [49] [] [] c) d] [] [.mk 2 [] [70] [] [] [] e] b],a⟩
theorem MQ:(Qr.parse awL).1.err=0∧((Qr.parse awL).2.1.length=1∧(Qr.parse awL).2.2=[])∧∃a b c d e,(Qr.parse awL).2.1.map Qr.Op.d=[(N0 a b c d e).d]:=by
 unfold Qr.parse;rw[Mz];exact⟨rfl,⟨rfl,rfl⟩,_,_,_,_,_,rfl⟩
def GY (a b c d e:Int):Dq.Doc:=⟨[N0 a b c d e],[]⟩
theorem P7:Vl.one [49] 2=true:=by
 have h:Lx.lex [49]=.ok [⟨2,[49],0⟩,⟨0,[],1⟩]:=by
  simp (decide:=true) [Lx.lex,Lx.lexGo,Lx.gap,Lx.token,Lx.isBlank,Lx.bom,Lx.isLetter,Lx.isDigit,Lx.isWord,Lx.number,Lx.hd,Lx.digits,Lx.numFrac,Lx.numExp,Lx.numEnd,Lx.quotes3,Lx.dots3,Lx.signs]
 unfold Vl.one;rw[h];rfl
theorem Ir (a b c d e:Int):(GY a b c d e).good=true:=by
 have o:(Vl.Z.mk 2 [49] [] [] c).good 0=true:=by
  rw[Vl.Z.good_eq];show (Vl.parts 2 0 0&&_)=true;rw[if_pos (by show (1:Int)≤2∧(2:Int)≤7;decide)];show (Vl.parts 2 0 0&&(Vl.leaf 2 [49]).1)=true;rw[show (Vl.leaf 2 [49]).1=Vl.one [49] 2 from rfl,P7];rfl
 have B:Dq.argsG 0 [.mk [98] (.mk 2 [49] [] [] c) d]=true:=by
  unfold Dq.argsG Dq.argG;simp only[JA,List.all_nil,Bool.and_true,Vl.ZA.name,Vl.ZA.v];have A:Dq.argsG 1 [.mk [98] (.mk 2 [49] [] [] c) d]=true:=by
   unfold Dq.argsG Dq.argG;simp only[JA,List.all_nil,Bool.and_true,Vl.ZA.name,Vl.ZA.v];rw[o];rfl
  rw[o];rfl
 have A:Dq.argsG 1 [.mk [98] (.mk 2 [49] [] [] c) d]=true:=by
  unfold Dq.argsG Dq.argG;simp only[JA,List.all_nil,Bool.and_true,Vl.ZA.name,Vl.ZA.v];rw[o];rfl
 unfold GY Dq.Doc.good N0 Dq.opG Dq.selsG;simp only[JA,List.all_nil,Dq.Sel.goods,Dq.Sel.good,A];rfl
theorem Lf (a b c d e:Int):(GY a b c d e).txt=[113,117,101,114,121,32,123,97,40,98,58,32,49,41,32,123,46,46,46,70,125,125,10]:=by
 kernel_rfl
theorem Il (a b c d e:Int):(GY a b c d e).fine:=by
 refine⟨⟨by show 1≤1000000000;decide,by show 0≤1000000000;decide⟩,⟨of_decide_eq_true (by kernel_rfl),of_decide_eq_true (by kernel_rfl)⟩,λy hy=>?_,λy hy=>by cases hy⟩;obtain rfl:=List.mem_singleton.1 hy;exact⟨of_decide_eq_true (by kernel_rfl),of_decide_eq_true (by kernel_rfl),of_decide_eq_true (by kernel_rfl)⟩
theorem DZ (w:World) (hE:Env w) (h3:3≤w.heap.size) :
  Calls Tryz.prog 17 #[] w (λe w'=>e=.returned (.bool true)∧Below w.heap.size w w'∧Env w'):=by
 have F:=QA hE;clear hE;go_enter Tryz.func17,Tryz.ntmps17;go_wp2_with fail;refine (JX ⟨awL.toArray⟩ w (by decide) F.out h3).mono ?_;rintro e w1 ⟨hb1,-,hres⟩;obtain⟨R,⟨G,I⟩,M,H,E,L,K,P⟩:=MQ;have O:(⟨awL.toArray⟩:ByteArray).data.toList=awL:=rfl;rw[O]at hres;rcases hres with⟨a1,a2,c1,c2,-,rfl,hro,hrf⟩|⟨h,-⟩;rotate_left
 ·exact absurd R h
 rw[G,I];rw[G,P]at hro;rw[I]at hrf;have C:=QA hb1;have J:=QA (F.out.below hb1);have T:3≤w1.heap.size:=by have:=hb1.size;omega
 obtain⟨N,A⟩:∃q,q=w1.alloc (.cells #[.slice a1 1 c1,.slice a2 0 c2] 43):=⟨_,rfl⟩
 have o:Below w1.heap.size w1 N:=by rw[A];exact (Below.refl _ _).alloc (QM _) _
 have V:Hid (Reads w1 (λ_=>True) (GY M H E L K).d [.slice a1 1 c1,.slice a2 0 c2]):=by
  have S:Reads w1 (λ_=>True) (.seq 6 [(N0 M H E L K).d]) [.slice a1 1 c1]:=hro.to ⟨QM _,λ_ _ _=>⟨trivial,rfl⟩⟩;have U:Reads w1 (λ_=>True) (.seq 5 []) [.slice a2 0 c2]:=hrf.to ⟨QM _,λ_ _ _=>⟨trivial,rfl⟩⟩;exact QA (.obj (.cons S (.cons U .nil)))
 have Q:=QA (Ck (GY M H E L K) (Il ..) a1 a2 c1 c2 N (J.out.below o) (by have:=o.size;omega) (V.out.to (AE.below o)));rw[A]at Q;have B:=QA (C.out.trans (o.mono C.out.size));rw[A]at B;clear hb1 hro hrf A o R G I P O;go_wp2_with fail;refine Q.out.mono ?_;rintro e w2 ⟨hb2,hres⟩;rcases hres with⟨-,-,rfl⟩|⟨h,-⟩;rotate_left
 ·rw[Ir]at h;cases h
 rw[Lf];have D:=QA (B.out.trans (hb2.mono B.out.size));clear hb2;go_wp2_with fail;refine bodyPost_ret (v:=.bool true) (by simp[results,Tryz.results17,go_sem]) rfl ?_;exact⟨rfl,D.out,F.out.below D.out⟩
theorem Ho {x:Dq.Doc} (h:x.sm):x.fine:=by
 obtain⟨H,L⟩:=Dq.docC_le h;obtain⟨⟨g1,g2⟩,M,F⟩:=h;have B:∀d s,Dq.smS d s→Dq.dirsC d≤1000000000∧Dq.Sel.costs s≤1000000000:=by
  rintro d s ⟨⟨o,A⟩,C,q4⟩;have J:=Dq.dirsC_le A;have I:=Dq.selsC_le s (Dq.Sel.sml_iff.2 q4);have O:=Nat.mul_le_mul_right 1330000 o;have N:=Nat.mul_le_mul_right 1330000 C;omega
 refine⟨⟨by omega,by omega⟩,⟨by omega,by omega⟩,λy hy=>?_,λy hy=>?_⟩
 ·obtain⟨⟨G,D⟩,K,E⟩:=g2 y hy;have:=Dq.sum_le (l:=y.vars) (f:=Dq.varC) (m:=2) (B:=1330000) (λz hz=>by
   obtain⟨o,A,-,C⟩:=D z hz;unfold Dq.varC;omega)
  have e:=Nat.mul_le_mul_right 1330000 G;exact⟨by omega,B _ _ E⟩
 ·exact B _ _ (F y hy).2.2
theorem showOne_any (x y:Dq.Doc) (fx:x.fits) (fy:y.fits) (a1 a2 b1 b2:Option Addr) (c1 c2 d1 d2:Nat) (w:World) (hE:Env w) (h3:3≤w.heap.size) (rx:Reads w (λ_=>True) x.d [.slice a1 x.ops.length c1,.slice a2 x.frags.length c2]) (ry:Reads w (λ_=>True) y.d [.slice b1 y.ops.length d1,.slice b2 y.frags.length d2]) :
  Calls Tryz.prog 5 #[.agg #[.slice a1 x.ops.length c1,.slice a2 x.frags.length c2],.agg #[.slice b1 y.ops.length d1,.slice b2 y.frags.length d2]] w (λe w'=>e=.returned (.bool true)∧Below w.heap.size w w'):=by
 obtain⟨X,A⟩:∃q,q=(w.alloc (.cells #[.slice a1 x.ops.length c1,.slice a2 x.frags.length c2] 43)).alloc (.cells #[.slice b1 y.ops.length d1,.slice b2 y.frags.length d2] 43):=⟨_,rfl⟩
 have G:Below w.heap.size w X:=by rw[A];exact ((Below.refl _ _).alloc (QM _) _).alloc (by simp) _
 have Z:X.heap[w.heap.size]?=some (.cells #[.slice a1 x.ops.length c1,.slice a2 x.frags.length c2] 43 (0,0)):=by rw[A];exact EC w _ _ _ _
 have Q:X.heap[w.heap.size+1]?=some (.cells #[.slice b1 y.ops.length d1,.slice b2 y.frags.length d2] 43 (0,0)):=by rw[A];exact B0 w _ _ _ _
 have aK:X.heap.size=w.heap.size+2:=by rw[A];simp
 have ac:=QA G;have ai:=QA (rx.to (AE.below G));have Y:=QA (ry.to (AE.below G));have av:=QA Z;have ao:=QA Q;have N:=DZ X (hE.below G) (by omega);rw[A]at N;have W:=QA N;have al:=QA A;have aA:=QA fx;have ap:=QA fy;clear N A G Z Q hE rx ry fx fy;go_enter Tryz.func5,Tryz.ntmps5;go_wp2_with fail;refine W.out.mono ?_;rw[← al.out];rintro e w1 ⟨rfl,hb1,hE1⟩;have R:=QA (ac.out.trans (hb1.mono ac.out.size));have az:=QA hE1;have L:=QA (ai.out.to (AE.below hb1));have ag:=QA (Y.out.to (AE.below hb1));have S:Hid (w1.heap[w.heap.size]?=_):=QA ((hb1.block w.heap.size (by omega)).trans av.out);have ak:Hid (w1.heap[w.heap.size+1]?=_):=QA ((hb1.block (w.heap.size+1) (by omega)).trans ao.out);have aG:=hb1.size;have o:=QA (Fp x aA.out a1 a2 c1 c2 w1 L.out);obtain⟨H,k1⟩:=EY S.out rfl rfl;clear hb1 hE1 W;go_wp2_with fail;refine o.out.mono ?_;rintro e w2 ⟨b,rfl,hb2,hf⟩;have I:=QA (R.out.trans (hb2.mono R.out.size));have ah:=QA (az.out.below hb2);have aa:=QA (L.out.to (AE.below hb2));have M:=QA (ag.out.to (AE.below hb2));have aq:Hid (w2.heap[w.heap.size]?=_):=QA ((hb2.block w.heap.size (by omega)).trans S.out);have ab:Hid (w2.heap[w.heap.size+1]?=_):=QA ((hb2.block (w.heap.size+1) (by omega)).trans ak.out);have aF:=hb2.size;have au:=QA hf;clear hb2 hf H k1 o;cases b
 ·go_wp2_with fail;refine (DZ w2 ah.out (by omega)).mono ?_;rintro e w3 ⟨rfl,hb3,hE3⟩;have D:=QA (I.out.trans (hb3.mono I.out.size));clear hb3 hE3;go_wp2_with fail;go_ret;exact⟨rfl,D.out⟩
 have o:=QA (Fp y ap.out b1 b2 d1 d2 w2 M.out);obtain⟨H,k1⟩:=EY ab.out rfl rfl;go_wp2_with fail;refine o.out.mono ?_;rintro e w3 ⟨b,rfl,hb3,hf⟩;have D:=QA (I.out.trans (hb3.mono I.out.size));have O:=QA (ah.out.below hb3);have K:=QA (aa.out.to (AE.below hb3));have ae:=QA (M.out.to (AE.below hb3));have af:Hid (w3.heap[w.heap.size]?=_):=QA ((hb3.block w.heap.size (by omega)).trans aq.out);have ax:Hid (w3.heap[w.heap.size+1]?=_):=QA ((hb3.block (w.heap.size+1) (by omega)).trans ab.out);have aI:=hb3.size;have an:=QA hf;clear hb3 hf H k1 o;cases b
 ·go_wp2_with fail;refine (DZ w3 O.out (by omega)).mono ?_;rintro e w4 ⟨rfl,hb4,hE4⟩;have E:=QA (D.out.trans (hb4.mono D.out.size));clear hb4 hE4;go_wp2_with fail;go_ret;exact⟨rfl,E.out⟩
 have C:=QA (Ho (au.out (by trivial)));have P:=QA (Ho (an.out (by trivial)));have B:=QA (Ck x C.out a1 a2 c1 c2 w3 O.out (by omega) K.out);obtain⟨H,k1⟩:=EY af.out rfl rfl;go_wp2_with fail;refine B.out.mono ?_;rintro e w4 ⟨hb4,hrx⟩;have E:=QA (D.out.trans (hb4.mono D.out.size));have aw:=QA (O.out.below hb4);have T:=QA (K.out.to (AE.below hb4));have J:=QA (ae.out.to (AE.below hb4));have ar:Hid (w4.heap[w.heap.size]?=_):=QA ((hb4.block w.heap.size (by omega)).trans af.out);have V:Hid (w4.heap[w.heap.size+1]?=_):=QA ((hb4.block (w.heap.size+1) (by omega)).trans ax.out);have aD:=hb4.size;clear hb4 H k1 B;have B:=QA (Ck y P.out b1 b2 d1 d2 w4 aw.out (by omega) J.out);obtain⟨H,k1⟩:=EY V.out rfl rfl;rcases hrx with⟨gx,-,rfl⟩|⟨-,rfl⟩
 ·go_wp2_with fail;refine B.out.mono ?_;rintro e w5 ⟨hb5,hry⟩;have F:=QA (E.out.trans (hb5.mono E.out.size));have ad:=QA (T.out.to (AE.below hb5));have U:=QA (J.out.to (AE.below hb5));have aj:Hid (w5.heap[w.heap.size]?=_):=QA ((hb5.block w.heap.size (by omega)).trans ar.out);have aB:Hid (w5.heap[w.heap.size+1]?=_):=QA ((hb5.block (w.heap.size+1) (by omega)).trans V.out);clear hb5 H k1 B;rcases hry with⟨gy,-,rfl⟩|⟨-,rfl⟩
  ·have HS:=QA (PM x y C.out.1 (λz hz=>λy'=>Qb z y' (by obtain⟨p1,p2,p3⟩:=C.out.2.2.1 z hz;exact⟨p1,p2,p3⟩)) (λz hz=>λy'=>Qj z y' (C.out.2.2.2 z hz)) a1 a2 b1 b2 c1 c2 d1 d2 w5 _ ad.out U.out);have ay:=QA (Dq.txt_same gx gy);obtain⟨H,k1⟩:=EY aj.out rfl rfl;obtain⟨k2,k3⟩:=EY aB.out rfl rfl;go_wp2_with fail;refine HS.out.mono ?_;rintro r w6 ⟨rfl,hb6⟩;have am:=QA (F.out.trans (hb6.mono F.out.size));clear hb6 H k1 k2 k3;go_wp2_with fail;go_ret;refine⟨?_,am.out⟩;show Ending.returned (.bool ((x.txt==y.txt)==x.same y))=_;have h:(x.txt==y.txt)=x.same y:=by rw[← ay.out];by_cases h:x.txt=y.txt<;>simp[h]
   rw[h];simp
  ·go_wp2_with fail;go_ret;exact⟨rfl,F.out⟩
 ·go_wp2_with fail;refine B.out.mono ?_;rintro e w5 ⟨hb5,hry⟩;have F:=QA (E.out.trans (hb5.mono E.out.size));clear hb5 H k1 B;rcases hry with⟨gy,-,rfl⟩|⟨-,rfl⟩
  ·go_wp2_with fail;go_ret;exact⟨rfl,F.out⟩
  ·go_wp2_with fail;go_ret;exact⟨rfl,F.out⟩
end Go.Proofs.YtefjgpkpplkkgaaGreatDoor
