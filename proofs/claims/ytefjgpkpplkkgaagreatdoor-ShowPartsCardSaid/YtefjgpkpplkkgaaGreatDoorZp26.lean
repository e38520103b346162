/-
  Few of package rubriclaw09, walked: what it lets by is small. Documents' texts, what is asked of them, and how much is put at most (plain). A region that draws its order: two rows put together of two pieces each, and a box, whatever comes first. The writer of documents: types, values, defaults, walked.
-/
import Derived.Test.YtefjgpkpplkkgaaGreatDoorZp25
import Derived.Test.YtefjgpkpplkkgaaGreatDoorZp4
import Derived.Test.YtefjgpkpplkkgaaGreatDoorZp5
import Derived.Test.YtefjgpkpplkkgaaGreatDoorZp22
import Derived.Deep.Upon
import Derived.Test.YtefjgpkpplkkgaaGreatDoorZp24
import Derived.Test.YtefjgpkpplkkgaaGreatDoorZp19
open Go.Lib renaming hid → QA
open List renaming mem_singleton → QB, mem_of_getElem? → ZC, getElem?_map → ZI, getElem?_eq_getElem → ZJ, mem_append → ZL
open Nat renaming le_refl → QM, zero_le → ZV
namespace Go.Proofs.YtefjgpkpplkkgaaGreatDoor
set_option linter.unusedSimpArgs false
set_option linter.unusedVariables false
open Go Go.RowKit
namespace Dq
def smV (x:Var):Prop:=x.name.length≤200∧x.type.length≤300∧x.dflt.vals≤400∧x.dflt.cost≤3300*400
def smS (d:List Dir) (s:List Sel):Prop:=(cntD d≤400∧∀ x∈d,smD x)∧(Sel.cntl s≤400∧∀ x∈s,x.sm)
def smO (x:Op):Prop:=(x.vars.length≤100∧∀ y∈x.vars,smV y)∧x.name.length≤200∧smS x.dirs x.sels
def smF (x:Fr):Prop:=x.name.length≤200∧x.on.length≤200∧smS x.dirs x.sels
def Doc.sm (x:Doc):Prop:=(x.ops.length≤100∧∀ y∈x.ops,smO y)∧(x.frags.length≤100∧∀ y∈x.frags,smF y)
end Dq
set_option maxHeartbeats 8000000 in
set_option maxRecDepth 100000 in
theorem dqFew_any (x:Dq.Doc) (hfit:x.fits) (a1 a2:Option Addr) (c1 c2:Nat) (w:World) (hR:Reads w (fun _=>True) x.d [.slice a1 x.ops.length c1,.slice a2 x.frags.length c2]) :
  Calls Tryz.prog 18 #[.agg #[.slice a1 x.ops.length c1,.slice a2 x.frags.length c2]] w (fun r w'=>∃ b:Bool,r=.returned (.bool b)∧Below w.heap.size w w'∧(b=true→x.sm)):=by
 obtain ⟨x1,x2,x3,x4,ex,aV,a8⟩:=Dq.Doc.opened hR
 obtain ⟨rfl,rfl,rfl,rfl⟩:a1=x1∧c1=x3∧a2=x2∧c2=x4:=by simpa [and_assoc] using ex
 clear ex hR
 obtain ⟨⟨bt,bd⟩,bG,aW⟩:=hfit
 unfold maxLen at bt bG
 obtain ⟨wb,ak⟩:∃ q,q=w.alloc (.cells #[.slice a1 x.ops.length c1,.slice a2 x.frags.length c2] 43):=⟨_,rfl⟩
 have aJ:Below w.heap.size w wb:=by rw[ak];exact (Below.refl _ _).alloc (QM _) _
 obtain ⟨w1,ad⟩:∃ q,q=wb.alloc (.cells #[.int .i64 400] 3):=⟨_,rfl⟩
 have ao:Below w.heap.size w w1:=by rw[ad];exact aJ.alloc aJ.size _
 have be:wb.heap.size=w.heap.size+1:=by rw[ak];simp
 have b8:w1.heap.size=w.heap.size+2:=by rw[ad];simp[be]
 have a5:w1.heap[w.heap.size+1]?=some (.cells #[.int .i64 400] 3 (0,0)):=by rw[ad,← be];exact heap_at_new _ _
 have bf:w1.heap[w.heap.size]?=some (.cells #[.slice a1 x.ops.length c1,.slice a2 x.frags.length c2] 43 (0,0)):=by rw[ad,Lib.alloc_old _ _ _ (by omega),ak];exact heap_at_new _ _
 obtain ⟨g,ah⟩:∃ g,g=w.heap.size+1:=⟨_,rfl⟩
 have aM:Stands w (fun _=>True) w1 (fun k=>k≠g):=⟨ao.size,fun k hk _=>⟨by omega,ao.block k hk⟩⟩
 have bs:=QA (aV.to aM)
 have bh:=QA (a8.to aM)
 have b4:=QA ao
 have aX:=QA bf
 have HG:Hid (OneI g 400 w1 w1):=QA ⟨But.refl _ _,by omega,by rw[ah];exact a5⟩
 have aP:=QA (ad.trans (by rw[ak]))
 have bz:=QA bd
 have bO:=QA aW
 have E:Hid (∀ (b:Bool) (L:Int) (w':World),OneI g L w1 w'→Below w.heap.size w w'):=QA (fun b L w' Y=>below_one ao Y (by omega))
 have ba:=QA ah
 clear aV a8 aM ao bf a5 ad ak aJ bd aW
 by_cases h20:100<x.ops.length
 ·have bF:decide ((100:Int)<(x.ops.length:Int))=true:=decide_eq_true (by omega)
  clear ah
  go_enter Tryz.func18,Tryz.ntmps18
  go_wp2_with fail
  go_ret
  exact ⟨false,rfl,by rw[← aP.out];exact E.out false 400 _ HG.out,fun h=>by cases h⟩
 have bF:decide ((100:Int)<(x.ops.length:Int))=false:=decide_eq_false (by omega)
 by_cases h21:100<x.frags.length
 ·have bC:decide ((100:Int)<(x.frags.length:Int))=true:=decide_eq_true (by omega)
  clear ah
  go_enter Tryz.func18,Tryz.ntmps18
  go_wp2_with fail
  go_ret
  exact ⟨false,rfl,by rw[← aP.out];exact E.out false 400 _ HG.out,fun h=>by cases h⟩
 have bC:decide ((100:Int)<(x.frags.length:Int))=false:=decide_eq_false (by omega)
 clear ah
 go_enter Tryz.func18,Tryz.ntmps18
 go_wp2_with fail
 rw[← aP.out]
 have aF:g≠w.heap.size:=by have:=ba.out;omega
 have a0:g=w.heap.size+1:=ba.out
 rw[← a0]
 have b6:w1.heap.size=g+1:=by omega
 clear a0
 go_loopg [23] (x.ops.length+1) (fun k i wr=>∃ (j:Nat) (X:Int),k=x.ops.length+1-j∧j≤x.ops.length∧i=.int .i64 j∧0≤X∧X≤400∧(∀ y∈x.ops.take j,Dq.smO y)∧OneI g X w1 wr)
 case atStart=>exact ⟨0,400,rfl,ZV _,rfl,by omega,by omega,by simp,HG.out⟩
 case round =>
  obtain ⟨j,X,hk,hj,rfl,S,Q,R,Y⟩:=hrel
  have HK:=QA hk
  have af:=QA R
  have M:=QA Y
  have aw:=Y.but.size
  have al:Hid (wr.heap[w.heap.size]?=_):=QA ((Y.but.block w.heap.size (by omega) (fun e=>aF e.symm)).trans aX.out)
  clear hk R Y
  by_cases hjl:j<x.ops.length
  ·have e6:decide (j<x.ops.length)=true:=decide_eq_true hjl
   obtain ⟨p,hp⟩:∃ z,x.ops[j]?=some z:=⟨x.ops[j],ZJ hjl⟩
   have HP:=QA hp
   have G:=QA (bz.out p (ZC hp))
   obtain ⟨F,o,cs,ha,D,C,J,A,hd⟩:=bs.out.el j p.d (by rw[ZI,hp];rfl)
   obtain ⟨s1,s2,s3,u1,u2,u3,rfl,bp,aT,aL⟩:=Dq.Op.opened hd
   have k0:wr.cell? ⟨F,o+j*6,none⟩=_:=(M.out.but.cell (p:=⟨F,o+j*6,none⟩) C D).trans (A 0 _ rfl)
   have k1:wr.cell? ⟨F,o+j*6+1,none⟩=_:=(M.out.but.cell (p:=⟨F,o+j*6+1,none⟩) C D).trans (A 1 _ rfl)
   have k2:wr.cell? ⟨F,o+j*6+2,none⟩=_:=(M.out.but.cell (p:=⟨F,o+j*6+2,none⟩) C D).trans (A 2 _ rfl)
   have k3:wr.cell? ⟨F,o+j*6+3,none⟩=_:=(M.out.but.cell (p:=⟨F,o+j*6+3,none⟩) C D).trans (A 3 _ rfl)
   have k4:wr.cell? ⟨F,o+j*6+4,none⟩=_:=(M.out.but.cell (p:=⟨F,o+j*6+4,none⟩) C D).trans (A 4 _ rfl)
   have k5:wr.cell? ⟨F,o+j*6+5,none⟩=_:=(M.out.but.cell (p:=⟨F,o+j*6+5,none⟩) C D).trans (A 5 _ rfl)
   subst ha
   obtain ⟨wn,H⟩:∃ q,q=wr.alloc (.cells #[.int .i64 p.kind,.string ⟨p.name.toArray⟩,.slice s1 p.vars.length u1,.slice s2 p.dirs.length u2,.slice s3 p.sels.length u3,.int .i64 p.at_] 96):=⟨_,rfl⟩
   have aI:wn.heap[g]?=some (.cells #[.int .i64 X] 3 (0,0)):=by rw[H,Lib.alloc_old _ _ _ (by omega)];exact M.out.cell
   have aq:wn.heap[wr.heap.size]?=some (.cells #[.int .i64 p.kind,.string ⟨p.name.toArray⟩,.slice s1 p.vars.length u1,.slice s2 p.dirs.length u2,.slice s3 p.sels.length u3,.int .i64 p.at_] 96 (0,0)):=by rw[H];exact heap_at_new _ _
   have bE:wn.heap.size=wr.heap.size+1:=by rw[H];simp
   have P:g≠wr.heap.size:=by omega
   have am:OneI g X w1 wn:=M.out.of_below (by rw[H];exact (Below.refl _ _).alloc (QM _) _)
   have aG:=QA aq
   have I:=QA am
   have O:=QA H
   clear hp J A H aI aq am hd
   have bo:p.name.length≤9223372036854775807:=G.out.2.1
   have bK:p.vars.length≤9223372036854775807:=G.out.2.2.1.1
   by_cases h22:100<p.vars.length
   ·have bu:decide ((100:Int)<(p.vars.length:Int))=true:=decide_eq_true (by omega)
    clear h22
    go_wp2_with fail
    go_ret
    exact ⟨false,rfl,by rw[← O.out];exact E.out false _ _ I.out,fun h=>by cases h⟩
   have bu:decide ((100:Int)<(p.vars.length:Int))=false:=decide_eq_false (by omega)
   by_cases h23:200<p.name.length
   ·have bn:decide ((200:Int)<(p.name.length:Int))=true:=decide_eq_true (by omega)
    clear h23
    go_wp2_with fail
    go_ret
    exact ⟨false,rfl,by rw[← O.out];exact E.out false _ _ I.out,fun h=>by cases h⟩
   have bn:decide ((200:Int)<(p.name.length:Int))=false:=decide_eq_false (by omega)
   have B:=QA (dqDirs_any p.dirs G.out.2.2.2.1.2 s2 u2 wn g X S Q (by have:=G.out.2.2.2.1.1;unfold maxLen at this;omega) I.out.cell (aT.to I.out.stands))
   rw[O.out] at B
   go_wp2_with fail
   refine B.out.mono ?_
   rw[← O.out]
   rintro r w2 ⟨b,L2,rfl,ho2,hl2,hle⟩
   have au:=QA hle
   have N:=QA (I.out.trans ho2)
   have T:Hid (w2.heap[wr.heap.size]?=_):=QA ((ho2.but.block wr.heap.size (by omega) (fun e=>P e.symm)).trans aG.out)
   have bR:=ho2.but.size
   clear hle ho2 B k0 k1 k2 k3 k4 k5
   cases b
   ·go_wp2_with fail
    go_ret
    exact ⟨false,rfl,E.out false _ _ N.out,fun h=>by cases h⟩
   obtain ⟨ac,aj,V⟩:=au.out (by trivial)
   have aN:=QA ac
   have aS:=QA V
   clear ac V
   have z4:=blk_cell T.out 4 (.slice s3 p.sels.length u3) rfl
   have B:=QA (fun dp=>dqSels_all _ p.sels (Nat.lt_succ_self _) G.out.2.2.2.2.2 s3 u3 w2 g L2 dp aj hl2 (by have:=G.out.2.2.2.2.1;unfold maxLen at this;omega) N.out.cell (aL.to N.out.stands))
   go_wp2_with fail
   refine (B.out _).mono ?_
   rintro r w3 ⟨b,L3,rfl,ho3,hl3,hle⟩
   have an:=QA hle
   have W:=QA (N.out.trans ho3)
   have ag:Hid (w3.heap[wr.heap.size]?=_):=QA ((ho3.but.block wr.heap.size (by omega) (fun e=>P e.symm)).trans T.out)
   have a4:=ho3.but.size
   clear hle ho3 B z4
   cases b
   ·go_wp2_with fail
    go_ret
    exact ⟨false,rfl,E.out false _ _ W.out,fun h=>by cases h⟩
   obtain ⟨aR,ap,U⟩:=an.out (by trivial)
   have aO:Hid (Dq.smS p.dirs p.sels):=QA ⟨⟨by have:=aN.out;omega,aS.out⟩,by omega,U⟩
   clear aR U
   have z2:=blk_cell ag.out 2 (.slice s1 p.vars.length u1) rfl
   have a3:=QA (bp.to W.out.stands)
   go_wp2_with fail
   clear z2
   obtain ⟨wq,Z⟩:∃ q,q=w3:=⟨_,rfl⟩
   rw[← Z]
   rw[← Z] at W a3 ag a4
   clear Z
   have bw:Hid (OneI g L3 wq wq):=QA ⟨But.refl _ _,by omega,W.out.cell⟩
   go_loopg [52] (p.vars.length+1) (fun k i wr=>∃ (j:Nat),k=p.vars.length+1-j∧j≤p.vars.length∧i=.int .i64 j∧(∀ y∈p.vars.take j,Dq.smV y)∧OneI g L3 wq wr)
   case atStart=>exact ⟨0,rfl,ZV _,rfl,by simp,bw.out⟩
   case round =>
    obtain ⟨i,hk,hi,rfl,R,Y⟩:=hrel
    have bD:=QA hk
    have aD:=QA R
    have K:=QA Y
    have az:=QA (W.out.trans Y)
    have bX:=Y.but.size
    clear hk R Y
    by_cases hil:i<p.vars.length
    ·have e7:decide (i<p.vars.length)=true:=decide_eq_true hil
     obtain ⟨q,hq⟩:∃ z,p.vars[i]?=some z:=⟨p.vars[i],ZJ hil⟩
     have HQ:=QA hq
     have aU:=QA (G.out.2.2.1.2 q (ZC hq))
     obtain ⟨F,o,cs,ha,D,C,J,A,hd⟩:=a3.out.el i q.d (by rw[ZI,hq];rfl)
     obtain ⟨r1,r2,v1,v2,rfl,bA⟩:=Dq.Var.opened hd
     have k0:wr.cell? ⟨F,o+i*9,none⟩=_:=(K.out.but.cell (p:=⟨F,o+i*9,none⟩) C D).trans (A 0 _ rfl)
     have k1:wr.cell? ⟨F,o+i*9+1,none⟩=_:=(K.out.but.cell (p:=⟨F,o+i*9+1,none⟩) C D).trans (A 1 _ rfl)
     have k2:wr.cell? ⟨F,o+i*9+2,none⟩=_:=(K.out.but.cell (p:=⟨F,o+i*9+2,none⟩) C D).trans (A 2 _ rfl)
     have k3:wr.cell? ⟨F,o+i*9+3,none⟩=_:=(K.out.but.cell (p:=⟨F,o+i*9+3,none⟩) C D).trans (A 3 _ rfl)
     have k4:wr.cell? ⟨F,o+i*9+4,none⟩=_:=(K.out.but.cell (p:=⟨F,o+i*9+4,none⟩) C D).trans (A 4 _ rfl)
     have k5:wr.cell? ⟨F,o+i*9+5,none⟩=_:=(K.out.but.cell (p:=⟨F,o+i*9+5,none⟩) C D).trans (A 5 _ rfl)
     have k6:wr.cell? ⟨F,o+i*9+6,none⟩=_:=(K.out.but.cell (p:=⟨F,o+i*9+6,none⟩) C D).trans (A 6 _ rfl)
     have k7:wr.cell? ⟨F,o+i*9+7,none⟩=_:=(K.out.but.cell (p:=⟨F,o+i*9+7,none⟩) C D).trans (A 7 _ rfl)
     have k8:wr.cell? ⟨F,o+i*9+8,none⟩=_:=(K.out.but.cell (p:=⟨F,o+i*9+8,none⟩) C D).trans (A 8 _ rfl)
     subst ha
     obtain ⟨aY,ai⟩:∃ z,z=wr.alloc (.cells #[.string ⟨q.name.toArray⟩,.string ⟨q.type.toArray⟩,.bool q.has,.int .i64 q.dflt.kind,.string ⟨q.dflt.text.toArray⟩,.slice r1 q.dflt.items.length v1,.slice r2 q.dflt.fields.length v2,.int .i64 q.dflt.at_,.int .i64 q.at_] 100):=⟨_,rfl⟩
     have ar:Below wr.heap.size wr aY:=by rw[ai];exact (Below.refl _ _).alloc (QM _) _
     have aa:=QA ar
     have ab:=QA ai
     have cc:q.name.length≤9223372036854775807:=aU.out.1
     have ac:q.type.length≤9223372036854775807:=aU.out.2.1
     have B:=QA (few_any q.dflt aU.out.2.2 r1 r2 v1 v2 aY ((bA.to (K.out.of_below ar).stands).to (Stands.sub _ (fun _ _ _=>trivial))))
     rw[ab.out] at B
     unfold zcells at B
     clear hq J A hd ai ar
     by_cases h24:200<q.name.length
     ·have bL:decide ((200:Int)<(q.name.length:Int))=true:=decide_eq_true (by omega)
      clear h24
      go_wp2_with fail
      go_ret
      exact ⟨false,rfl,by rw[← ab.out];exact E.out false _ _ (az.out.of_below aa.out),fun h=>by cases h⟩
     have bL:decide ((200:Int)<(q.name.length:Int))=false:=decide_eq_false (by omega)
     by_cases h25:300<q.type.length
     ·have bq:decide ((300:Int)<(q.type.length:Int))=true:=decide_eq_true (by omega)
      clear h25
      go_wp2_with fail
      go_ret
      exact ⟨false,rfl,by rw[← ab.out];exact E.out false _ _ (az.out.of_below aa.out),fun h=>by cases h⟩
     have bq:decide ((300:Int)<(q.type.length:Int))=false:=decide_eq_false (by omega)
     go_wp2_with fail
     refine B.out.mono ?_
     rw[← ab.out]
     rintro r w5 ⟨b,rfl,hb5,hle⟩
     have bb:=QA (aa.out.trans (hb5.mono aa.out.size))
     have bi:=QA hle
     clear hb5 hle B k0 k1 k2 k3 k4 k5 k6 k7 k8
     cases b
     ·go_wp2_with fail
      go_ret
      exact ⟨false,rfl,E.out false _ _ (az.out.of_below bb.out),fun h=>by cases h⟩
     have bv:Hid (Dq.smV q):=QA ⟨by omega,by omega,(bi.out (by trivial)).1,(bi.out (by trivial)).2⟩
     go_wp2_with fail
     go_roundg (p.vars.length+1-(i+1))
     case measure=>rw[bD.out];omega
     case rel=>exact ⟨i+1,rfl,hil,by go_num,take_mem HQ.out aD.out bv.out,K.out.of_below bb.out⟩
    ·have e7:decide (i<p.vars.length)=false:=decide_eq_false hil
     have bQ:Hid (Dq.smO p):=by
      have:=aD.out
      rw[List.take_of_length_le (by omega)] at this
      exact QA ⟨⟨by omega,this⟩,by omega,aO.out⟩
     go_wp2_with fail
     go_roundg (x.ops.length+1-(j+1))
     case measure=>rw[HK.out];omega
     case rel=>exact ⟨j+1,L3,rfl,hjl,by go_num,ap,hl3,take_mem HP.out af.out bQ.out,az.out⟩
  ·have e6:decide (j<x.ops.length)=false:=decide_eq_false hjl
   have bc:Hid (∀ y∈x.ops,Dq.smO y):=by
    have:=af.out
    rw[List.take_of_length_le (by omega)] at this
    exact QA this
   have y1:=blk_cell al.out 1 (.slice a2 x.frags.length c2) rfl
   have aE:=QA (bh.out.to M.out.stands)
   clear af
   go_wp2_with fail
   clear y1
   obtain ⟨wq,Z⟩:∃ q,q=wr:=⟨_,rfl⟩
   rw[← Z]
   rw[← Z] at al M aE aw
   clear Z
   have bP:=al
   go_loopg [77] (x.frags.length+1) (fun k i wr=>∃ (j:Nat) (X:Int),k=x.frags.length+1-j∧j≤x.frags.length∧i=.int .i64 j∧0≤X∧X≤400∧(∀ y∈x.frags.take j,Dq.smF y)∧OneI g X w1 wr)
   case atStart=>exact ⟨0,X,rfl,ZV _,rfl,S,Q,by simp,M.out⟩
   case round =>
    clear al HK M hj e6 hjl aw aE bP S Q
    obtain ⟨j,X,hk,hj,rfl,S,Q,R,Y⟩:=hrel
    have HK:=QA hk
    have af:=QA R
    have M:=QA Y
    have aw:=Y.but.size
    have al:Hid (wr.heap[w.heap.size]?=_):=QA ((Y.but.block w.heap.size (by omega) (fun e=>aF e.symm)).trans aX.out)
    clear hk R Y
    by_cases hjl:j<x.frags.length
    ·have e6:decide (j<x.frags.length)=true:=decide_eq_true hjl
     obtain ⟨p,hp⟩:∃ z,x.frags[j]?=some z:=⟨x.frags[j],ZJ hjl⟩
     have HP:=QA hp
     have G:=QA (bO.out p (ZC hp))
     obtain ⟨F,o,cs,ha,D,C,J,A,hd⟩:=bh.out.el j p.d (by rw[ZI,hp];rfl)
     obtain ⟨s2,s3,u2,u3,rfl,aT,aL⟩:=Dq.Fr.opened hd
     have k0:wr.cell? ⟨F,o+j*5,none⟩=_:=(M.out.but.cell (p:=⟨F,o+j*5,none⟩) C D).trans (A 0 _ rfl)
     have k1:wr.cell? ⟨F,o+j*5+1,none⟩=_:=(M.out.but.cell (p:=⟨F,o+j*5+1,none⟩) C D).trans (A 1 _ rfl)
     have k2:wr.cell? ⟨F,o+j*5+2,none⟩=_:=(M.out.but.cell (p:=⟨F,o+j*5+2,none⟩) C D).trans (A 2 _ rfl)
     have k3:wr.cell? ⟨F,o+j*5+3,none⟩=_:=(M.out.but.cell (p:=⟨F,o+j*5+3,none⟩) C D).trans (A 3 _ rfl)
     have k4:wr.cell? ⟨F,o+j*5+4,none⟩=_:=(M.out.but.cell (p:=⟨F,o+j*5+4,none⟩) C D).trans (A 4 _ rfl)
     subst ha
     obtain ⟨wn,H⟩:∃ q,q=wr.alloc (.cells #[.string ⟨p.name.toArray⟩,.string ⟨p.on.toArray⟩,.slice s2 p.dirs.length u2,.slice s3 p.sels.length u3,.int .i64 p.at_] 102):=⟨_,rfl⟩
     have aI:wn.heap[g]?=some (.cells #[.int .i64 X] 3 (0,0)):=by rw[H,Lib.alloc_old _ _ _ (by omega)];exact M.out.cell
     have aq:wn.heap[wr.heap.size]?=some (.cells #[.string ⟨p.name.toArray⟩,.string ⟨p.on.toArray⟩,.slice s2 p.dirs.length u2,.slice s3 p.sels.length u3,.int .i64 p.at_] 102 (0,0)):=by rw[H];exact heap_at_new _ _
     have bE:wn.heap.size=wr.heap.size+1:=by rw[H];simp
     have P:g≠wr.heap.size:=by omega
     have am:OneI g X w1 wn:=M.out.of_below (by rw[H];exact (Below.refl _ _).alloc (QM _) _)
     have aG:=QA aq
     have I:=QA am
     have O:=QA H
     clear hp J A H aI aq am hd
     have bo:p.name.length≤9223372036854775807:=G.out.1
     have bK:p.on.length≤9223372036854775807:=G.out.2.1
     by_cases h26:200<p.name.length
     ·have bB:decide ((200:Int)<(p.name.length:Int))=true:=decide_eq_true (by omega)
      clear h26
      go_wp2_with fail
      go_ret
      exact ⟨false,rfl,by rw[← O.out];exact E.out false _ _ I.out,fun h=>by cases h⟩
     have bB:decide ((200:Int)<(p.name.length:Int))=false:=decide_eq_false (by omega)
     by_cases h27:200<p.on.length
     ·have bH:decide ((200:Int)<(p.on.length:Int))=true:=decide_eq_true (by omega)
      clear h27
      go_wp2_with fail
      go_ret
      exact ⟨false,rfl,by rw[← O.out];exact E.out false _ _ I.out,fun h=>by cases h⟩
     have bH:decide ((200:Int)<(p.on.length:Int))=false:=decide_eq_false (by omega)
     have B:=QA (dqDirs_any p.dirs G.out.2.2.1.2 s2 u2 wn g X S Q (by have:=G.out.2.2.1.1;unfold maxLen at this;omega) I.out.cell (aT.to I.out.stands))
     rw[O.out] at B
     go_wp2_with fail
     refine B.out.mono ?_
     rw[← O.out]
     rintro r w2 ⟨b,L2,rfl,ho2,hl2,hle⟩
     have au:=QA hle
     have N:=QA (I.out.trans ho2)
     have T:Hid (w2.heap[wr.heap.size]?=_):=QA ((ho2.but.block wr.heap.size (by omega) (fun e=>P e.symm)).trans aG.out)
     have bR:=ho2.but.size
     clear hle ho2 B k0 k1 k2 k3 k4
     cases b
     ·go_wp2_with fail
      go_ret
      exact ⟨false,rfl,E.out false _ _ N.out,fun h=>by cases h⟩
     obtain ⟨ac,aj,V⟩:=au.out (by trivial)
     have aN:=QA ac
     have aS:=QA V
     clear ac V
     have z3:=blk_cell T.out 3 (.slice s3 p.sels.length u3) rfl
     have B:=QA (fun dp=>dqSels_all _ p.sels (Nat.lt_succ_self _) G.out.2.2.2.2 s3 u3 w2 g L2 dp aj hl2 (by have:=G.out.2.2.2.1;unfold maxLen at this;omega) N.out.cell (aL.to N.out.stands))
     go_wp2_with fail
     refine (B.out _).mono ?_
     rintro r w3 ⟨b,L3,rfl,ho3,hl3,hle⟩
     have an:=QA hle
     have W:=QA (N.out.trans ho3)
     have ag:Hid (w3.heap[wr.heap.size]?=_):=QA ((ho3.but.block wr.heap.size (by omega) (fun e=>P e.symm)).trans T.out)
     have a4:=ho3.but.size
     clear hle ho3 B z3
     cases b
     ·go_wp2_with fail
      go_ret
      exact ⟨false,rfl,E.out false _ _ W.out,fun h=>by cases h⟩
     obtain ⟨aR,ap,U⟩:=an.out (by trivial)
     have aO:Hid (Dq.smS p.dirs p.sels):=QA ⟨⟨by have:=aN.out;omega,aS.out⟩,by omega,U⟩
     clear aR U
     have bN:Hid (Dq.smF p):=QA ⟨by omega,by omega,aO.out⟩
     go_wp2_with fail
     go_roundg (x.frags.length+1-(j+1))
     case measure=>rw[HK.out];omega
     case rel=>exact ⟨j+1,L3,rfl,hjl,by go_num,ap,hl3,take_mem HP.out af.out bN.out,W.out⟩
    ·have e6:decide (j<x.frags.length)=false:=decide_eq_false hjl
     have aK:Hid (∀ y∈x.frags,Dq.smF y):=by
      have:=af.out
      rw[List.take_of_length_le (by omega)] at this
      exact QA this
     go_wp2_with fail
     go_ret
     exact ⟨true,rfl,E.out true _ _ M.out,fun _=>⟨⟨by omega,bc.out⟩,by omega,aK.out⟩⟩
end Go.Proofs.YtefjgpkpplkkgaaGreatDoor
namespace Go.Proofs.YtefjgpkpplkkgaaGreatDoor
set_option linter.unusedSimpArgs false
set_option linter.unusedVariables false
namespace Dq
def kindOk (t:List UInt8):Bool:=decide ((Vl.parseType t).1.err=0)&&decide ((Vl.parseType t).2=t)
def zero:Vl.Z:=.mk 0 [] [] [] 0
def gvG (has:Bool) (v:Vl.Z):Bool:=if has then v.good 0&&v.nov else v.same zero
def gvT (has:Bool) (v:Vl.Z):List UInt8:=if has then [32,61,32]++v.str else []
def argG (at_:Nat) (x:Vl.ZA):Bool:=(Lx.isName x.name&&x.v.good 0)&&decide (at_+x.v.dep≤16)
def argsG (at_:Nat) (l:List Vl.ZA):Bool:=l.all (argG at_)
def argsT (l:List Vl.ZA):List UInt8:=if l.length=0 then [] else [40]++(Vl.joinT Vl.ZA.str [44,32] true l++[41])
def argsC (l:List Vl.ZA):Nat:=2+Vl.sumC Vl.ZA.cost 2 l
def dirG (at_:Nat) (x:Dir):Bool:=Lx.isName x.name&&argsG at_ x.args
def dirT (x:Dir):List UInt8:=[32,64]++(x.name++argsT x.args)
def dirC (x:Dir):Nat:=2+x.name.length+argsC x.args
def dirsG (at_:Nat) (l:List Dir):Bool:=l.all (dirG at_)
def dirsT (l:List Dir):List UInt8:=l.flatMap dirT
def dirsC (l:List Dir):Nat:=Vl.sumC dirC 0 l
def nmT (n:List UInt8) (pre post:List UInt8):List UInt8:=if n=[] then [] else pre++(n++post)
def nmG (n:List UInt8):Bool:=decide (n=[])||Lx.isName n
mutual
def Sel.good:Nat→Sel→Bool
 | at_,.mk k al n a d s _ =>
  if k=1 then nmG al&&(Lx.isName n&&(argsG at_ a&&(dirsG at_ d&&(decide (s.length=0)||(decide (at_<16)&&Sel.goods (at_+1) s)))))
  else if k=2 then (Lx.isName n&&((decide (n≠[111,110])&&decide (s.length=0))&&dirsG at_ d))&&(decide (al=[])&&decide (a.length=0))
  else if k=3 then (nmG n&&(dirsG at_ d&&((decide (0<s.length)&&decide (at_<16))&&Sel.goods (at_+1) s)))&&(decide (al=[])&&decide (a.length=0))
  else false
def Sel.goods:Nat→List Sel→Bool
 | _,[]=>true
 | at_,x::r=>Sel.good at_ x&&Sel.goods at_ r
end
mutual
def Sel.txt:Sel→List UInt8
 | .mk k al n a d s _ =>
  if k=1 then nmT al [] [58,32]++(n++(argsT a++(dirsT d++(if s.length=0 then [] else [32]++([123]++(Sel.txts true s++[125]))))))
  else if k=2 then [46,46,46]++(n++dirsT d)
  else if k=3 then [46,46,46]++(nmT n [32,111,110,32] []++(dirsT d++([32]++([123]++(Sel.txts true s++[125])))))
  else []
def Sel.txts:Bool→List Sel→List UInt8
 | _,[]=>[]
 | b,x::r=>(if b then [] else [32])++(Sel.txt x++Sel.txts false r)
end
mutual
def Sel.cost:Sel→Nat
 | .mk _ al n a d s _=>30+al.length+n.length+argsC a+dirsC d+Sel.costs s
def Sel.costs:List Sel→Nat
 | []=>0
 | x::r=>1+Sel.cost x+Sel.costs r
end
theorem Sel.goods_all (at_:Nat):∀ l:List Sel,Sel.goods at_ l=l.all (Sel.good at_)
 | []=>by rw[Sel.goods];rfl
 | x::r=>by rw[Sel.goods,Sel.goods_all at_ r,List.all_cons]
theorem Sel.txts_join:∀ (b:Bool) (l:List Sel),Sel.txts b l=Vl.joinT Sel.txt [32] b l
 | _,[]=>by rw[Sel.txts,Vl.joinT]
 | b,x::r=>by rw[Sel.txts,Sel.txts_join false r,Vl.joinT]
theorem Sel.costs_sum:∀ l:List Sel,Sel.costs l=Vl.sumC Sel.cost 1 l
 | []=>by rw[Sel.costs,Vl.sumC]
 | x::r=>by rw[Sel.costs,Sel.costs_sum r,Vl.sumC]
def selsG (at_:Nat) (l:List Sel):Bool:=(decide (0<l.length)&&decide (at_<16))&&Sel.goods (at_+1) l
def selsT (l:List Sel):List UInt8:=[123]++(Sel.txts true l++[125])
theorem Sel.good_eq (at_:Nat) (x:Sel):x.good at_ =
  if x.kind=1 then nmG x.nick&&(Lx.isName x.name&&(argsG at_ x.args&&(dirsG at_ x.dirs&&(decide (x.sels.length=0)||(decide (at_<16)&&Sel.goods (at_+1) x.sels)))))
  else if x.kind=2 then (Lx.isName x.name&&((decide (x.name≠[111,110])&&decide (x.sels.length=0))&&dirsG at_ x.dirs))&&(decide (x.nick=[])&&decide (x.args.length=0))
  else if x.kind=3 then (nmG x.name&&(dirsG at_ x.dirs&&selsG at_ x.sels))&&(decide (x.nick=[])&&decide (x.args.length=0))
  else false:=by cases x;rw[Sel.good];rfl
theorem Sel.txt_eq (x:Sel):x.txt =
  if x.kind=1 then nmT x.nick [] [58,32]++(x.name++(argsT x.args++(dirsT x.dirs++(if x.sels.length=0 then [] else [32]++selsT x.sels))))
  else if x.kind=2 then [46,46,46]++(x.name++dirsT x.dirs)
  else if x.kind=3 then [46,46,46]++(nmT x.name [32,111,110,32] []++(dirsT x.dirs++([32]++selsT x.sels)))
  else []:=by cases x;rw[Sel.txt];rfl
theorem Sel.cost_eq (x:Sel):x.cost=30+x.nick.length+x.name.length+argsC x.args+dirsC x.dirs+Sel.costs x.sels:=by cases x;rw[Sel.cost];rfl
def varG (x:Var):Bool:=Lx.isName x.name&&(kindOk x.type&&gvG x.has x.dflt)
def varT (x:Var):List UInt8:=[36]++(x.name++([58,32]++(x.type++gvT x.has x.dflt)))
def varC (x:Var):Nat:=6+x.name.length+x.type.length+x.dflt.cost
def word (k:Int):List UInt8:=if k=1 then [113,117,101,114,121] else if k=2 then [109,117,116,97,116,105,111,110] else [115,117,98,115,99,114,105,112,116,105,111,110]
def varsT (l:List Var):List UInt8:=if l.length=0 then [] else [40]++(Vl.joinT varT [44,32] true l++[41])
def opG (x:Op):Bool:=(decide (1≤x.kind)&&decide (x.kind≤3))&&(nmG x.name&&(x.vars.all varG&&(dirsG 0 x.dirs&&selsG 0 x.sels)))
def opT (x:Op):List UInt8:=word x.kind++(nmT x.name [32] []++(varsT x.vars++(dirsT x.dirs++([32]++(selsT x.sels++[10])))))
def opC (x:Op):Nat:=20+x.name.length+Vl.sumC varC 2 x.vars+dirsC x.dirs+Sel.costs x.sels
def frG (x:Fr):Bool:=(Lx.isName x.name&&decide (x.name≠[111,110]))&&(Lx.isName x.on&&(dirsG 0 x.dirs&&selsG 0 x.sels))
def frT (x:Fr):List UInt8:=[102,114,97,103,109,101,110,116,32]++(x.name++([32,111,110,32]++(x.on++(dirsT x.dirs++([32]++(selsT x.sels++[10]))))))
def frC (x:Fr):Nat:=20+x.name.length+x.on.length+dirsC x.dirs+Sel.costs x.sels
def Doc.good (x:Doc):Bool:=decide (0<x.ops.length+x.frags.length)&&(x.ops.all opG&&x.frags.all frG)
def Doc.txt (x:Doc):List UInt8:=x.ops.flatMap opT++x.frags.flatMap frT
def Doc.cost (x:Doc):Nat:=Vl.sumC opC 0 x.ops+Vl.sumC frC 0 x.frags
-- How much that is of a small document.
theorem sum_le {α:Type} {f:α→Nat} {m B:Nat}:∀ {l:List α},(∀ x∈l,m+f x≤B)→Vl.sumC f m l≤l.length*B
 | [],_=>ZV _
 | x::r,h=>by
  have A:=h x (by simp)
  have o:=sum_le (l:=r) (fun y hy=>h y (by simp[hy]))
  rw[Vl.sumC,List.length_cons,Nat.succ_mul];omega
theorem argsC_le {l:List Vl.ZA} (h:∀ x∈l,smA x):argsC l≤2+l.length*1330000:=by
 have:=sum_le (l:=l) (f:=Vl.ZA.cost) (m:=2) (B:=1330000) (fun x hx=>by
  obtain ⟨A,-,o⟩:=h x hx
  rw[Vl.ZA.cost_eq];omega)
 unfold argsC;omega
theorem dirsC_le:∀ {l:List Dir},(∀ x∈l,smD x)→dirsC l≤cntD l*1330000
 | [],_=>ZV _
 | x::r,h=>by
  have o:=dirsC_le (l:=r) (fun y hy=>h y (by simp[hy]))
  obtain ⟨C,A⟩:=h x (by simp)
  have D:=argsC_le A
  unfold dirsC at o ⊢
  have B:dirC x=2+x.name.length+argsC x.args:=rfl
  rw[Vl.sumC,cntD,Nat.add_mul,Nat.add_mul]
  omega
mutual
theorem selC_le:∀ x:Sel,x.sm→1+x.cost≤x.cnt*1330000
 | .mk k al n a d s p,h=>by
  rw[Sel.sm] at h
  obtain ⟨o,B,C,D,A⟩:=h
  have E:=argsC_le C
  have G:=dirsC_le D
  have F:=selsC_le s A
  rw[Sel.cost,Sel.cnt,Nat.add_mul,Nat.add_mul,Nat.add_mul];omega
theorem selsC_le:∀ l:List Sel,Sel.sml l→Sel.costs l≤Sel.cntl l*1330000
 | [],_=>ZV _
 | x::r,h=>by
  rw[Sel.sml] at h
  have o:=selC_le x h.1
  have B:=selsC_le r h.2
  rw[Sel.costs,Sel.cntl,Nat.add_mul];omega
end
theorem opC_le {x:Op} (h:smO x):opC x≤1300000000:=by
 obtain ⟨⟨C,E⟩,M,⟨o,D⟩,A,F⟩:=h
 have g1:=sum_le (l:=x.vars) (f:=varC) (m:=2) (B:=1330000) (fun y hy=>by
  obtain ⟨G,L,-,J⟩:=E y hy
  unfold varC;omega)
 have g2:=dirsC_le D
 have K:=selsC_le x.sels (Sel.sml_iff.2 F)
 have N:=Nat.mul_le_mul_right 1330000 C
 have H:=Nat.mul_le_mul_right 1330000 o
 have I:=Nat.mul_le_mul_right 1330000 A
 unfold opC;omega
theorem frC_le {x:Fr} (h:smF x):frC x≤1300000000:=by
 obtain ⟨F,H,⟨B,A⟩,o,C⟩:=h
 have g2:=dirsC_le A
 have G:=selsC_le x.sels (Sel.sml_iff.2 C)
 have D:=Nat.mul_le_mul_right 1330000 B
 have E:=Nat.mul_le_mul_right 1330000 o
 unfold frC;omega
theorem docC_le {x:Doc} (h:x.sm):Vl.sumC opC 0 x.ops≤130000000000∧Vl.sumC frC 0 x.frags≤130000000000:=by
 obtain ⟨⟨A,C⟩,D,o⟩:=h
 have g1:=sum_le (l:=x.ops) (f:=opC) (m:=0) (B:=1300000000) (fun y hy=>by have:=opC_le (C y hy);omega)
 have g2:=sum_le (l:=x.frags) (f:=frC) (m:=0) (B:=1300000000) (fun y hy=>by have:=frC_le (o y hy);omega)
 have F:=Nat.mul_le_mul_right 1300000000 A
 have E:=Nat.mul_le_mul_right 1300000000 D
 omega
end Dq
end Go.Proofs.YtefjgpkpplkkgaaGreatDoor
namespace Go.Proofs.YtefjgpkpplkkgaaGreatDoor
set_option linter.unusedSimpArgs false
set_option linter.unusedVariables false
open Go Go.RowKit
theorem own_form {w:World} {base k n:Nat} {E:TypeId} {v:Value} {xs:List Value} (h:w.ownsRow base E k v n xs):∃ p q r,v=.slice p q r:=by
 rcases h.2 with ⟨h4,-⟩|⟨g,cap,cur,hv,-⟩
 ·exact ⟨_,_,_,h4⟩
 ·exact ⟨_,_,_,hv⟩
theorem own_slice {w:World} {base k n:Nat} {E:TypeId} {v:Value} {xs:List Value} (h:w.ownsRow base E k v n xs):∃ p r,v=.slice p n r∧n≤r:=by
 rcases h.2 with ⟨h4,h5⟩|⟨g,cap,cur,hv,hb,hc,h6,h7,h8⟩
 ·exact ⟨none,0,by rw[h5];exact h4,by omega⟩
 ·exact ⟨_,_,hv,by omega⟩
theorem put_comm (a:Act) {i j:Nat} (h:i≠j) (x y:Value):(a.put (some i) x).put (some j) y=(a.put (some j) y).put (some i) x:=by
 unfold Act.put
 simp only
 rw[Array.setIfInBounds_comm _ _ h]
theorem eval_ne (a:Act) {i j:Nat} (h:i≠j) (x:Value):(a.put (some i) x).eval (.tmp j)=a.eval (.tmp j):=by
 unfold Act.put Act.eval
 simp[Array.getD_eq_getD_getElem?,Array.getElem?_setIfInBounds,h]
theorem eval_eq (a:Act) {i:Nat} (h:i<a.tmps.size) (x:Value):(a.put (some i) x).eval (.tmp i)=x:=by
 unfold Act.put Act.eval
 simp[Array.getD_eq_getD_getElem?,Array.getElem?_setIfInBounds,h]
theorem size_put (a:Act) (i:Nat) (x:Value):(a.put (some i) x).tmps.size=a.tmps.size:=by
 unfold Act.put;simp
def chn (t1 t2 t3:Nat) (i:Nat) (x1 x2 x3:Value) (a:Act):Act :=
 if i=0 then a else if i=1 then a.put (some t1) x1 else if i=2 then (a.put (some t1) x1).put (some t2) x2 else ((a.put (some t1) x1).put (some t2) x2).put (some t3) x3
def cur (i:Nat) (x1 x2 x3:Value):Value:=if i≤1 then x1 else if i=2 then x2 else x3
def opt1 (t:Nat) (k:Bool) (x:Value) (a:Act):Act:=if k then a.put (some t) x else a
structure Lt2 (base k1 k2:Nat) (E1 E2 T5:TypeId) (box:Array Value) (n1 m1 n2 m2:Nat) (xs1 ys1 xs2 ys2:List Value) (wr:World) (i j:Nat) (k:Bool) (v1 v2:Value) (z:Nat) (w:World):Prop where
 bel:Below base wr w
 low:base≤w.heap.size
 c1:1≤i→w.ownsRow base E1 k1 v1 (if i=1 then 0 else if i=2 then n1 else n1+m1) (if i=1 then [] else if i=2 then xs1 else xs1++ys1)
 c2:1≤j→w.ownsRow base E2 k2 v2 (if j=1 then 0 else if j=2 then n2 else n2+m2) (if j=1 then [] else if j=2 then xs2 else xs2++ys2)
 ap:1≤i→1≤j→∀ g,v1.ownBlock=some g→v2.ownBlock≠some g
 bx:k=true→base≤z∧w.heap[z]?=some (.cells box T5 (0,0))∧(1≤i→v1.ownBlock≠some z)∧(1≤j→v2.ownBlock≠some z)
structure Step1 (base k:Nat) (E:TypeId) (n:Nat) (xs:List Value) (i:Nat) (v:Value) (w:World) (v':Value) (w':World):Prop where
 bel:Below base w w'
 row:w'.ownsRow base E k v' n xs
 keep:∀ o,o<w.heap.size→(1≤i→v.ownBlock≠some o)→w'.heap[o]?=w.heap[o]?
 loc:(1≤i∧v'.ownBlock=v.ownBlock)∨(∀ g,v'.ownBlock=some g→g=w.heap.size)
section
variable {base k1 k2 : Nat} {E1 E2 T5 : TypeId} {box : Array Value} {n1 m1 n2 m2 : Nat} {xs1 ys1 xs2 ys2 : List Value} {wr : World} {i j : Nat} {k : Bool} {v1 v2 v' : Value} {z : Nat} {w w' : World}
theorem Lt2.step1 (h:Lt2 base k1 k2 E1 E2 T5 box n1 m1 n2 m2 xs1 ys1 xs2 ys2 wr i j k v1 v2 z w) (hi:i<3)
  (hs:Step1 base k1 E1 (if i+1=1 then 0 else if i+1=2 then n1 else n1+m1) (if i+1=1 then [] else if i+1=2 then xs1 else xs1++ys1) i v1 w v' w'):Lt2 base k1 k2 E1 E2 T5 box n1 m1 n2 m2 xs1 ys1 xs2 ys2 wr (i+1) j k v' v2 z w':=by
 have A:=hs.bel.size
 have o:1≤j→∀ g,v2.ownBlock=some g→w'.heap[g]?=w.heap[g]?:=fun hj g hg=>hs.keep g ((h.c2 hj).lt g hg).2 (fun hi1 e=>h.ap hi1 hj g e hg)
 refine ⟨h.bel.trans (hs.bel.mono (QM _)),by have:=h.low;omega,fun _=>hs.row,fun hj=>row_to (h.c2 hj) (o hj),fun _ hj g hg hg2=>?_,fun hk=>?_⟩
 ·rcases hs.loc with ⟨hi1,e⟩|e
  ·rw[e] at hg
   exact h.ap hi1 hj g hg hg2
  ·have:=e g hg
   have:=((h.c2 hj).lt g hg2).2
   omega
 ·obtain ⟨B,b2,b3,b4⟩:=h.bx hk
  have C:=block_lt b2
  refine ⟨B,(hs.keep z C (fun hi1=>b3 hi1)).trans b2,fun _ e=>?_,b4⟩
  rcases hs.loc with ⟨hi1,e2⟩|e2
  ·rw[e2] at e;exact b3 hi1 e
  ·have:=e2 z e;omega
theorem Lt2.step2 (h:Lt2 base k1 k2 E1 E2 T5 box n1 m1 n2 m2 xs1 ys1 xs2 ys2 wr i j k v1 v2 z w) (hj:j<3)
  (hs:Step1 base k2 E2 (if j+1=1 then 0 else if j+1=2 then n2 else n2+m2) (if j+1=1 then [] else if j+1=2 then xs2 else xs2++ys2) j v2 w v' w'):Lt2 base k1 k2 E1 E2 T5 box n1 m1 n2 m2 xs1 ys1 xs2 ys2 wr i (j+1) k v1 v' z w':=by
 have A:=hs.bel.size
 have o:1≤i→∀ g,v1.ownBlock=some g→w'.heap[g]?=w.heap[g]?:=fun hi g hg=>hs.keep g ((h.c1 hi).lt g hg).2 (fun hj1 e=>h.ap hi hj1 g hg e)
 refine ⟨h.bel.trans (hs.bel.mono (QM _)),by have:=h.low;omega,fun hi=>row_to (h.c1 hi) (o hi),fun _=>hs.row,fun hi _ g hg hg2=>?_,fun hk=>?_⟩
 ·rcases hs.loc with ⟨hj1,e⟩|e
  ·rw[e] at hg2
   exact h.ap hi hj1 g hg hg2
  ·have:=e g hg2
   have:=((h.c1 hi).lt g hg).2
   omega
 ·obtain ⟨B,b2,b3,b4⟩:=h.bx hk
  have C:=block_lt b2
  refine ⟨B,(hs.keep z C (fun hj1=>b4 hj1)).trans b2,b3,fun _ e=>?_⟩
  rcases hs.loc with ⟨hj1,e2⟩|e2
  ·rw[e2] at e;exact b4 hj1 e
  ·have:=e2 z e;omega
theorem Lt2.stepB (h:Lt2 base k1 k2 E1 E2 T5 box n1 m1 n2 m2 xs1 ys1 xs2 ys2 wr i j false v1 v2 z w):Lt2 base k1 k2 E1 E2 T5 box n1 m1 n2 m2 xs1 ys1 xs2 ys2 wr i j true v1 v2 w.heap.size (w.alloc (.cells box T5 (0,0))):=by
 refine ⟨h.bel.alloc h.low _,by have:=h.low;simp;omega,fun hi=>(h.c1 hi).alloc _,fun hj=>(h.c2 hj).alloc _,h.ap,fun _=>⟨h.low,heap_at_new _ _,fun hi e=>?_,fun hj e=>?_⟩⟩
 ·have:=((h.c1 hi).lt _ e).2;omega
 ·have:=((h.c2 hj).lt _ e).2;omega
end
def lst2 (i j:Nat) (k e:Bool):Array Bool:=#[decide (1≤i),true,true,decide (2≤i),true,true,decide (3≤i),decide (1≤j),true,true,decide (2≤j),true,true,decide (3≤j),e,k,false]
def op1 (i:Nat):Nat:=if i=0 then 0 else if i=1 then 3 else 6
def op2 (j:Nat):Nat:=if j=0 then 7 else if j=1 then 10 else 13
def dst1 (i:Nat):Nat:=if i=0 then 30 else if i=1 then 33 else 36
def dst2 (j:Nat):Nat:=if j=0 then 37 else if j=1 then 40 else 43
def rdy2 (i j:Nat) (k e:Bool):List Nat:=(if i<3 then [op1 i] else [])++((if j<3∧(j=0∨i=3) then [op2 j] else [])++((if i=3∧j=3∧e=false then [14] else [])++(if k then [] else [15])))
def act2 (i j:Nat) (k e:Bool) (x1 x2 x3 y1 y2 y3 a44 z5:Value) (a0:Act):Act:=opt1 5 k z5 (opt1 44 e a44 (chn 37 40 43 j y1 y2 y3 (chn 30 33 36 i x1 x2 x3 a0)))
section
variable {a : Act} {t s t1 t2 t3 : Nat} {k : Bool} {x v : Value}
theorem opt1_ne (h:s≠t):(opt1 s k x a).eval (.tmp t)=a.eval (.tmp t):=by
 unfold opt1
 split
 ·exact eval_ne a h x
 ·rfl
theorem opt1_put (h:s≠t):(opt1 s k x a).put (some t) v=opt1 s k x (a.put (some t) v):=by
 unfold opt1
 split
 ·exact put_comm a h x v
 ·rfl
theorem chn_ne {i:Nat} {x1 x2 x3:Value} (h1:t1≠t) (h2:t2≠t) (h3:t3≠t):(chn t1 t2 t3 i x1 x2 x3 a).eval (.tmp t)=a.eval (.tmp t):=by
 unfold chn
 split
 ·rfl
 split
 ·rw[eval_ne _ h1]
 split
 ·rw[eval_ne _ h2,eval_ne _ h1]
 ·rw[eval_ne _ h3,eval_ne _ h2,eval_ne _ h1]
theorem chn_put {i:Nat} {x1 x2 x3:Value} (h1:t1≠t) (h2:t2≠t) (h3:t3≠t):(chn t1 t2 t3 i x1 x2 x3 a).put (some t) v=chn t1 t2 t3 i x1 x2 x3 (a.put (some t) v):=by
 unfold chn
 split
 ·rfl
 split
 ·rw[put_comm _ h1]
 split
 ·rw[put_comm _ h2,put_comm _ h1]
 ·rw[put_comm _ h3,put_comm _ h2,put_comm _ h1]
theorem chn_at {i:Nat} {x1 x2 x3:Value} (hs:t1<a.tmps.size∧t2<a.tmps.size∧t3<a.tmps.size) (hi:1≤i) (hi3:i≤3):(chn t1 t2 t3 i x1 x2 x3 a).eval (.tmp (if i-1=0 then t1 else if i-1=1 then t2 else t3))=cur i x1 x2 x3:=by
 have:i=1∨i=2∨i=3:=by omega
 rcases this with rfl|rfl|rfl
 ·exact eval_eq a hs.1 x1
 ·exact eval_eq _ (by rw[size_put];exact hs.2.1) x2
 ·exact eval_eq _ (by rw[size_put,size_put];exact hs.2.2) x3
theorem chn_step {i:Nat} {x1 x2 x3:Value} (hi:i<3):(chn t1 t2 t3 i x1 x2 x3 a).put (some (if i=0 then t1 else if i=1 then t2 else t3)) v=chn t1 t2 t3 (i+1) (if i=0 then v else x1) (if i=1 then v else x2) (if i=2 then v else x3) a:=by
 have:i=0∨i=1∨i=2:=by omega
 rcases this with rfl|rfl|rfl<;>rfl
theorem chn_size {i:Nat} {x1 x2 x3:Value}:(chn t1 t2 t3 i x1 x2 x3 a).tmps.size=a.tmps.size:=by
 unfold chn
 split
 ·rfl
 split
 ·rw[size_put]
 split
 ·rw[size_put,size_put]
 ·rw[size_put,size_put,size_put]
end
theorem act2_ne {t:Nat} (ht:t=32∨t=35∨t=39∨t=42) (i j:Nat) (k e:Bool) (x1 x2 x3 y1 y2 y3 a44 z5:Value) (a0:Act):(act2 i j k e x1 x2 x3 y1 y2 y3 a44 z5 a0).eval (.tmp t)=a0.eval (.tmp t):=by
 unfold act2
 rcases ht with rfl|rfl|rfl|rfl<;>rw[opt1_ne (by decide),opt1_ne (by decide),chn_ne (by decide) (by decide) (by decide),chn_ne (by decide) (by decide) (by decide)]
theorem dst1_ne (i:Nat):5≠dst1 i∧44≠dst1 i∧37≠dst1 i∧40≠dst1 i∧43≠dst1 i:=by
 by_cases h0:i=0
 ·subst h0;decide
 by_cases h1:i=1
 ·subst h1;decide
 have:dst1 i=36:=by unfold dst1;rw[if_neg h0,if_neg h1]
 rw[this];decide
theorem dst2_ne (i:Nat):5≠dst2 i∧44≠dst2 i:=by
 by_cases h0:i=0
 ·subst h0;decide
 by_cases h1:i=1
 ·subst h1;decide
 have:dst2 i=43:=by unfold dst2;rw[if_neg h0,if_neg h1]
 rw[this];decide
theorem act2_x {i j:Nat} {k e:Bool} {x1 x2 x3 y1 y2 y3 a44 z5:Value} {a0:Act} (hsz:a0.tmps.size=120) (hi:1≤i) (hi3:i≤3):(act2 i j k e x1 x2 x3 y1 y2 y3 a44 z5 a0).eval (.tmp (dst1 (i-1)))=cur i x1 x2 x3:=by
 obtain ⟨B,D,C,A,o⟩:=dst1_ne (i-1)
 unfold act2
 rw[opt1_ne B,opt1_ne D,chn_ne C A o]
 exact chn_at ⟨by omega,by omega,by omega⟩ hi hi3
theorem act2_y {i j:Nat} {k e:Bool} {x1 x2 x3 y1 y2 y3 a44 z5:Value} {a0:Act} (hsz:a0.tmps.size=120) (hj:1≤j) (hj3:j≤3):(act2 i j k e x1 x2 x3 y1 y2 y3 a44 z5 a0).eval (.tmp (dst2 (j-1)))=cur j y1 y2 y3:=by
 obtain ⟨o,A⟩:=dst2_ne (j-1)
 unfold act2
 rw[opt1_ne o,opt1_ne A]
 exact chn_at ⟨by rw[chn_size];omega,by rw[chn_size];omega,by rw[chn_size];omega⟩ hj hj3
theorem act2_p1 {i j:Nat} {k e:Bool} {x1 x2 x3 y1 y2 y3 a44 z5 v:Value} {a0:Act} (hi:i<3):(act2 i j k e x1 x2 x3 y1 y2 y3 a44 z5 a0).put (some (dst1 i)) v=act2 (i+1) j k e (if i=0 then v else x1) (if i=1 then v else x2) (if i=2 then v else x3) y1 y2 y3 a44 z5 a0:=by
 obtain ⟨B,D,C,A,o⟩:=dst1_ne i
 unfold act2
 rw[opt1_put B,opt1_put D,chn_put C A o]
 unfold dst1
 rw[chn_step hi]
theorem act2_p2 {i j:Nat} {k e:Bool} {x1 x2 x3 y1 y2 y3 a44 z5 v:Value} {a0:Act} (hj:j<3):(act2 i j k e x1 x2 x3 y1 y2 y3 a44 z5 a0).put (some (dst2 j)) v=act2 i (j+1) k e x1 x2 x3 (if j=0 then v else y1) (if j=1 then v else y2) (if j=2 then v else y3) a44 z5 a0:=by
 obtain ⟨o,A⟩:=dst2_ne j
 unfold act2
 rw[opt1_put o,opt1_put A]
 unfold dst2
 rw[chn_step hj]
theorem act2_e {i j:Nat} {k:Bool} {x1 x2 x3 y1 y2 y3 a44 z5 v:Value} {a0:Act}:(act2 i j k false x1 x2 x3 y1 y2 y3 a44 z5 a0).put (some 44) v=act2 i j k true x1 x2 x3 y1 y2 y3 v z5 a0:=by
 unfold act2 opt1
 cases k
 ·rfl
 ·simp only[if_true,Bool.false_eq_true,if_false]
  rw[put_comm _ (show (5:Nat)≠44 by decide)]
theorem act2_k {i j:Nat} {e:Bool} {x1 x2 x3 y1 y2 y3 a44 z5 v:Value} {a0:Act}:(act2 i j false e x1 x2 x3 y1 y2 y3 a44 z5 a0).put (some 5) v=act2 i j true e x1 x2 x3 y1 y2 y3 a44 v a0:=rfl
section
variable {P : Program} {ops : Array Oper} {Q : Exit → Act → World → Prop} {md : Region.Mode} {S : World → Prop}
set_option maxHeartbeats 1000000 in
theorem lattice {base k1 k2:Nat} {E1 E2 T5:TypeId} {box:Array Value} {n1 m1 n2 m2:Nat} {xs1 ys1 xs2 ys2:List Value} {wr:World} {a0:Act} (hsz:a0.tmps.size=120)
  (hS:∀ w,Below base wr w→S w)
  (hr:∀ i j,i≤3→j≤3→(2≤j→i=3)→∀ k e,(e=true→i=3∧j=3)→¬ (i=3∧j=3∧k=true∧e=true)→Region.ready md ops (lst2 i j k e)=rdy2 i j k e)
  (hl1:∀ i j k e,i<3→j≤3→(lst2 i j k e).setIfInBounds (op1 i) true=lst2 (i+1) j k e)
  (hl2:∀ i j k e,i≤3→j<3→(lst2 i j k e).setIfInBounds (op2 j) true=lst2 i (j+1) k e)
  (h1:∀ i,i<3→∀ (a:Act) (w:World) (K:Act→World→Prop) (v:Value),(∀ t,t=32∨t=35→a.eval (.tmp t)=a0.eval (.tmp t))→Below base wr w→base≤w.heap.size→(1≤i→a.eval (.tmp (dst1 (i-1)))=v∧w.ownsRow base E1 k1 v (if i=1 then 0 else if i=2 then n1 else n1+m1) (if i=1 then [] else if i=2 then xs1 else xs1++ys1)) →
   (∀ v' w',Step1 base k1 E1 (if i+1=1 then 0 else if i+1=2 then n1 else n1+m1) (if i+1=1 then [] else if i+1=2 then xs1 else xs1++ys1) i v w v' w'→K (a.put (some (dst1 i)) v') w')→wpOp P ops Q (op1 i) K a w)
  (h2:∀ j,j<3→∀ (a:Act) (w:World) (K:Act→World→Prop) (v:Value),(∀ t,t=39∨t=42→a.eval (.tmp t)=a0.eval (.tmp t))→Below base wr w→base≤w.heap.size→(1≤j→a.eval (.tmp (dst2 (j-1)))=v∧w.ownsRow base E2 k2 v (if j=1 then 0 else if j=2 then n2 else n2+m2) (if j=1 then [] else if j=2 then xs2 else xs2++ys2)) →
   (∀ v' w',Step1 base k2 E2 (if j+1=1 then 0 else if j+1=2 then n2 else n2+m2) (if j+1=1 then [] else if j+1=2 then xs2 else xs2++ys2) j v w v' w'→K (a.put (some (dst2 j)) v') w')→wpOp P ops Q (op2 j) K a w)
  (h14:∀ (a:Act) (w:World) (K:Act→World→Prop) (v1 v2:Value),a.eval (.tmp 36)=v1→a.eval (.tmp 43)=v2→(∃ p q r,v1=.slice p q r)→(∃ p q r,v2=.slice p q r)→K (a.put (some 44) (.agg #[v1,v2])) w→wpOp P ops Q 14 K a w)
  (h15:∀ (a:Act) (w:World) (K:Act→World→Prop),K (a.put (some 5) (.pointer (some ⟨w.heap.size,0,none⟩))) (w.alloc (.cells box T5 (0,0)))→wpOp P ops Q 15 K a w)
  (hend:∀ x1 x2 v1 y1 y2 v2 z w,Lt2 base k1 k2 E1 E2 T5 box n1 m1 n2 m2 xs1 ys1 xs2 ys2 wr 3 3 true v1 v2 z w→wpAnyB P md ops Q S 17 1 (lst2 3 3 true true) (act2 3 3 true true x1 x2 v1 y1 y2 v2 (.agg #[v1,v2]) (.pointer (some ⟨z,0,none⟩)) a0) w) :
  ∀ (N i j:Nat) (k e:Bool),i≤3→j≤3→(2≤j→i=3)→(e=true→i=3∧j=3)→i+j+(if k then 1 else 0)+(if e then 1 else 0)+N=8→∀ x1 x2 x3 y1 y2 y3 a44 z w,(e=true→a44=.agg #[x3,y3]) →
   Lt2 base k1 k2 E1 E2 T5 box n1 m1 n2 m2 xs1 ys1 xs2 ys2 wr i j k (cur i x1 x2 x3) (cur j y1 y2 y3) z w→wpAnyB P md ops Q S 17 (N+1) (lst2 i j k e) (act2 i j k e x1 x2 x3 y1 y2 y3 a44 (.pointer (some ⟨z,0,none⟩)) a0) w:=by
 intro N
 induction N with
 | zero =>
  intro i j k e hi hj hji he hsum x1 x2 x3 y1 y2 y3 a44 z w ha hI
  have I:k=true:=by cases k with|true=>rfl|false=>(cases e<;>simp at hsum<;>omega)
  have F:e=true:=by cases e with|true=>rfl|false=>(subst I;simp at hsum;omega)
  subst I F
  simp only[if_true] at hsum
  obtain ⟨rfl,rfl⟩:i=3∧j=3:=by omega
  rw[ha rfl]
  exact hend x1 x2 x3 y1 y2 y3 z w hI
 | succ N ih =>
  intro i j k e hi hj hji he hsum x1 x2 x3 y1 y2 y3 a44 z w ha hI
  have D:¬ (i=3∧j=3∧k=true∧e=true):=by
   rintro ⟨rfl,rfl,rfl,rfl⟩
   simp at hsum
  have E:=hr i j hi hj hji k e he D
  refine ⟨fun h0=>?_,fun o ho=>?_⟩
  ·exfalso
   rw[E] at h0
   unfold rdy2 at h0
   simp only[List.append_eq_nil_iff] at h0
   obtain ⟨G,J,H,L⟩:=h0
   have g1:i=3:=by
    rcases Nat.lt_or_ge i 3 with h|h
    ·rw[if_pos h] at G;cases G
    ·omega
   have g2:j=3:=by
    rcases Nat.lt_or_ge j 3 with h|h
    ·rw[if_pos ⟨h,.inr g1⟩] at J;cases J
    ·omega
   have O:k=true:=by cases k with|true=>rfl|false=>(simp at L)
   have M:e=true:=by cases e with|true=>rfl|false=>(rw[if_pos ⟨g1,g2,rfl⟩] at H;cases H)
   exact D ⟨g1,g2,O,M⟩
  ·rw[E] at ho
   unfold rdy2 at ho
   rcases ZL.1 ho with ho|ho
   ·by_cases h:i<3
    ·rw[if_pos h] at ho
     obtain rfl:=QB.1 ho
     have B:e=false:=by cases e with|false=>rfl|true=>(have:=(he rfl).1;omega)
     refine h1 i h _ w _ (cur i x1 x2 x3) (fun t ht=>act2_ne (t:=t) (ht.elim .inl (fun h=>.inr (.inl h))) ..) hI.bel hI.low (fun h1'=>⟨act2_x hsz h1' hi,hI.c1 h1'⟩) (fun v' w' hs=>⟨fun _=>hS _ (hI.step1 h hs).bel,?_⟩)
     rw[hl1 i j k e h hj,act2_p1 h]
     have C:=hI.step1 h hs
     have A:cur (i+1) (if i=0 then v' else x1) (if i=1 then v' else x2) (if i=2 then v' else x3)=v':=by
      have:i=0∨i=1∨i=2:=by omega
      rcases this with rfl|rfl|rfl<;>rfl
     rw[← A] at C
     exact ih (i+1) j k e (by omega) hj (fun h'=>absurd (hji h') (by omega)) (fun h'=>by rw[B] at h';cases h') (by omega) _ _ _ y1 y2 y3 a44 z w' (fun h'=>by rw[B] at h';cases h') C
    ·rw[if_neg h] at ho;cases ho
   rcases ZL.1 ho with ho|ho
   ·by_cases h0:j<3∧(j=0∨i=3)
    ·rw[if_pos h0] at ho
     have h:=h0.1
     obtain rfl:=QB.1 ho
     have B:e=false:=by cases e with|false=>rfl|true=>(have:=(he rfl).2;omega)
     refine h2 j h _ w _ (cur j y1 y2 y3) (fun t ht=>act2_ne (t:=t) (.inr (.inr ht)) ..) hI.bel hI.low (fun h1'=>⟨act2_y hsz h1' hj,hI.c2 h1'⟩) (fun v' w' hs=>⟨fun _=>hS _ (hI.step2 h hs).bel,?_⟩)
     rw[hl2 i j k e hi h,act2_p2 h]
     have C:=hI.step2 h hs
     have A:cur (j+1) (if j=0 then v' else y1) (if j=1 then v' else y2) (if j=2 then v' else y3)=v':=by
      have:j=0∨j=1∨j=2:=by omega
      rcases this with rfl|rfl|rfl<;>rfl
     rw[← A] at C
     exact ih i (j+1) k e hi (by omega) (fun h'=>by have:=h0.2;omega) (fun h'=>by rw[B] at h';cases h') (by omega) x1 x2 x3 _ _ _ a44 z w' (fun h'=>by rw[B] at h';cases h') C
    ·rw[if_neg h0] at ho;cases ho
   rcases ZL.1 ho with ho|ho
   ·by_cases h:i=3∧j=3∧e=false
    ·rw[if_pos h] at ho
     obtain rfl:=QB.1 ho
     obtain ⟨rfl,rfl,rfl⟩:=h
     refine h14 _ w _ x3 y3 (act2_x (i:=3) hsz (by decide) (by decide)) (act2_y (j:=3) hsz (by decide) (by decide)) (own_form (hI.c1 (by decide))) (own_form (hI.c2 (by decide))) ⟨fun _=>hS _ hI.bel,?_⟩
     rw[act2_e]
     exact ih 3 3 k true (by decide) (by decide) (fun _=>rfl) (fun _=>⟨rfl,rfl⟩) (by simp only[if_true,Bool.false_eq_true,if_false] at hsum ⊢;omega) x1 x2 x3 y1 y2 y3 _ z w (fun _=>rfl) hI
    ·rw[if_neg h] at ho;cases ho
   ·cases k with
    | true=>simp at ho
    | false =>
     obtain rfl:=QB.1 (by simpa using ho)
     refine h15 _ w _ ⟨fun _=>hS _ hI.stepB.bel,?_⟩
     rw[act2_k]
     exact ih i j true e hi hj hji he (by simp only[if_true,Bool.false_eq_true,if_false] at hsum ⊢;omega) x1 x2 x3 y1 y2 y3 a44 w.heap.size _ ha hI.stepB
theorem lattice0 {base k1 k2:Nat} {E1 E2 T5:TypeId} {box:Array Value} {n1 m1 n2 m2:Nat} {xs1 ys1 xs2 ys2:List Value} {wr:World} {a0:Act} (hsz:a0.tmps.size=120)
  (hS:∀ w,Below base wr w→S w)
  (hr:∀ i j,i≤3→j≤3→(2≤j→i=3)→∀ k e,(e=true→i=3∧j=3)→¬ (i=3∧j=3∧k=true∧e=true)→Region.ready md ops (lst2 i j k e)=rdy2 i j k e)
  (h1:∀ i,i<3→∀ (a:Act) (w:World) (K:Act→World→Prop) (v:Value),(∀ t,t=32∨t=35→a.eval (.tmp t)=a0.eval (.tmp t))→Below base wr w→base≤w.heap.size→(1≤i→a.eval (.tmp (dst1 (i-1)))=v∧w.ownsRow base E1 k1 v (if i=1 then 0 else if i=2 then n1 else n1+m1) (if i=1 then [] else if i=2 then xs1 else xs1++ys1)) →
   (∀ v' w',Step1 base k1 E1 (if i+1=1 then 0 else if i+1=2 then n1 else n1+m1) (if i+1=1 then [] else if i+1=2 then xs1 else xs1++ys1) i v w v' w'→K (a.put (some (dst1 i)) v') w')→wpOp P ops Q (op1 i) K a w)
  (h2:∀ j,j<3→∀ (a:Act) (w:World) (K:Act→World→Prop) (v:Value),(∀ t,t=39∨t=42→a.eval (.tmp t)=a0.eval (.tmp t))→Below base wr w→base≤w.heap.size→(1≤j→a.eval (.tmp (dst2 (j-1)))=v∧w.ownsRow base E2 k2 v (if j=1 then 0 else if j=2 then n2 else n2+m2) (if j=1 then [] else if j=2 then xs2 else xs2++ys2)) →
   (∀ v' w',Step1 base k2 E2 (if j+1=1 then 0 else if j+1=2 then n2 else n2+m2) (if j+1=1 then [] else if j+1=2 then xs2 else xs2++ys2) j v w v' w'→K (a.put (some (dst2 j)) v') w')→wpOp P ops Q (op2 j) K a w)
  (h14:∀ (a:Act) (w:World) (K:Act→World→Prop) (v1 v2:Value),a.eval (.tmp 36)=v1→a.eval (.tmp 43)=v2→(∃ p q r,v1=.slice p q r)→(∃ p q r,v2=.slice p q r)→K (a.put (some 44) (.agg #[v1,v2])) w→wpOp P ops Q 14 K a w)
  (h15:∀ (a:Act) (w:World) (K:Act→World→Prop),K (a.put (some 5) (.pointer (some ⟨w.heap.size,0,none⟩))) (w.alloc (.cells box T5 (0,0)))→wpOp P ops Q 15 K a w)
  (hend:∀ x1 x2 v1 y1 y2 v2 z w,Lt2 base k1 k2 E1 E2 T5 box n1 m1 n2 m2 xs1 ys1 xs2 ys2 wr 3 3 true v1 v2 z w→wpAnyB P md ops Q S 17 1 (lst2 3 3 true true) (act2 3 3 true true x1 x2 v1 y1 y2 v2 (.agg #[v1,v2]) (.pointer (some ⟨z,0,none⟩)) a0) w) (hb:base≤wr.heap.size) {fuel:Nat} {L0:Array Bool} (hfu:fuel=9) (hL0:L0=#[false,true,true,false,true,true,false,false,true,true,false,true,true,false,false,false,false]) :
  wpAnyB P md ops Q S 17 fuel L0 a0 wr:=by
 subst hfu hL0
 have A:∀ i j k e,i<3→j≤3→(lst2 i j k e).setIfInBounds (op1 i) true=lst2 (i+1) j k e:=by
  intro i j k e hi hj
  have:i=0∨i=1∨i=2:=by omega
  rcases this with rfl|rfl|rfl<;>rfl
 have o:∀ i j k e,i≤3→j<3→(lst2 i j k e).setIfInBounds (op2 j) true=lst2 i (j+1) k e:=by
  intro i j k e hi hj
  have:j=0∨j=1∨j=2:=by omega
  rcases this with rfl|rfl|rfl<;>rfl
 exact lattice hsz hS hr A o h1 h2 h14 h15 hend 8 0 0 false false (by decide) (by decide) (fun h=>by omega) (fun h=>by cases h) rfl undef undef undef undef undef undef undef 0 wr (fun h=>by cases h) ⟨Below.refl _ _,hb,fun h=>by omega,fun h=>by omega,fun h=>by omega,fun h=>by cases h⟩
end
theorem wpList_app {P:Program} {w:World} {ops:Array Oper} {o:Oper} {a:Act} {Q:Exit→Act→World→Prop} (hwt:Region.wanted o (yielded ops a.tmps)=true) (s x:Operand) (t:TypeId)
  (ho:o.op=.call { callee:=.builtin .append,args:=#[s,x],argTypes:=#[t,t] })
  (base:Nat) (e:TypeId) (i:TypeInfo) (z:Value) (size bytes:Nat) (ht:P.underlying t=some (.slice e)) (hi:P.info? e=some i) (hz:i.zero=some z)
  (hsize:i.size=size) (hby:i.bytes=bytes) (hzs:z.cells.size=size) (hsz:0<size)
  (v:Value) (n:Nat) (xs:List Value) (hs:a.eval s=v) (hown:w.ownsRow base e size v n xs)
  (a1:Option Addr) (m c:Nat) (news:List Value) (hx:a.eval x=.slice a1 m c) (hl:news.length=m*size) (hsrc:m=0∨∃ ad:Addr,a1=some ad∧∀ (j:Nat) u,news[j]?=some u→w.cell? (ad.add j)=some u) (h1:∀ u∈news,u.oneCell'=true)
  (h63:n+m≤maxLen) (hbytes:(n+m)*bytes≤140737488355328) (hbase:base≤w.heap.size) (ix:Nat) (hix:1≤ix)
  (h:∀ v' w',Step1 base size e (n+m) (xs++news) ix v w v' w'→Q .normal (a.put o.dst v') w'):wpList P ops Q [o] a w:=by
 rcases hsrc with hm|⟨ad,rfl,hnews⟩
 ·subst hm
  have B:news=[]:=List.eq_nil_of_length_eq_zero (by rw[hl,Nat.zero_mul])
  subst B
  obtain ⟨p,r,D,E⟩:=own_slice hown
  have C:Src P i.size t (.slice a1 0 c) 0 [] w:=by
   refine ⟨.inl ⟨e,ht⟩,fun w'=>?_,?_,?_,by simp,fun u hu=>by cases hu⟩
   ·cases a1<;>rfl
   ·cases a1<;>simp[Builtin.firstCells,loadCells,loadCellsFrom]
   ·cases a1<;>simp[Builtin.firstCells,loadCells,loadCellsFrom]
  have A:=run_append_nothing (P:=P) w t t o.type e i ht hi p n r E (.slice a1 0 c) C
  refine BigFrame.wpList_want hwt fun K hK=>?_
  unfold Oper.wp execOp
  simp only[ho,resolve,invoke,builtin,Sem.run_bind,Sem.run_pure,Result.andThen_ok,List.map_toArray,List.map_cons,List.map_nil,hs,hx,D,A]
  rw[← D]
  refine hK _ _ (h v w ⟨Below.refl _ _,?_,fun _ _ _=>rfl,.inl ⟨hix,rfl⟩⟩)
  rw[Nat.add_zero,List.append_nil]
  exact hown
 ·refine wpList_append_want hwt s x t ho base e i z size bytes ht hi hz hsize hby hzs hsz v n xs hs hown ad m c news hx hl hnews h1 h63 hbytes hbase (fun v' w' hrow hg hnil hloc=>?_)
  exact h v' w' ⟨sd_below_grown (Below.refl _ _) hown hbase hg,hrow,fun o' ho' hne=>hg.block o' ho' (fun e'=>hne hix e'.symm),hloc.imp (fun e'=>⟨hix,e'⟩) (fun e' g hg'=>by rw[e'] at hg';exact (Option.some.inj hg').symm)⟩
theorem seq_src {w:World} {P:Nat→Prop} {k:Nat} {xs:List D} {a:Option Addr} {n c:Nat} (h:Reads w P (.seq k xs) [.slice a n c]):∃ news,RowsD w P k xs news∧news.length=n*k∧(n=0∨∃ ad:Addr,a=some ad∧ad.block<w.heap.size∧∀ (j:Nat) u,news[j]?=some u→w.cell? (ad.add j)=some u)∧∀ u∈news,u.oneCell'=true:=by
 have A:n=xs.length:=by
  obtain ⟨I,H,e,-⟩:=h.seq_inv
  simpa using congrArg (fun l=>match l with|[.slice _ m _]=>m|_=>0) e
 cases xs with
 | nil=>exact ⟨[],.nil,by rw[A];simp,.inl A,fun u hu=>by cases hu⟩
 | cons d r =>
  obtain ⟨g,o,J,F,-,C,-⟩:=h.el 0 d rfl
  subst F
  obtain ⟨news,B,E,G⟩:=seq_news h
  exact ⟨news,B,by rw[B.len,A],.inr ⟨_,rfl,C,E⟩,G⟩
set_option maxHeartbeats 1000000 in
set_option maxRecDepth 100000 in
theorem wkind_any (w0:World) (b:Nat) (s:Vl.Sh) (w:World) (h:WW w0 b s w) (hE:Env w0) (h3:3≤w0.heap.size) (t:List UInt8) (ht:t.length≤1000000000) (hl:s.out.length+t.length≤1000000000000) :
  Calls Tryz.prog 117 #[.pointer (some ⟨b,0,none⟩),.string ⟨t.toArray⟩] w (WPost w0 b s w (Dq.kindOk t) t t.length):=by
 have H:=QA h
 obtain ⟨ok,B⟩:∃ ok,ok=Dq.kindOk t:=⟨_,rfl⟩
 have V:=QA (vtype_any ⟨t.toArray⟩ w (by show t.length≤_;omega) (hE.below h.bel) (by have:=h.bel.size;omega))
 have D:Hid (ok=(decide ((Vl.parseType t).1.err=0)&&decide ((Vl.parseType t).2=t))):=QA B
 rw[← B]
 clear B h hE
 go_enter Tryz.func117,Tryz.ntmps117
 go_wp2_with fail
 refine V.out.mono ?_
 rintro e w1 ⟨hb1,hres⟩
 have S:=QA (H.out.below hb1)
 have U:=QA (ok8_below (b:=b) hb1)
 have W:=hb1.size
 clear hb1
 rcases hres with ⟨he,rfl⟩|⟨he,rfl⟩
 ·have o:(Vl.parseType t).1.err=0:=he
  obtain ⟨T,N⟩:∃ T,T=(Vl.parseType t).2:=⟨_,rfl⟩
  have C:(Vl.parseType (⟨t.toArray⟩:ByteArray).data.toList).2=T:=N.symm
  rw[C]
  obtain ⟨q,L⟩:∃ q,q=(T==t):=⟨_,rfl⟩
  have K:Hid (ok=q):=QA (by rw[D.out,decide_eq_true o,← N,L,Bool.true_and,Bool.eq_iff_iff,beq_iff_eq,decide_eq_true_iff])
  have P:=QA L
  clear he o N C L
  go_wp2_with fail
  rw[← P.out]
  refine (S.out.need q).mono ?_
  rintro e w2 ⟨rfl,s2,h2,e2,o2,z2⟩
  have E:=QA h2
  have J:=QA e2
  have O:=QA (U.out.trans o2)
  have G:=e2.len
  clear h2 e2 o2
  go_wp2_with fail
  refine (wput_any w0 b s2 _ (E.out.alloc _) _ t _ (heap_at_new _ _) (by have:=E.out.lt;simp;omega) (by decide) (by omega)).mono ?_
  rintro e w3 ⟨rfl,s3,h3,e3,o3,z3⟩
  have Q:=QA h3
  have I:=QA (J.out.comp e3)
  have M:=QA ((O.out.alloc _).trans o3)
  have A:w.heap.size≤w3.heap.size:=by simp at z3;omega
  clear h3 e3 o3
  go_wp2_with fail
  go_end0
  exact ⟨rfl,s3,Q.out,I.out.to (by rw[K.out,Bool.and_true]) (fun _=>rfl) (by omega),M.out,A⟩
 ·have o:(Vl.parseType t).1.err≠0:=he
  obtain ⟨c,R⟩:∃ c,c=(Vl.parseType t).1.err:=⟨_,rfl⟩
  have F:(Vl.parseType (⟨t.toArray⟩:ByteArray).data.toList).1.err=c:=R.symm
  rw[F]
  have K:Hid (ok=false):=QA (by rw[D.out,decide_eq_false o,Bool.false_and])
  have X:((c:Int)==0)=false:=by rw[beq_eq_false_iff_ne];rw[R];omega
  clear he o R F
  go_wp2_with fail
  refine (S.out.need false).mono ?_
  rintro e w2 ⟨rfl,s2,h2,e2,o2,z2⟩
  have E:=QA h2
  have J:=QA e2
  have O:=QA (U.out.trans o2)
  have G:=e2.len
  clear h2 e2 o2
  go_wp2_with fail
  refine (wput_any w0 b s2 _ (E.out.alloc _) _ t _ (heap_at_new _ _) (by have:=E.out.lt;simp;omega) (by decide) (by omega)).mono ?_
  rintro e w3 ⟨rfl,s3,h3,e3,o3,z3⟩
  have Q:=QA h3
  have I:=QA (J.out.comp e3)
  have M:=QA ((O.out.alloc _).trans o3)
  have A:w.heap.size≤w3.heap.size:=by simp at z3;omega
  clear h3 e3 o3
  go_wp2_with fail
  go_end0
  exact ⟨rfl,s3,Q.out,I.out.to (by rw[K.out];rfl) (fun _=>rfl) (by omega),M.out,A⟩
set_option maxHeartbeats 1000000 in
set_option maxRecDepth 100000 in
theorem wvalue_any (w0:World) (b:Nat) (s:Vl.Sh) (w:World) (h:WW w0 b s w) (hE:Env w0) (h3:3≤w0.heap.size) (z:Vl.Z) (hz:z.cost≤1000000000) (a1 a2:Option Addr) (n1 n2:Nat) (hR:Reads w0 (fun _=>True) z.d (zcells z a1 a2 n1 n2).toList) (hl:s.out.length+z.cost≤1000000000000) :
  Calls Tryz.prog 179 #[.pointer (some ⟨b,0,none⟩),.agg (zcells z a1 a2 n1 n2)] w (WPost w0 b s w (z.good 0) z.str z.cost):=by
 have H:=QA (h.alloc (.cells (zcells z a1 a2 n1 n2) 25))
 have N:=QA ((Lib.OthersKept.refl 5 (some b) w).alloc (.cells (zcells z a1 a2 n1 n2) 25))
 have O:=QA (vshow_any z a1 a2 n1 n2 _ (hE.below H.out.bel) (by have:=H.out.bel.size;omega) hz (hR.to (Stands.below H.out.bel)))
 have P:=Vl.str_le z
 unfold zcells at H N O ⊢
 clear h hE hR
 go_enter Tryz.func179,Tryz.ntmps179
 go_wp2_with fail
 refine O.out.mono ?_
 rintro e w1 ⟨hb1,hres⟩
 have M:=QA (H.out.below hb1)
 have L:=QA (N.out.trans (ok8_below (b:=b) hb1))
 have Q:w.heap.size≤w1.heap.size:=by have:=hb1.size;simp at this;omega
 clear hb1
 cases hg:z.good 0
 ·have o:(Vl.shown z).bad=true:=Vl.shown_bad hg
  rw[o] at hres
  rcases hres with ⟨h,-⟩|⟨-,rfl⟩
  ·cases h
  have D:=QA hg
  clear hg o
  go_wp2_with fail
  refine (M.out.need false).mono ?_
  rintro e w2 ⟨rfl,s2,h2,e2,o2,z2⟩
  have B:=QA h2
  have G:=QA e2
  have E:=QA (L.out.trans o2)
  have K:=e2.len
  clear h2 e2 o2
  go_wp2_with fail
  refine (wput_any w0 b s2 _ (B.out.alloc _) _ [] _ (heap_at_new _ _) (by have:=B.out.lt;simp;omega) (by decide) (by simp;omega)).mono ?_
  rintro e w3 ⟨rfl,s3,h3,e3,o3,z3⟩
  have J:=QA h3
  have F:=QA (G.out.comp e3)
  have I:=QA ((E.out.alloc _).trans o3)
  have A:w.heap.size≤w3.heap.size:=by simp at z3;omega
  clear h3 e3 o3
  go_wp2_with fail
  go_end0
  exact ⟨rfl,s3,J.out,F.out.to (by rw[D.out];rfl) (fun e=>by rw[D.out] at e;cases e) (by simp),I.out,A⟩
 ·have C:Vl.shown z=⟨z.str,false⟩:=Vl.shown_good hg
  rw[C] at hres
  rcases hres with ⟨-,rfl⟩|⟨h,-⟩
  rotate_left
  ·cases h
  have D:=QA hg
  clear hg C
  go_wp2_with fail
  refine (M.out.need true).mono ?_
  rintro e w2 ⟨rfl,s2,h2,e2,o2,z2⟩
  have B:=QA h2
  have G:=QA e2
  have E:=QA (L.out.trans o2)
  have K:=e2.len
  clear h2 e2 o2
  go_wp2_with fail
  refine (wput_any w0 b s2 _ (B.out.alloc _) _ z.str _ (heap_at_new _ _) (by have:=B.out.lt;simp;omega) (by decide) (by omega)).mono ?_
  rintro e w3 ⟨rfl,s3,h3,e3,o3,z3⟩
  have J:=QA h3
  have F:=QA (G.out.comp e3)
  have I:=QA ((E.out.alloc _).trans o3)
  have A:w.heap.size≤w3.heap.size:=by simp at z3;omega
  clear h3 e3 o3
  go_wp2_with fail
  go_end0
  exact ⟨rfl,s3,J.out,F.out.to (by rw[D.out];rfl) (fun _=>rfl) (by omega),I.out,A⟩
end Go.Proofs.YtefjgpkpplkkgaaGreatDoor
