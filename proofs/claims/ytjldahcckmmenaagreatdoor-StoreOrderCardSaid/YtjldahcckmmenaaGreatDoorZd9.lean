/-
  Segments: Read, walked. The file system: Plan, walked. Frames and segments: what is read of what was written (no program in sight). Manifests: what is good, its bytes, and that both ways of reading them are one (plain). Saving and loading a manifest (plain); in calm weather. Saving a manifest, in any weather, and a crash behind it (plain). The file system: List, by the library's contracts on sorted keys. The file system: List, walked.
-/
import Derived.Test.YtjldahcckmmenaaGreatDoorZd8
import Derived.Test.YtjldahcckmmenaaGreatDoorZd7
import Derived.Lib.Join
import Derived.Shelf.SlIter.Nil
import Derived.Shelf.SortM.Plain
import Derived.Shelf.SortM.SortNone
import Derived.Sort.KeysCollected
open Bool renaming and_eq_true → ZA
open Go.Lib renaming hid → QA
open List renaming length_cons → QO, mem_cons_self → QP, length_append → QS, mem_cons_of_mem → QT, mem_of_getElem? → QZ, drop_eq_getElem_cons → ZB, drop_eq_nil_of_le → ZC, append_assoc → ZE, getElem?_map → ZF, getElem?_eq_getElem → ZG, mem_append → ZI, all_eq_true → ZK, map_cons → ZP, map_append → ZQ
open Nat renaming le_refl → QM, zero_le → ZS
namespace Go.Proofs.YtjldahcckmmenaaGreatDoor
set_option maxRecDepth 100000
set_option maxHeartbeats 4000000
set_option linter.unusedSimpArgs false
set_option linter.unusedVariables false
open Go Go.RowKit
open Go.Maps Go.WideMaps
namespace Sg
abbrev En:=Int×Fr.F
def badE:List Int→Int
 | []=>0
 | id::r=>if nameE id≠0 then nameE id else badE r
theorem badE_cons (id:Int) (r:List Int):badE (id::r)=if nameE id≠0 then nameE id else badE r:=rfl
def readGo (st:Fs.St):List Int→List En→Bool→List En×Bool×Int
 | [],out,wh=>(out,wh,0)
 | id::r,out,wh =>
  if Fs.openE st (nameB id)≠0 then ([],false,Fs.openE st (nameB id))
  else readGo st r (out++(Fr.scan (Fs.fileAt st (nameB id))).1.map (λf=>(id,f))) (decide ((Fr.scan (Fs.fileAt st (nameB id))).2=(Fs.fileAt st (nameB id)).length))
def read (st:Fs.St) (ids:List Int):List En×Bool×Int:=if badE ids≠0 then ([],false,badE ids) else readGo st ids [] true
theorem readGo_cons (st:Fs.St) (id:Int) (r:List Int) (out:List En) (wh:Bool):readGo st (id::r) out wh =
  if Fs.openE st (nameB id)≠0 then ([],false,Fs.openE st (nameB id))
  else readGo st r (out++(Fr.scan (Fs.fileAt st (nameB id))).1.map (λf=>(id,f))) (decide ((Fr.scan (Fs.fileAt st (nameB id))).2=(Fs.fileAt st (nameB id)).length)):=rfl
end Sg
theorem Fr.scanGo_len:∀(k:Nat) (l:List UInt8) (out:List Fr.F) (a:Nat),(Fr.scanGo k l out a).1.length≤out.length+k
 | 0,_,out,_=>QM _
 | k+1,l,out,a=>by
  unfold Fr.scanGo;split
  ·show out.length≤_;omega
  ·have:=Fr.scanGo_len k (l.drop (9+Fr.num l)) (out++[Fr.first l]) (a+(9+Fr.num l));simp at this;omega
theorem Fr.scan_len (l:List UInt8):(Fr.scan l).1.length≤l.length+1:=by
 have:=Fr.scanGo_len (l.length+1) l [] 0
 simpa [Fr.scan] using this
theorem CS.keep2 {w w':World} {base:Nat} {v:Value} {ps:List (Fr.F×Value)} (h:CS w base v ps) (hk:∀k,base≤k→k<w.heap.size→w'.heap[k]?=w.heap[k]?):CS w' base v ps :=
 ⟨AN h.row (λg hg=>hk g (h.row.lt g hg).1 (h.row.lt g hg).2),λp hp=>AN (h.pay p hp) (λg hg=>hk g ((h.pay p hp).lt g hg).1 ((h.pay p hp).lt g hg).2),h.apart⟩
theorem Db:∀(ps:List (Fr.F×Value)) (i:Nat) (p:Fr.F×Value),ps[i]?=some p→(Ch ps)[i*2]?=some (.int .i64 p.1.1)∧(Ch ps)[i*2+1]?=some p.2
 | [],i,p,h=>by simp at h
 | q::ps,0,p,h=>by
  simp at h;subst h;exact⟨rfl,rfl⟩
 | q::ps,i+1,p,h=>by
  have:=Db ps i p (by simpa using h);rw[show (i+1)*2=i*2+1+1 by omega];exact this
theorem CS.at {w:World} {base g n cap:Nat} {ps:List (Fr.F×Value)} (h:CS w base (.slice (some ⟨g,0,none⟩) n cap) ps) {i:Nat} {p:Fr.F×Value} (hi:ps[i]?=some p) :
  w.cell? ⟨g,i*2,none⟩=some (.int .i64 p.1.1)∧w.cell? ⟨g,i*2+1,none⟩=some p.2:=by
 obtain⟨B,C⟩:=Db ps i p hi;have o:=World.ownsRow.cells h.row (g:=g) rfl _ _ B;have A:=World.ownsRow.cells h.row (g:=g) rfl _ _ C;rw[addr_add]at o A;exact⟨o,A⟩
def CM (ps:List (Sg.En×Value)):List Value:=ps.flatMap λp=>[.int .i64 p.1.1,.int .i64 p.1.2.1,p.2]
structure CJ (w:World) (base:Nat) (v:Value) (ps:List (Sg.En×Value)):Prop where
 row:w.ownsRow base 114 3 v ps.length (CM ps)
 pay:∀p∈ps,Ag w base p.2 p.1.2.2
 apart:∀p∈ps,∀g,p.2.ownBlock=some g→v.ownBlock≠some g
theorem CJ.keep {w w':World} {base:Nat} {v:Value} {ps:List (Sg.En×Value)} (h:CJ w base v ps) (hb:Below w.heap.size w w'):CJ w' base v ps :=
 ⟨AN h.row (λg hg=>hb.block g (h.row.lt g hg).2),λp hp=>(h.pay p hp).keep hb,h.apart⟩
theorem CJ.nil (w:World) (base:Nat):CJ w base (.slice none 0 0) []:=⟨World.ownsRow_nil _ _ _ _,λp h=>by simp at h,λp h=>by simp at h⟩
theorem LF:(Tryz.prog.info? 114).map (λi=>(i.zero,i.size,i.bytes))=some (some (.agg #[.int .i64 0,.int .i64 0,.slice none 0 0]),3,40):=by kernel_rfl
theorem CJ.more {w w5:World} {base:Nat} {v v' x:Value} {ps:List (Sg.En×Value)} {f:Sg.En} (h:CJ w base v ps) (hx:Ag w base x f.2.2) (hne:∀g,x.ownBlock=some g→v.ownBlock≠some g)
  (hrow:w5.ownsRow base 114 3 v' (ps.length+1) (CM ps++[.int .i64 f.1,.int .i64 f.2.1,x])) (hg:w.grownBy w5 v.ownBlock) (hloc:v'.ownBlock=v.ownBlock∨v'.ownBlock=some w.heap.size) :
  CJ w5 base v' (ps++[(f,x)]):=by
 have o:∀(y:Value) (l:List UInt8),Ag w base y l→(∀g,y.ownBlock=some g→v.ownBlock≠some g)→Ag w5 base y l∧(∀g,y.ownBlock=some g→v'.ownBlock≠some g):=λy l hy hn =>
  ⟨AN hy (λg hg2=>hg.block g (hy.lt g hg2).2 (λe=>hn g hg2 e.symm)),λg hg2=>by
   rcases hloc with e|e
   ·rw[e];exact hn g hg2
   ·rw[e];intro e2;have:=(hy.lt g hg2).2;simp at e2;omega⟩
 refine⟨?_,λp hp=>?_,λp hp=>?_⟩
 ·rw[QS];unfold CM at hrow ⊢;rw[List.flatMap_append];exact hrow
 ·rcases ZI.1 hp with hp|hp
  ·exact (o p.2 p.1.2.2 (h.pay p hp) (h.apart p hp)).1
  ·simp at hp;subst hp;exact (o x f.2.2 hx hne).1
 ·rcases ZI.1 hp with hp|hp
  ·exact (o p.2 p.1.2.2 (h.pay p hp) (h.apart p hp)).2
  ·simp at hp;subst hp;exact (o x f.2.2 hx hne).2
def F8 (st:Fs.St) (ids:List Int) (w:World) (e:Ending) (w':World):Prop :=
 Below w.heap.size w w'∧∃v ps,e=.returned (.tuple #[v,.bool (Sg.read st ids).2.1,.int .i64 (Sg.read st ids).2.2])∧CJ w' w.heap.size v ps∧ps.map (·.1)=(Sg.read st ids).1
theorem Gk (base B:Nat) (st:Fs.St) (V:FsV) (own:Nat→Tag) (iv:Value) (ids:List Int) (w:World) (h:Aa base B st V own w) (hE:Aq base w) (hbase:base≤w.heap.size) (hS:Fs.Small st)
  (hI:Ints w iv ids) (hn:ids.length≤1000) :
  Calls Tryz.prog 47 #[.pointer (some ⟨B,0,none⟩),iv] w (F8 st ids w):=by
 obtain⟨ia,ic,rfl⟩:=hI.form;have H:=QA h;have aA:=QA hE;have HS:=QA hS;have HI:=QA hI;clear h hE hS hI;go_enter Tryz.func47,Tryz.ntmps47;go_wp2_with fail
 go_loopg [25] ids.length (λk s25 wr=>∃j:Nat,j≤ids.length∧k=ids.length-j∧s25=.int .i64 (j:Nat)∧Below w.heap.size w wr∧Sg.badE (ids.drop j)=Sg.badE ids)
 case atStart=>exact⟨0,ZS _,rfl,rfl,Below.refl _ _,rfl⟩
 case round =>
  obtain⟨j,hj,hk,rfl,hB,al⟩:=hrel;have HK:=QA hk;have HB:=QA hB;have W:=QA al;clear hk hB al;have bN:(0:Int)≤(j:Int):=Int.natCast_nonneg _;by_cases hjn:j<ids.length
  ·have aV:(j:Int)<(ids.length:Int):=by omega
   obtain⟨A,N⟩:∃x,ids[j]?=some x:=⟨_,ZG hjn⟩
   obtain⟨g,o,rfl,R,hc⟩:=(HI.out.below HB.out).at N;have HD:Hid (ids.drop j=A::ids.drop (j+1)):=by
    obtain⟨h1,h2⟩:=List.getElem?_eq_some_iff.1 N;rw[ZB h1,h2];exact QA rfl
   clear N;go_wp2_with fail;refine (Bn A wr base (aA.out.below (HB.out.mono hbase))).mono ?_;rintro e w1 ⟨rfl,hb1⟩;have Q:=QA (HB.out.trans (hb1.mono HB.out.size));obtain⟨E,hE⟩:∃E,E=Sg.nameE A:=⟨_,rfl⟩
   obtain⟨sn,L⟩:∃t:ByteArray,t=⟨(Sg.nameB A).toArray⟩:=⟨_,rfl⟩
   rw[← L,← hE];have HE:=QA hE;clear hE L hb1;by_cases hE0:E=0
   ·subst hE0;go_wp2_with fail;go_roundg (ids.length-(j+1))
    case measure=>rw[HK.out];omega
    case rel=>exact⟨j+1,by omega,rfl,by simp,Q.out,by rw[← W.out,HD.out];rw[Sg.badE_cons,if_neg (by rw[← HE.out];simp)]⟩
   ·have HR:Hid (Sg.read st ids=([],false,E)):=by
     have h1:Sg.badE ids=E:=by
      rw[← W.out,HD.out];rw[Sg.badE_cons,if_pos (by rw[← HE.out];exact hE0),HE.out]
     unfold Sg.read;rw[h1,if_pos hE0];exact QA rfl
    have a6:(E != 0)=true:=by rw[bne_iff_ne];exact hE0
    have aI:(E==0)=false:=by rw[beq_eq_false_iff_ne];exact hE0
    clear hE0;go_wp2_with fail;refine bodyPost_ret (v:=.tuple #[.slice none 0 0,.bool false,.int .i64 E]) (by simp[results,Tryz.results47,go_sem]) rfl ?_;exact⟨Q.out,_,[],by rw[HR.out],CJ.nil _ _,by rw[HR.out];rfl⟩
  ·have aV:(ids.length:Int)≤(j:Int):=by omega
   have bh:Hid (Sg.badE ids=0):=by
    rw[← W.out,ZC (by omega)];exact QA rfl
   have a9:Hid (Sg.read st ids=Sg.readGo st ids [] true):=by
    unfold Sg.read;rw[if_neg (by rw[bh.out];simp)];exact QA rfl
   go_wp2_with fail
   go_loopg [11,12,40] ids.length (λk s11 s12 s40 wq=>∃(i:Nat) (Z:List (Sg.En×Value)) (wh:Bool),i≤ids.length∧k=ids.length-i∧s40=.int .i64 (i:Nat)∧s12=.bool wh∧CJ wq w.heap.size s11 Z∧Sg.readGo st (ids.drop i) (Z.map (·.1)) wh=Sg.read st ids∧Below w.heap.size w wq∧Z.length≤i*70000)
   case atStart=>exact⟨0,[],true,ZS _,rfl,rfl,rfl,CJ.nil _ _,by rw[a9.out];rfl,HB.out,QM _⟩
   case round =>
    obtain⟨i,Z,wh,hi,hk,rfl,rfl,aK,aX,aN,au⟩:=hrel;have bl:=QA hk;have aw:=QA aK;have aT:=QA aX;have X:=QA aN;have aU:=QA au;clear hk aK aX aN au;have bI:(0:Int)≤(i:Int):=Int.natCast_nonneg _;by_cases hin:i<ids.length
    ·have ay:(i:Int)<(ids.length:Int):=by omega
     obtain⟨A,N⟩:∃x,ids[i]?=some x:=⟨_,ZG hin⟩
     obtain⟨g,o,rfl,R,hc⟩:=(HI.out.below X.out).at N;have HD:Hid (ids.drop i=A::ids.drop (i+1)):=by
      obtain⟨h1,h2⟩:=List.getElem?_eq_some_iff.1 N;rw[ZB h1,h2];exact QA rfl
     have az:Hid (Sg.read st ids=if Fs.openE st (Sg.nameB A)≠0 then ([],false,Fs.openE st (Sg.nameB A))
       else Sg.readGo st (ids.drop (i+1)) (Z.map (·.1)++(Fr.scan (Fs.fileAt st (Sg.nameB A))).1.map (λf=>(A,f))) (decide ((Fr.scan (Fs.fileAt st (Sg.nameB A))).2=(Fs.fileAt st (Sg.nameB A)).length))):=by
      rw[← aT.out,HD.out,Sg.readGo_cons];exact QA rfl
     clear N;go_wp2_with fail;refine (Bn A wr base (aA.out.below (X.out.mono hbase))).mono ?_;rintro e w1 ⟨rfl,hb1⟩;have Q:=QA (X.out.trans (hb1.mono X.out.size));have aQ:=QA (aw.out.keep hb1);obtain⟨sn,L⟩:∃t:ByteArray,t=⟨(Sg.nameB A).toArray⟩:=⟨_,rfl⟩
     rw[← L];have HN:Hid (sn.data.toList=Sg.nameB A):=by rw[L];exact QA rfl
     have bU:sn.size≤25:=by rw[L];exact D9 A
     clear L hb1;go_wp2_with fail;refine (DI base B st V own sn w1 (H.out.kept (AB Q.out)) (by omega) (λf hf=>by have:=HS.out.file f hf;omega)).mono ?_;rintro e w2 ⟨hb2,hres⟩;have ac:=QA (Q.out.trans (hb2.mono Q.out.size));have am:=QA (aQ.out.keep hb2);have a5:=hb2.size;rw[HN.out]at hres;clear hb2;rcases hres with⟨h0,f,v2,hf,rfl,ho2⟩|⟨h0,rfl⟩
     ·have aF:Hid (Fs.fileAt st (Sg.nameB A)=f.1):=by unfold Fs.fileAt;rw[hf];exact QA rfl
      have bO:=HS.out.file f (QZ hf);have a2:=QA ho2.byts;have bP:=QA ho2;have a8:=QA h0;obtain⟨da,dn,dc,be,bg⟩:=Ag.form3 ho2;subst be;clear hf h0 ho2;go_wp2_with fail;refine (JQ _ f.1 w2 a2.out (by omega)).mono ?_;rintro e w3 ⟨hb3,lv,qs,rfl,hF,hqs⟩;have bs:=QA (ac.out.trans (hb3.mono ac.out.size));have aE:=QA (am.out.keep hb3);have HF:=QA hF;have ba:=QA hqs;have a3:=hb3.size;have bJ:qs.length≤65537:=by
       have h1:=congrArg List.length hqs;rw[List.length_map]at h1;have h2:=Fr.scan_len f.1;omega
      obtain⟨NN,aq⟩:∃NN,NN=(Fr.scan f.1).2:=⟨_,rfl⟩
      rw[← aq];have a7:=QA aq;obtain⟨bL,bG,aa⟩:=BC hF.row;subst aa;have bn:Hid (∀g,u11.ownBlock=some g→g<w2.heap.size):=QA (λg R=>(am.out.row.lt g R).2);clear hb3 hF hqs aq;go_wp2_with fail
      go_loopg [11,65] qs.length (λk s11 s65 wi=>∃(m:Nat) (D:List (Sg.En×Value)),m≤qs.length∧k=qs.length-m∧s65=.int .i64 (m:Nat)∧CJ wi w.heap.size s11 D∧D.map (·.1)=Z.map (·.1)++(qs.take m).map (λq=>(A,q.1))∧D.length=Z.length+m ∧
       (∀g,s11.ownBlock=some g→g<w2.heap.size∨w3.heap.size≤g)∧(∀k,w2.heap.size≤k→k<w3.heap.size→wi.heap[k]?=w3.heap[k]?)∧w3.heap.size≤wi.heap.size∧Below w.heap.size w wi)
      case atStart=>exact⟨0,Z,ZS _,rfl,rfl,aE.out,by simp,rfl,λg R=>.inl (bn.out g R),λ_ _ _=>rfl,QM _,bs.out⟩
      case round =>
       obtain⟨m,D,hm,hk,rfl,ai,ae,T,ak,ag,bE,aM⟩:=hrel;have br:=QA hk;have af:=QA ai;have aj:=QA ae;have J:=QA T;have S:=QA ak;have an:=QA ag;have ao:=QA aM;clear hk ai ae T ak ag aM;have bR:(0:Int)≤(m:Int):=Int.natCast_nonneg _;by_cases hmn:m<qs.length
       ·have ax:(m:Int)<(qs.length:Int):=by omega
        obtain⟨⟨⟨F,pl⟩,pv⟩,hq⟩:∃q,qs[m]?=some q:=⟨_,ZG hmn⟩
        obtain⟨g2,c2,aa⟩:=Bj HF.out.row (by omega);simp only[Value.slice.injEq]at aa;obtain⟨aS,_,aP⟩:=aa;subst aS aP;have aG:=QA (HF.out.keep2 an.out);obtain⟨bj,bc⟩:=aG.out.at hq;have O:=aG.out.pay _ (QZ hq);have K:=HF.out.pay _ (QZ hq);obtain⟨G,M,I,aR,bH⟩:=Ag.form3 O;simp only at aR bj bc O K;subst aR;have aJ:=QA O;have ap:=QA K;have ar:Hid ((qs.take (m+1)).map (λq=>(A,q.1))=(qs.take m).map (λq=>(A,q.1))++[(A,F,pl)]):=by
         rw[List.take_add_one,hq,ZQ];exact QA rfl
        have bS:g2<wr.heap.size:=by have:=(HF.out.row.lt g2 rfl).2;omega
        obtain⟨i0,bf,bv,bk,bd⟩:=info_parts LF;have au:D.length≤1000000000:=by have:=J.out;have:=aU.out;omega
        have U:Below wr.heap.size wr ((wr.alloc (.cells #[.int .i64 F,.slice G M I] 112)).alloc (.cells #[.int .i64 A,.int .i64 F,.slice G M I] 114)):=((Below.refl _ _).alloc (QM _) _).alloc (by simp) _;have Y:=QA (af.out.keep U);have bp:=QA ((aJ.out.keep U).mono ac.out.size);have aH:=QA (ao.out.trans (U.mono ao.out.size));have P:=aH.out.size;have bt:Hid (∀(j:Nat) u,[Value.int .i64 A,Value.int .i64 F,Value.slice G M I][j]?=some u→((wr.alloc (.cells #[.int .i64 F,.slice G M I] 112)).alloc (.cells #[.int .i64 A,.int .i64 F,.slice G M I] 114)).cell? ((⟨wr.heap.size+1,0,none⟩:Addr).add j)=some u):=by
         refine QA λj u hj=>?_
         rw[addr_add];have:=Ak (wr.alloc (.cells #[.int .i64 F,.slice G M I] 112)) #[.int .i64 A,.int .i64 F,.slice G M I] 114 j u (by simpa using hj);rw[show (wr.alloc (.cells #[.int .i64 F,.slice G M I] 112)).heap.size=wr.heap.size+1 by simp]at this;exact this
        have aY:Hid (∀u∈[Value.int .i64 A,Value.int .i64 F,Value.slice G M I],u.oneCell'=true):=QA (λu hu=>by simp at hu;rcases hu with rfl|rfl|rfl<;>rfl);have bi:Hid (∀g,(Value.slice G M I).ownBlock=some g→u11.ownBlock≠some g):=QA (λg R e=>by
         have h1:=ap.out.lt g R;have h2:=S.out g e;omega)
        have bm:Hid (∀k,k<w3.heap.size→((wr.alloc (.cells #[.int .i64 F,.slice G M I] 112)).alloc (.cells #[.int .i64 A,.int .i64 F,.slice G M I] 114)).heap[k]?=wr.heap[k]?):=QA (λk hk=>U.block k (by omega));have bu:Hid (wr.heap.size+2=((wr.alloc (.cells #[.int .i64 F,.slice G M I] 112)).alloc (.cells #[.int .i64 A,.int .i64 F,.slice G M I] 114)).heap.size):=QA (by simp);clear U O K hq;go_wp2_with (first|(at_builtin;refine wpList_append_own_at _ rfl _ _ 108 rfl w.heap.size 114 i0 _ 3 40 Tryz.underlying108 bf bv bk bd rfl (by decide) u11 D.length (CM D) rfl Y.out.row ⟨wr.heap.size+1,0,none⟩ 1 1 [.int .i64 A,.int .i64 F,.slice G M I] rfl rfl bt.out aY.out (by unfold maxLen;omega) (by omega) P ?_;intro d' w5 hown5 hgrow5 hnil5 hloc5;clear hnil5;have aC:=QA (CJ.more (f:=(A,F,pl)) Y.out bp.out bi.out hown5 hgrow5 hloc5);have bb:=QA (below_grown aH.out P Y.out.row hgrow5);have aB:=QA hgrow5;have a4:=QA hloc5;clear hloc5 hown5 hgrow5)|fail);go_roundg (qs.length-(m+1))
        case measure=>rw[br.out];omega
        case rel =>
         have bV:=bu.out;have bx:=aB.out.size;refine⟨m+1,_,by omega,rfl,by simp,aC.out,by rw[ZQ,aj.out,ar.out,ZE];rfl,by rw[QS,J.out];simp;omega,λg R=>?_,λk hk1 hk2=>?_,by omega,bb.out⟩
         ·rcases a4.out with e|e
          ·rw[e]at R;exact S.out g R
          ·rw[e]at R;simp only[Option.some.injEq]at R;omega
         ·rw[aB.out.block k (by omega) (λe=>by have:=S.out k e.symm;omega),bm.out k hk2];exact an.out k hk1 hk2
       ·have ax:(qs.length:Int)≤(m:Int):=by omega
        have ar:Hid (qs.take m=qs):=QA (List.take_of_length_le (by omega));go_wp2_with fail;go_roundg (ids.length-(i+1))
        case measure=>rw[bl.out];omega
        case rel =>
         refine⟨i+1,D,decide ((Fr.scan (Fs.fileAt st (Sg.nameB A))).2=(Fs.fileAt st (Sg.nameB A)).length),by omega,rfl,by simp,?_,af.out,?_,ao.out,by have:=J.out;have:=aU.out;omega⟩
         ·rw[aF.out,← a7.out,← bg.out]
          congr 1
          rw[Bool.eq_iff_iff,beq_iff_eq,decide_eq_true_iff];omega
         ·rw[az.out,if_neg (by rw[a8.out];simp),aj.out,ar.out,aF.out,← ba.out,List.map_map];rfl
     ·have HR:Hid (Sg.read st ids=([],false,Fs.openE st (Sg.nameB A))):=by
       rw[az.out,if_pos h0];exact QA rfl
      obtain⟨C,hC⟩:∃C,C=Fs.openE st (Sg.nameB A):=⟨_,rfl⟩
      rw[← hC]at h0 ⊢;have HC:=QA hC;have a6:(C != 0)=true:=by rw[bne_iff_ne];exact h0
      have aI:(C==0)=false:=by rw[beq_eq_false_iff_ne];exact h0
      clear h0 hC;go_wp2_with fail;refine bodyPost_ret (v:=.tuple #[.slice none 0 0,.bool false,.int .i64 C]) (by simp[results,Tryz.results47,go_sem]) rfl ?_;exact⟨ac.out,_,[],by rw[HR.out,← HC.out],CJ.nil _ _,by rw[HR.out];rfl⟩
    ·have ay:(ids.length:Int)≤(i:Int):=by omega
     have ah:Hid (Sg.read st ids=(Z.map (·.1),wh,0)):=by
      rw[← aT.out,ZC (by omega)];exact QA rfl
     go_wp2_with fail;refine bodyPost_ret (v:=.tuple #[u11,.bool wh,.int .i64 0]) (by simp[results,Tryz.results47,go_sem]) rfl ?_;exact⟨X.out,u11,Z,by rw[ah.out],aw.out,by rw[ah.out]⟩
open Go.Maps Go.WideMaps
theorem EU (v:Value) (l:List Int) (w:World) (h:Ints w v l) (hl:l.length≤1000000) :
  Calls Tryz.prog 49 #[v] w λe w'=>∃v',e=.returned v'∧Am w' w.heap.size v' l∧Below w.heap.size w w':=by
 obtain⟨a,c,E,A⟩:=h;subst E;cases a with
 | none =>
  have B:l=[]:=by
   cases l with
   | nil=>rfl
   | cons x r=>obtain⟨b,o,e,_⟩:=A 0 x rfl;cases e
  subst B;refine (Tryz.slices_Clone_int_nil 0 c w).mono ?_;rintro e w' ⟨rfl,rfl⟩;exact⟨_,rfl,World.ownsRow_nil _ _ _ _,Below.refl _ _⟩
 | some p =>
  cases l with
  | nil =>
   refine (Tryz.slices_Clone_int_zero p c w).mono ?_;rintro e w' ⟨v',rfl,h3,_,h4⟩;exact⟨v',rfl,h3,h4⟩
  | cons x r =>
   obtain⟨b,o,e,_⟩:=A 0 x rfl;cases e;refine (Tryz.slices_Clone_int b o (x::r).length c (x::r) w (QM _) (by omega) ?_).mono ?_
   ·intro j hj;obtain⟨G,C,D,_,F⟩:=A j (x::r)[j] (ZG hj);simp only[Option.some.injEq,Addr.mk.injEq,and_true]at D;obtain⟨rfl,rfl⟩:=D;rw[F,List.getD_eq_getElem?_getD,ZG hj];rfl
   ·rintro e w' ⟨v',rfl,h3,_,h4⟩;rw[List.take_of_length_le (QM _)]at h3;exact⟨v',rfl,h3,h4⟩
namespace Fs
end Fs
theorem Am.plan {w:World} {base:Nat} {v:Value} {l:List Int} {own:Nat→Tag} (h:Am w base v l) (ht:∀g,v.ownBlock=some g→own g=.plan):BJ w own v l:=by
 obtain⟨a,c,A,E⟩:=h.nums;have D:l.length≤c:=by
  rcases h.2 with⟨o,C⟩|⟨g,cap,cur,o,hg,hb,D,hm,_,_⟩
  ·rw[C];exact ZS _
  ·rw[o]at A;simp only[Value.slice.injEq]at A;omega
 refine⟨a,c,A,D,λi x hi=>?_⟩;obtain⟨b,B,e,o,C⟩:=E i x hi;exact⟨b,B,e,ht b (by rw[A,e];rfl),o,C⟩
namespace Fr
theorem go_frame {k:Int} {p:List UInt8} (h:encE k p=0) (r:List UInt8):stop (bytes k p++r)=false∧first (bytes k p++r)=(k,p)∧(bytes k p++r).drop (9+num (bytes k p++r))=r∧9+num (bytes k p++r)=(bytes k p).length:=by
 obtain⟨B,C,A⟩:=dec_bytes h;have o:=E9 (k:=k) A r;refine⟨?_,?_,?_,?_⟩
 ·unfold stop;rw[o,EL,B,QS,bytes_len];simp;omega
 ·unfold first
  rw[o,EL,kind_bytes C,pay_bytes]
 ·rw[o,HY]
 ·rw[o,bytes_len];omega
def flat (fs:List F):List UInt8:=fs.flatMap λf=>bytes f.1 f.2
theorem flat_app (a b:List F):flat (a++b)=flat a++flat b:=List.flatMap_append ..
theorem flat_one (f:F):flat [f]=bytes f.1 f.2:=by simp[flat]
theorem Dh (t:List UInt8) (ht:stop t=true):∀(fs:List F) (k:Nat) (out:List F) (a:Nat),(∀f∈fs,encE f.1 f.2=0)→fs.length<k →
  scanGo k (flat fs++t) out a=(out++fs,a+(flat fs).length)
 | [],k,out,a,_,hk=>by
  obtain⟨o,rfl⟩:∃o,k=o+1:=⟨k-1,by simp at hk;omega⟩
  show (if stop ([]++t) then _ else _)=_;rw[List.nil_append,if_pos ht];simp[flat]
 | f::fs,k,out,a,hf,hk=>by
  obtain⟨o,rfl⟩:∃o,k=o+1:=⟨k-1,by simp at hk;omega⟩
  have A:flat (f::fs)=bytes f.1 f.2++flat fs:=by simp[flat]
  obtain⟨D,E,B,C⟩:=go_frame (hf f QP) (flat fs++t);rw[A,ZE];unfold scanGo;rw[if_neg (by rw[D];simp),E,B,C,Dh t ht fs o (out++[(f.1,f.2)]) _ (λg hg=>hf g (QT _ hg)) (by simp at hk;omega),ZE,QS,Nat.add_assoc];rfl
theorem flat_len (fs:List F):fs.length≤(flat fs).length:=by
 induction fs with
 | nil=>simp
 | cons f fs ih =>
  have o:flat (f::fs)=bytes f.1 f.2++flat fs:=by simp[flat]
  rw[o,QS,bytes_len,QO];omega
theorem scan_flat (t:List UInt8) (ht:stop t=true) (fs:List F) (hf:∀f∈fs,encE f.1 f.2=0):scan (flat fs++t)=(fs,(flat fs).length):=by
 unfold scan;rw[Dh t ht fs _ [] 0 hf (by have:=flat_len fs;rw[QS];omega)];simp
theorem stop_nil:stop []=true:=rfl
end Fr
namespace Sg
theorem good_name {id:Int} (h:nameE id=0):Fs.good (nameB id)=true:=by
 obtain⟨F,H,C⟩:=Hv h;obtain⟨_,D⟩:=dval_dec id.toNat 0;have G:=nameB_len id;have o:(nameB id).length≤20:=by
  have E:=(id_name h).2;have A:Hr (nameB id)≠0:=by rw[E];omega
  unfold Hr at A;by_cases hc:(nameB id).length<5∨14<(nameB id).length∨(nameB id).take 4≠seg
  ·rw[if_pos hc]at A;exact absurd rfl A
  ·omega
 unfold Fs.good;rw[C]at o ⊢;have B:(seg++Lib.decDigits id.toNat).all Fs.goodB=true:=by
  rw[List.all_append,ZA];refine⟨by decide,ZK.2 λc hc=>?_⟩;have:=ZK.1 D c hc;unfold isDig at this;simp only[ZA,decide_eq_true_eq]at this;unfold Fs.goodB;simp[this.1,this.2]
 rw[B,decide_eq_true (p:=1≤(seg++Lib.decDigits id.toNat).length) (by rw[QS];show 1≤4+_;omega),decide_eq_true o];rfl
theorem name_inj {a b:Int} (ha:nameE a=0) (hb:nameE b=0) (h:nameB a=nameB b):a=b:=by
 have o:=(id_name ha).1;have A:=(id_name hb).1;rw[h]at o;omega
abbrev Seg:=Int×List Fr.F
def segs (l:List Seg):Fs.Segs:=l.map λs=>(nameB s.1,Fr.flat s.2)
structure GD (st:Fs.St) (l:List Seg):Prop where
 rep:Fs.Rep st (segs l)
 ok:∀s∈l,nameE s.1=0
 enc:∀s∈l,∀f∈s.2,Fr.encE f.1 f.2=0
def size (l:List Seg):Nat:=(l.map λs=>(Fr.flat s.2).length).sum
theorem Ib (l:List Seg):((segs l).map (·.2.length)).sum=size l:=by
 unfold segs size;rw[List.map_map];rfl
theorem FL {l:List Seg} {i:Nat} {s:Seg} (h:l[i]?=some s):(segs l)[i]?=some (nameB s.1,Fr.flat s.2):=by
 unfold segs;rw[ZF,h];rfl
section
variable {st : Fs.St} {l : List Seg}
theorem GD.create (h:GD st l) {id:Int} (hid:nameE id=0) (hn:∀s∈l,s.1≠id) (hl:l.length<64) :
  (Sg.create st id).2=0∧GD (Sg.create st id).1 (l++[(id,[])])∧(Sg.create st id).1.room=st.room∧(Sg.create st id).1.changes=[]:=by
 obtain⟨B,E,A,_⟩:=h.rep.create (good_name hid) (λs hs e=>by
  unfold segs at hs;obtain⟨t,o,rfl⟩:=List.mem_map.1 hs;exact hn t o (name_inj (h.ok t o) hid e)) (by unfold segs;simpa using hl)
 obtain⟨H,C,F,D⟩:=E.syncDir;have G:Sg.create st id=Fs.syncDir (Fs.create st (nameB id)).1:=by
  unfold Sg.create;rw[if_neg (by rw[hid];simp),if_neg (by rw[B];simp)]
 rw[G];refine⟨H,⟨?_,λs hs=>?_,λs hs=>?_⟩,F.trans A,D⟩
 ·have:segs (l++[(id,[])])=segs l++[(nameB id,[])]:=by unfold segs;rw[ZQ];rfl
  rw[this];exact C
 ·rcases ZI.1 hs with hs|hs
  ·exact h.ok s hs
  ·simp at hs;subst hs;exact hid
 ·rcases ZI.1 hs with hs|hs
  ·exact h.enc s hs
  ·simp at hs;subst hs;intro f hf;simp at hf
theorem GD.append (h:GD st l) {i:Nat} {s:Seg} (hi:l[i]?=some s) {k:Int} {p:List UInt8} (hk:Fr.encE k p=0) (hb:(Fr.flat s.2).length+(p.length+9)≤65536) (hr:(size l:Int)+(p.length+9:Nat)≤st.room) :
  (Sg.append st s.1 k p).2=0∧GD (Sg.append st s.1 k p).1 (l.set i (s.1,s.2++[(k,p)]))∧(Sg.append st s.1 k p).1.room=st.room∧(Sg.append st s.1 k p).1.changes=st.changes:=by
 have o:=h.ok s (QZ hi);have B:=good_name o;obtain⟨D,G,C,I⟩:=h.rep.append (s:=(nameB s.1,Fr.flat s.2)) (FL hi) B (Fr.bytes k p) (by rw[Fr.bytes_len];exact hb) (by rw[Ib,Fr.bytes_len];exact hr);have A:i<(segs l).length:=(List.getElem?_eq_some_iff.1 (FL hi)).1;obtain⟨K,E,H,F⟩:=G.sync (i:=i) (s:=(nameB s.1,Fr.flat s.2++Fr.bytes k p)) (List.getElem?_set_self A) B;have J:Sg.append st s.1 k p=Fs.sync (Fs.append st (nameB s.1) (Fr.bytes k p)).1 (nameB s.1):=by
  unfold Sg.append;rw[if_neg (by rw[o];simp),if_neg (by rw[hk];simp),if_neg (by rw[D];simp)]
 rw[J];refine⟨K,⟨?_,λt ht=>?_,λt ht=>?_⟩,H.trans C,F.trans I⟩
 ·have:segs (l.set i (s.1,s.2++[(k,p)]))=(segs l).set i (nameB s.1,Fr.flat s.2++Fr.bytes k p):=by
   unfold segs;rw[List.map_set,Fr.flat_app,Fr.flat_one]
  rw[this];exact E
 ·rcases List.mem_or_eq_of_mem_set ht with ht|rfl
  ·exact h.ok t ht
  ·exact o
 ·rcases List.mem_or_eq_of_mem_set ht with ht|rfl
  ·exact h.enc t ht
  ·intro f hf;rcases ZI.1 hf with hf|hf
   ·exact h.enc s (QZ hi) f hf
   ·simp at hf;subst hf;exact hk
theorem read_go (hS:∀s∈l,Fs.openE st (nameB s.1)=0) (hF:∀s∈l,Fr.scan (Fs.fileAt st (nameB s.1))=(s.2,(Fs.fileAt st (nameB s.1)).length)) :
  ∀(out:List En),readGo st (l.map (·.1)) out true=(out++l.flatMap (λs=>s.2.map λf=>(s.1,f)),true,0):=by
 induction l with
 | nil=>intro out;simp[readGo]
 | cons s l ih =>
  intro out;rw[ZP,readGo_cons,if_neg (by rw[hS s QP];simp),hF s QP];simp only[decide_true];rw[ih (λt ht=>hS t (QT _ ht)) (λt ht=>hF t (QT _ ht)),ZE,List.flatMap_cons]
theorem bad_none:∀(l:List Seg),(∀s∈l,nameE s.1=0)→badE (l.map (·.1))=0
 | [],_=>rfl
 | s::l,h=>by
  rw[ZP,badE_cons,if_neg (by rw[h s QP];simp)];exact bad_none l (λt ht=>h t (QT _ ht))
theorem GD.read (h:GD st l):Sg.read st (l.map (·.1))=(l.flatMap (λs=>s.2.map λf=>(s.1,f)),true,0):=by
 unfold Sg.read;rw[if_neg (by rw[bad_none l h.ok];simp),read_go (l:=l)]
 ·rfl
 ·intro s hs;obtain⟨i,o⟩:=List.getElem?_of_mem hs;exact (h.rep.at (FL o)).2.2 (good_name (h.ok s hs))
 ·intro s hs;obtain⟨i,o⟩:=List.getElem?_of_mem hs;have:=(h.rep.at (FL o)).2.1;show Fr.scan (Fs.fileAt st (nameB s.1))=(s.2,(Fs.fileAt st (nameB s.1)).length);rw[show Fs.fileAt st (nameB s.1)=Fr.flat s.2 from this];have A:=Fr.scan_flat [] Fr.stop_nil s.2 (h.enc s hs)
  rwa [List.append_nil]at A
end
end Sg
namespace Mf
-- A manifest: what is good, its bytes.
def incr:Int→List Int→Bool
 | _,[]=>true
 | last,n::r=>decide (last<n)&&(decide (n≤2147483647)&&incr n r)
def good (v:Int) (l:List Int):Bool:=(decide (1≤v)&&decide (v≤2147483647))&&((decide (1≤l.length)&&decide (l.length≤32))&&incr 0 l)
def pay (ns:List Int):List UInt8:=ns.flatMap λn=>Lib.itoa n++[10]
def enc (v:Int) (l:List Int):List UInt8:=Fr.bytes 9 (pay (v::l))
theorem incr_pos:∀{l:List Int} {last:Int},0≤last→incr last l=true→∀n∈l,1≤n∧n≤2147483647
 | [],_,_,_,n,hn=>by cases hn
 | x::r,last,h0,h,n,hn=>by
  rw[incr]at h;simp only[ZA,decide_eq_true_eq]at h;rcases List.mem_cons.1 hn with rfl|hn
  ·omega
  ·exact incr_pos (by omega) h.2.2 n hn
theorem good_out {v:Int} {l:List Int} (h:good v l=true):(1≤v∧v≤2147483647)∧(1≤l.length∧l.length≤32)∧incr 0 l=true:=by
 unfold good at h;simp only[ZA,decide_eq_true_eq]at h;exact⟨h.1,h.2.1,h.2.2⟩
theorem good_all {v:Int} {l:List Int} (h:good v l=true):∀n∈v::l,1≤n∧n≤2147483647:=by
 obtain⟨A,-,o⟩:=good_out h;intro n hn;rcases List.mem_cons.1 hn with rfl|hn
 ·exact A
 ·exact incr_pos (by omega) o n hn
theorem GG {n:Int} (h:1≤n):Lib.itoa n=Lib.decDigits n.toNat:=by
 have:=Lib.itoa_nonneg n.toNat
 rwa [show ((n.toNat:Nat):Int)=n by omega]at this
theorem Fe:∀{l:List Int},(∀n∈l,1≤n∧n≤2147483647)→(pay l).length≤22*l.length
 | [],_=>QM _
 | x::r,h=>by
  have:=Fe (l:=r) (λn hn=>h n (by simp[hn]));have o:=h x (by simp);have:=Lib.itoa_length_le x (by omega) (by omega);unfold pay at *;rw[List.flatMap_cons,QS,QS,List.length_singleton,QO];omega
theorem enc_ok {v:Int} {l:List Int} (h:good v l=true):Fr.encE 9 (pay (v::l))=0:=by
 have o:=Fe (good_all h);have A:=(good_out h).2.1;unfold Fr.encE;rw[if_neg (by omega),if_neg (by rw[QO]at o;omega)]
-- Read back: by the library's parts.
def lines (p:List UInt8):List (List UInt8):=Lib.splitK [10] 0 (p.count 10) p
def nums:List (List UInt8)→Option (List Int)
 | []=>some []
 | x::r=>match Lib.atoiAll x with
  | .ok n=>(nums r).map (n::·)
  | _=>none
def fit (b:List UInt8):List Int→Option (Int×List Int)
 | []=>none
 | v::l=>if good v l=true∧enc v l=b then some (v,l) else none
def read (b:List UInt8):Option (Int×List Int) :=
 if Fr.decE b≠0∨Fr.kind b≠9 then none else (nums (lines (Lib.trimSuffix (Fr.pay b) [10]))).bind (fit b)
theorem GP (x y:List UInt8) (r:List (List UInt8)) (sep:List UInt8):Lib.join (x::y::r) sep=x++(sep++Lib.join (y::r) sep):=by
 simp[Lib.join,List.intercalate]
theorem index_line (x r:List UInt8) (h:(10:UInt8) ∉ x):Lib.index (x++10::r) [10]=(x.length:Nat):=by
 apply Lib.index_first
 ·simp
 ·simp[Lib.occAt,List.isPrefixOf]
 ·intro j hj;unfold Lib.occAt;have A:(x++10::r).drop j=x[j]'hj::(x.drop (j+1)++10::r):=by
   rw[List.drop_append_of_le_length (by omega),ZB hj];rfl
  rw[A];have o:(10:UInt8)≠x[j]'hj:=λe=>h (e▸List.getElem_mem hj)
  simp[List.isPrefixOf,o]
theorem Dz:∀(x:List UInt8) (r:List (List UInt8)),(∀l∈x::r,(10:UInt8) ∉ l)→lines (Lib.join (x::r) [10])=x::r
 | x,[],h=>by
  unfold lines;rw[Lib.join_one,List.count_eq_zero_of_not_mem (h x (by simp))];rfl
 | x,y::r,h=>by
  have A:=h x (by simp);have o:=Dz y r (λl hl=>h l (by simp at hl ⊢;exact .inr hl));unfold lines at o ⊢;rw[GP];show Lib.splitK [10] 0 ((x++10::Lib.join (y::r) [10]).count 10) (x++10::Lib.join (y::r) [10])=_;have C:(x++10::Lib.join (y::r) [10]).count 10=(Lib.join (y::r) [10]).count 10+1:=by
   rw[List.count_append,List.count_eq_zero_of_not_mem A,List.count_cons_self];omega
  rw[C,Lib.splitK,index_line x _ A,if_neg (by simp)];have D:((x.length:Nat):Int).toNat=x.length:=by omega
  rw[D];have B:(x++10::Lib.join (y::r) [10]).drop (x.length+([10]:List UInt8).length)=Lib.join (y::r) [10]:=by
   rw[← List.drop_drop,List.drop_left];rfl
  rw[B,o];simp
theorem F3:∀(x:Int) (r:List Int),pay (x::r)=Lib.join ((x::r).map Lib.itoa) [10]++[10]
 | x,[]=>by simp[pay,Lib.join_one]
 | x,y::r=>by
  have:=F3 y r;unfold pay at this ⊢;rw[List.flatMap_cons,this,show (x::y::r).map Lib.itoa=Lib.itoa x::Lib.itoa y::r.map Lib.itoa from rfl,GP];simp
theorem Jd (x:Int) (r:List Int):Lib.trimSuffix (pay (x::r)) [10]=Lib.join ((x::r).map Lib.itoa) [10]:=by
 rw[F3];unfold Lib.trimSuffix;rw[if_pos (by simp[Lib.hasSuffix,List.isSuffixOf])];simp
theorem Jr {c:UInt8} (h:Sg.isDig c=true):c≠10:=by
 intro e;rw[e]at h;revert h;decide
theorem IQ {n:Int} (h:1≤n):(10:UInt8) ∉ Lib.itoa n:=by
 rw[GG h];intro hm;have:=ZK.1 (Sg.dval_dec n.toNat 0).2 10 hm;exact Jr this rfl
theorem E2:∀{l:List Int},(∀n∈l,1≤n∧n≤2147483647)→nums (l.map Lib.itoa)=some l
 | [],_=>rfl
 | x::r,h=>by
  have o:=h x (by simp);have A:=E2 (l:=r) (λn hn=>h n (by simp[hn]));rw[ZP,nums,GG o.1,Sg.atoi_dec x.toNat (by omega),A];show some (((x.toNat:Nat):Int)::r)=_;rw[show ((x.toNat:Nat):Int)=x by omega]
theorem Jb {v:Int} {l:List Int} (h:good v l=true):fit (enc v l) (v::l)=some (v,l):=by
 rw[fit,if_pos ⟨h,rfl⟩]
theorem EK {l:List Int} {v:Int} (h:∀n∈v::l,1≤n∧n≤2147483647):lines (Lib.join ((v::l).map Lib.itoa) [10])=(v::l).map Lib.itoa:=by
 rw[ZP];refine Dz _ _ (λx hx=>?_);rw[← ZP (f:=Lib.itoa)]at hx;obtain⟨n,o,rfl⟩:=List.mem_map.1 hx;exact IQ (h n o).1
theorem JO {v:Int} {l:List Int} (h:good v l=true):read (enc v l)=some (v,l):=by
 have A:=Fr.dec_bytes (enc_ok h);have B:Fr.kind (enc v l)=9:=Fr.kind_bytes (by decide);have o:Fr.pay (enc v l)=pay (v::l):=Fr.pay_bytes;unfold read;rw[if_neg (by rw[B];intro hc;rcases hc with hc|hc;exact hc A.1;exact hc rfl),o,Jd,EK (good_all h),E2 (good_all h)];exact Jb h
-- Read back: by the reference.
def scan:Nat→Nat→List Int→List UInt8→Option (List Int)
 | _,_,acc,[]=>some acc
 | n,d,acc,c::r=>if c.toNat=10 then scan 0 0 (acc++[(n:Int)]) r else if Sg.isDig c=false∨9<d then none else scan (n*10+(c.toNat-48)) (d+1) acc r
end Mf
namespace Fs
def first:List (St→St×Int)→St→St×Int
 | [],st=>(st,0)
 | f::r,st=>if (f st).2≠0 then f st else first r (f st).1
theorem first_ok {f:St→St×Int} {r:List (St→St×Int)} {st st':St} (h:f st=(st',0)):first (f::r) st=first r st':=by
 rw[first,h,if_neg (by simp)]
end Fs
namespace Mf
def final:List UInt8:=[109,97,110,105,102,101,115,116]
def draft:List UInt8:=[109,97,110,105,102,101,115,116,46,116,109,112]
def clear (st:Fs.St):Fs.St×Int:=if Fs.mhas st.dir draft then Fs.remove st draft else (st,0)
def steps (b:List UInt8):List (Fs.St→Fs.St×Int) :=
 [clear,λst=>Fs.create st draft,λst=>Fs.append st draft b,λst=>Fs.sync st draft,λst=>Fs.rename st draft final,Fs.syncDir]
def save (st:Fs.St) (v:Int) (l:List Int):Fs.St×Int:=if good v l=false then (st,1) else Fs.first (steps (enc v l)) st
def load (st:Fs.St):(Int×List Int)×Int :=
 if Fs.openE st final≠0 then ((0,[]),Fs.openE st final) else match read (Fs.fileAt st final) with
  | some m=>(m,0)
  | none=>((0,[]),2)
theorem Cu:Fs.good final=true:=by decide
theorem BG:Fs.good draft=true:=by decide
theorem enc_len {v:Int} {l:List Int} (h:good v l=true):(enc v l).length≤800:=by
 have o:=Fe (good_all h);have A:=(good_out h).2.1;rw[QO]at o;unfold enc;rw[Fr.bytes_len];omega
theorem load_look {st:Fs.St} {v:Int} {l:List Int} (h:good v l=true) (hf:Fs.look st final=some (enc v l)):load st=((v,l),0):=by
 obtain⟨o,A⟩:=Fs.look_some hf;unfold load;rw[if_neg (by rw[Fs.openE_of Cu o];simp),A,JO h]
theorem load_none {st:Fs.St} (hf:Fs.look st final=none):load st=((0,[]),3):=by
 have o:=Fs.look_none hf;have:Fs.openE st final=3:=by unfold Fs.openE;rw[if_neg (by rw[Cu];simp),if_pos o]
 unfold load;rw[this,if_pos (by simp)]
theorem save_calm {st:Fs.St} (hc:Fs.Calm st) (hi:Fs.Inv st) {v:Int} {l:List Int} (hg:good v l=true) (hd:st.dir.length<64) {M:Nat} (hM:∀n b,Fs.look st n=some b→b.length≤M)
  (hr:((st.dir.length+1)*M+800:Nat)≤st.room) (hfl:∀f∈st.files,f.1.length≤65536) :
  (save st v l).2=0∧Fs.Next st (save st v l).1 3∧(save st v l).1.dir.length≤st.dir.length+1∧(Fs.mhas st.dir final=true→(save st v l).1.dir.length≤st.dir.length) ∧
   (∀f∈(save st v l).1.files,f.1.length≤65536)∧∀m,Fs.look (save st v l).1 m=if m=final then some (enc v l) else if m=draft then none else Fs.look st m:=by
 have X:=enc_len hg;have V:save st v l=Fs.first (steps (enc v l)) st:=by unfold save;rw[if_neg (by rw[hg];simp)]
 rw[V];clear V;have A:¬final=draft:=by decide
 obtain⟨o,e1,C,d1,ap,g1,f1,N⟩:∃o,clear st=(o,0)∧Fs.Next st o 1∧o.dir.length≤st.dir.length∧o.dir.length+1≤64∧(Fs.mhas o.dir final=Fs.mhas st.dir final)∧o.files=st.files∧∀m,Fs.look o m=if m=draft then none else Fs.look st m:=by
  cases hh:Fs.mhas st.dir draft
  ·refine⟨st,by unfold clear;rw[hh];rfl,⟨hc,hi,rfl,Nat.le_succ _,Nat.le_succ _⟩,QM _,hd,rfl,rfl,λm=>?_⟩;by_cases hm:m=draft
   ·rw[if_pos hm,hm];unfold Fs.look;rw[hh];rfl
   ·rw[if_neg hm]
  ·obtain⟨Y,h2,S,L,W⟩:=Fs.calm_remove hc hi BG hh;refine⟨(Fs.remove st draft).1,by unfold clear;rw[if_pos hh];exact Prod.ext rfl Y,h2,by rw[S];exact Fs.mdel_len _ _,by rw[S];have:=Fs.mdel_len st.dir draft;omega,?_,L,W⟩;rw[S,Fs.mhas_mdel,decide_eq_false A];rfl
 have D:Fs.mhas o.dir draft=false:=Fs.look_none (by rw[N,if_pos rfl]);obtain⟨c1,J,G,O⟩:=Fs.calm_create C.calm C.inv BG D (by omega);have f2:(Fs.create o draft).1.files=o.files++[([],0)]:=by
  unfold Fs.create;rw[if_neg (by rw[BG];simp),if_neg (by rw[D];simp),if_neg (by omega),if_neg (by rw[Fs.step_calm C.calm];simp)]
 have e2:(λst=>Fs.create st draft) o=((Fs.create o draft).1,0):=Prod.ext rfl c1
 generalize hs2:(Fs.create o draft).1=s2 at *
 have u2:Fs.used s2≤s2.dir.length*M:=Fs.used_look J.inv (λn b hb=>by
  rw[O]at hb;by_cases hn:n=draft
  ·rw[if_pos hn]at hb;simp at hb;subst hb;exact ZS _
  ·rw[if_neg hn,N,if_neg hn]at hb;exact hM n b hb)
 have au:s2.dir.length*M≤(st.dir.length+1)*M:=Nat.mul_le_mul_right M (by omega);obtain⟨c3,R,H,⟨i3,f3⟩,K⟩:=Fs.calm_append (b:=enc v l) J.calm J.inv BG (old:=[]) (by rw[O,if_pos rfl]) (by simp;omega) (by have L:=J.room;have W:=C.room;omega);have e3:(λst=>Fs.append st draft (enc v l)) s2=((Fs.append s2 draft (enc v l)).1,0):=Prod.ext rfl c3
 generalize hs3:(Fs.append s2 draft (enc v l)).1=s3 at *
 obtain⟨c4,P,F,⟨i4,f4⟩,Q⟩:=Fs.calm_sync R.calm R.inv BG (old:=[]++enc v l) (by rw[K,if_pos rfl]);have e4:(λst=>Fs.sync st draft) s3=((Fs.sync s3 draft).1,0):=Prod.ext rfl c4
 generalize hs4:(Fs.sync s3 draft).1=s4 at *
 obtain⟨c5,T,U,I,f5,k5⟩:=Fs.calm_rename (nt:=final) P.calm P.inv BG Cu (by decide) (old:=[]++enc v l) (by rw[Q,K,if_pos rfl]);have e5:(λst=>Fs.rename st draft final) s4=((Fs.rename s4 draft final).1,0):=Prod.ext rfl c5
 generalize hs5:(Fs.rename s4 draft final).1=s5 at *
 obtain⟨c6,n6,B,f6,k6⟩:=Fs.calm_syncDir T.calm T.inv;have Z:Fs.syncDir s5=((Fs.syncDir s5).1,0):=Prod.ext rfl c6
 generalize hs6:(Fs.syncDir s5).1=s6 at *
 have E:Fs.first (steps (enc v l)) st=(s6,0):=by
  unfold steps;rw[Fs.first_ok e1,Fs.first_ok e2,Fs.first_ok e3,Fs.first_ok e4,Fs.first_ok e5,Fs.first_ok Z,Fs.first]
 rw[E];refine⟨rfl,((((((C.trans J).trans R).trans P).trans T).trans n6):_),?_,?_,?_,?_⟩
 ·show s6.dir.length≤_;rw[B];rw[F,H,G]at U;omega
 ·intro hf;show s6.dir.length≤_;have L:Fs.mhas s4.dir final=true:=by
   have:(Fs.look s4 final).isSome:=by
    rw[Q,K,if_neg A,O,if_neg A,N,if_neg A];unfold Fs.look;rw[if_pos hf];rfl
   cases hx:Fs.mhas s4.dir final
   ·unfold Fs.look at this;rw[hx]at this;cases this
   ·rfl
  have:=I L;rw[B];rw[F,H,G]at this;omega
 ·show ∀f∈s6.files,_;rw[f6,f5,f4,f3,f2,f1];intro f hf;rcases List.mem_or_eq_of_mem_set hf with hf|rfl
  ·rcases List.mem_or_eq_of_mem_set hf with hf|rfl
   ·rcases ZI.1 hf with hf|hf
    ·exact hfl f hf
    ·simp at hf;subst hf;exact ZS _
   ·show ([]++enc v l).length≤_;simp;omega
  ·show ([]++enc v l).length≤_;simp;omega
 ·intro m;show Fs.look s6 m=_;rw[k6,k5];by_cases hm:m=final
  ·rw[if_pos hm,if_pos hm];rfl
  ·rw[if_neg hm,if_neg hm];by_cases hd2:m=draft
   ·rw[if_pos hd2,if_pos hd2]
   ·rw[if_neg hd2,if_neg hd2,Q,K,if_neg hd2,O,if_neg hd2,N,if_neg hd2]
end Mf
namespace Mf
open Fs
structure Hk (st:St) (cur:Option (List UInt8)):Prop where
 sound:Sound st 2
 sure:st.sure=st.dir
 chg:st.changes=[]
 full:∀f∈st.files,f.2=f.1.length
 two:∀p∈st.dir,p.1=final∨p.1=draft
 cur:(mhas st.dir final=false→cur=none)∧(mhas st.dir final=true→∃b,st.files[(mget st.dir final).toNat]?=some (b,b.length)∧cur=some b)
def Sw (st:St) (cur:Option (List UInt8)) (new:List UInt8) (sure:Prop):Prop :=
 ∀j,(∀p∈crashDir st j,p.1=final∨p.1=draft)∧(mhas (crashDir st j) final=false→cur=none∧¬sure) ∧
  (mhas (crashDir st j) final=true→∃b,st.files[(mget (crashDir st j) final).toNat]?=some (b,b.length)∧((cur=some b∧¬sure)∨new=b))
structure Mid (s0 st:St):Prop where
 files:∃ex,st.files=s0.files++ex
 sure:st.sure=s0.dir
 chg:∀l∈st.changes,∀p∈l,p.1=draft
theorem Mid.alike {s0 st st':St} (h:Mid s0 st) (e1:st'.files=st.files) (e2:st'.sure=st.sure) (e3:st'.changes=st.changes):Mid s0 st' :=
 ⟨by rw[e1];exact h.files,by rw[e2];exact h.sure,by rw[e3];exact h.chg⟩
theorem Mid.step {s0 st:St} (h:Mid s0 st):Mid s0 (Fs.step st).1:=by
 obtain⟨s,l,p,e⟩:=CK st;exact h.alike (by rw[e]) (by rw[e]) (by rw[e])
theorem Mid.set {s0 st:St} (h:Mid s0 st) {i:Nat} (hi:s0.files.length≤i) (f:List UInt8×Nat):Mid s0 { st with files:=st.files.set i f }:=by
 obtain⟨o,e⟩:=h.files;refine⟨⟨o.set (i-s0.files.length) f,?_⟩,h.sure,h.chg⟩;show st.files.set i f=_;rw[e,List.set_append_right _ _ hi]
theorem Mid.turned {s0 st:St} (h:Mid s0 st) {l:Names} (hl:∀p∈l,p.1=draft):Mid s0 (turned st l):=by
 refine⟨h.files,h.sure,λx hx=>?_⟩;rcases ZI.1 hx with hx|hx
 ·exact h.chg x hx
 ·simp at hx;subst hx;exact hl
theorem Mid.clear {s0 st:St} (h:Mid s0 st):Mid s0 (clear st).1:=by
 unfold Mf.clear;split
 ·unfold Fs.remove;split
  ·exact h
  split
  ·exact h.step
  ·exact h.step.turned (λp hp=>by simp at hp;rw[hp])
 ·exact h
structure BD (s0 st:St) (N:Nat):Prop extends Mid s0 st where
 new:s0.files.length≤N∧N<st.files.length
 there:mhas st.dir draft=true∧mget st.dir draft=(N:Int)
 two:∀p∈st.dir,p.1=final∨p.1=draft
theorem BD.idx {s0 st:St} {N:Nat} (h:BD s0 st N):Fs.idx st draft=N:=by unfold Fs.idx;rw[h.there.2];rfl
theorem BD.open {s0 st:St} {N:Nat} (h:BD s0 st N):openE st draft=0:=openE_of BG h.there.1
theorem BD.step {s0 st:St} {N:Nat} (h:BD s0 st N):BD s0 (Fs.step st).1 N:=by
 have o:=h.toMid.step;obtain⟨s,l,p,e⟩:=CK st;refine⟨o,?_,?_,?_⟩<;>rw[e]
 ·exact h.new
 ·exact h.there
 ·exact h.two
theorem BD.set {s0 st:St} {N:Nat} (h:BD s0 st N) (f:List UInt8×Nat):BD s0 { st with files:=st.files.set N f } N :=
 ⟨h.toMid.set h.new.1 f,⟨h.new.1,by show N<(st.files.set N f).length;rw[List.length_set];exact h.new.2⟩,h.there,h.two⟩
theorem BD.grow {s0 st:St} {N:Nat} (h:BD s0 st N) (b:List UInt8):∃f,st.files[N]?=some f∧grow st.files N b=st.files.set N (f.1++b,f.2):=by
 obtain⟨f,o⟩:∃f,st.files[N]?=some f:=⟨_,ZG h.new.2⟩
 exact⟨f,o,by unfold Fs.grow;rw[o]⟩
structure Named (s0 st:St) (new:List UInt8) (N:Nat):Prop where
 files:∃ex,st.files=s0.files++ex
 file:st.files[N]?=some (new,new.length)
 sure:st.sure=s0.dir
 chg:∃ch,st.changes=ch++[[(draft,-1),(final,(N:Int))]]∧∀l∈ch,∀p∈l,p.1=draft
 dir:mhas st.dir final=true∧mget st.dir final=(N:Int)
 two:∀p∈st.dir,p.1=final∨p.1=draft
theorem Sw.fail {st:St} {cur:Option (List UInt8)} {new:List UInt8} {A:Prop} (h:Sw st cur new False) (hA:¬A):Sw st cur new A:=λj=>by
 obtain⟨a,b,c⟩:=h j;exact⟨a,λhh=>⟨(b hh).1,hA⟩,λhh=>by obtain⟨b,o,B⟩:=c hh;exact⟨b,o,B.imp (λq=>⟨q.1,hA⟩) id⟩⟩
theorem Hk.new {room:Int} (h:0≤room∧room≤1048576):Hk (Fs.new room) none :=
 ⟨Sound.new h 2,rfl,rfl,λf hf=>by (cases hf),λp hp=>by (cases hp),λ_=>rfl,λx=>(by cases x)⟩
theorem Hk.load {st:St} {cur:Option (List UInt8)} (h:Hk st cur):(cur=none→load st=((0,[]),3))∧(∀v l,good v l=true→cur=some (enc v l)→load st=((v,l),0)):=by
 constructor
 ·intro hc;have o:mhas st.dir final=false:=by
   cases hx:mhas st.dir final
   ·rfl
   ·obtain⟨b,_,e⟩:=h.cur.2 hx;rw[hc]at e;cases e
  exact load_none (by unfold Fs.look;rw[o];rfl)
 ·intro v l hg hc;have o:mhas st.dir final=true:=by
   cases hx:mhas st.dir final
   ·have:=h.cur.1 hx;rw[hc]at this;cases this
   ·rfl
  obtain⟨b,C,A⟩:=h.cur.2 o;refine load_look hg ?_;have B:b=enc v l:=by rw[hc]at A;exact (Option.some.inj A).symm
  unfold Fs.look;rw[if_pos o];unfold fileAt Fs.idx;rw[C,B]
end Mf
open Go.Maps Go.Sort Go.Shelf
def Ex:Go.Shelf.Ren:=⟨fun|7=>52|10=>78|n=>n,fun|23=>60|26=>9|3=>3|28=>123|0=>0|27=>122|33=>152|4=>4|n=>n,λn=>n⟩
theorem Ea:Go.Proofs.SlLaysZ.n7 Tryz.prog Ex:={
 mixed:=by kernel_rfl
 f7:=⟨Tryz.f52.name,by decide,Tryz.func52.trans (congrArg some (by kernel_rfl))⟩
 f10:=⟨Tryz.f78.name,by decide,Tryz.func78.trans (congrArg some (by kernel_rfl))⟩
 t0:=Tryz.underlying0
 a0:=Tryz.isAgg0
 z0:=Tryz.sizeOf0
 v0:=Tryz.zeroValue0
 t4:=Tryz.underlying4
 a4:=Tryz.isAgg4
 z4:=Tryz.sizeOf4
 v4:=Tryz.zeroValue4
 t23:=Tryz.underlying60
 a23:=Tryz.isAgg60
 z23:=Tryz.sizeOf60
 v23:=Tryz.zeroValue60
 t26:=Tryz.underlying9
 a26:=Tryz.isAgg9
 z26:=Tryz.sizeOf9
 v26:=Tryz.zeroValue9
 t27:=Tryz.underlying122
 a27:=Tryz.isAgg122
 z27:=Tryz.sizeOf122
 v27:=Tryz.zeroValue122
 t28:=Tryz.underlying123
 a28:=Tryz.isAgg123
 z28:=Tryz.sizeOf123
 v28:=Tryz.zeroValue123
 t33:=Tryz.underlying152
 a33:=Tryz.isAgg152
 z33:=Tryz.sizeOf152
 v33:=Tryz.zeroValue152 }
def Dj:Go.Shelf.Ren:=⟨fun|6=>51|8=>76|9=>77|11=>108|13=>110|12=>109|23=>131|24=>132|14=>122|15=>123|16=>124|17=>125|18=>126|19=>127|20=>128|21=>129|22=>130|25=>155|26=>156|27=>157|28=>158|29=>159|30=>160|31=>175|n=>n,fun|26=>9|28=>123|24=>74|0=>0|3=>3|37=>35|48=>163|50=>206|4=>4|40=>198|39=>197|45=>145|5=>5|9=>9|51=>224|55=>228|57=>247|58=>248|33=>152|n=>n,λn=>n⟩
theorem Ff:Go.Proofs.SlLaysZ.n6 Tryz.prog Dj:={
 mixed:=by kernel_rfl
 f6:=⟨Tryz.f51.name,by decide,Tryz.func51.trans (congrArg some (by kernel_rfl))⟩
 f8:=⟨Tryz.f76.name,by decide,Tryz.func76.trans (congrArg some (by kernel_rfl))⟩
 f11:=⟨Tryz.f108.name,by decide,Tryz.func108.trans (congrArg some (by kernel_rfl))⟩
 t0:=Tryz.underlying0
 a0:=Tryz.isAgg0
 z0:=Tryz.sizeOf0
 v0:=Tryz.zeroValue0
 t24:=Tryz.underlying74
 a24:=Tryz.isAgg74
 z24:=Tryz.sizeOf74
 v24:=Tryz.zeroValue74
 t26:=Tryz.underlying9
 a26:=Tryz.isAgg9
 z26:=Tryz.sizeOf9
 v26:=Tryz.zeroValue9
 t28:=Tryz.underlying123
 a28:=Tryz.isAgg123
 z28:=Tryz.sizeOf123
 v28:=Tryz.zeroValue123
 i26:=by kernel_rfl }
def It:Go.Shelf.Ren:=⟨fun|6=>77|8=>110|9=>109|19=>131|20=>132|21=>122|22=>123|23=>124|24=>125|25=>126|26=>127|27=>128|28=>129|29=>130|36=>155|31=>156|32=>157|37=>158|38=>159|39=>160|41=>175|n=>n,fun|27=>74|29=>9|3=>3|32=>35|26=>74|0=>0|44=>163|46=>206|4=>4|36=>198|35=>197|41=>145|5=>5|9=>9|53=>224|57=>228|63=>247|64=>248|n=>n,λn=>n⟩
theorem EZ:Go.Proofs.SlLaysM.n6 Tryz.prog It:={
 mixed:=by kernel_rfl
 f6:=⟨Tryz.f77.name,by decide,Tryz.func77.trans (congrArg some (by kernel_rfl))⟩
 f8:=Tryz.func110.trans (congrArg some (by kernel_rfl))
 f9:=⟨Tryz.f109.name,by decide,Tryz.func109.trans (congrArg some (by kernel_rfl))⟩
 f19:=Tryz.func131.trans (congrArg some (by kernel_rfl))
 f20:=Tryz.func132.trans (congrArg some (by kernel_rfl))
 f21:=⟨Tryz.f122.name,by decide,Tryz.func122.trans (congrArg some (by kernel_rfl))⟩
 f22:=⟨Tryz.f123.name,by decide,Tryz.func123.trans (congrArg some (by kernel_rfl))⟩
 f23:=⟨Tryz.f124.name,by decide,Tryz.func124.trans (congrArg some (by kernel_rfl))⟩
 f24:=⟨Tryz.f125.name,by decide,Tryz.func125.trans (congrArg some (by kernel_rfl))⟩
 f25:=⟨Tryz.f126.name,by decide,Tryz.func126.trans (congrArg some (by kernel_rfl))⟩
 f26:=⟨Tryz.f127.name,by decide,Tryz.func127.trans (congrArg some (by kernel_rfl))⟩
 f27:=⟨Tryz.f128.name,by decide,Tryz.func128.trans (congrArg some (by kernel_rfl))⟩
 f28:=⟨Tryz.f129.name,by decide,Tryz.func129.trans (congrArg some (by kernel_rfl))⟩
 f29:=⟨Tryz.f130.name,by decide,Tryz.func130.trans (congrArg some (by kernel_rfl))⟩
 f31:=Tryz.func156.trans (congrArg some (by kernel_rfl))
 f32:=Tryz.func157.trans (congrArg some (by kernel_rfl))
 f36:=⟨Tryz.f155.name,by decide,Tryz.func155.trans (congrArg some (by kernel_rfl))⟩
 f37:=⟨Tryz.f158.name,by decide,Tryz.func158.trans (congrArg some (by kernel_rfl))⟩
 f38:=⟨Tryz.f159.name,by decide,Tryz.func159.trans (congrArg some (by kernel_rfl))⟩
 f39:=⟨Tryz.f160.name,by decide,Tryz.func160.trans (congrArg some (by kernel_rfl))⟩
 f41:=⟨Tryz.f175.name,by decide,Tryz.func175.trans (congrArg some (by kernel_rfl))⟩
 t0:=Tryz.underlying0
 a0:=Tryz.isAgg0
 z0:=Tryz.sizeOf0
 v0:=Tryz.zeroValue0
 t3:=Tryz.underlying3
 a3:=Tryz.isAgg3
 z3:=Tryz.sizeOf3
 v3:=Tryz.zeroValue3
 t4:=Tryz.underlying4
 a4:=Tryz.isAgg4
 z4:=Tryz.sizeOf4
 v4:=Tryz.zeroValue4
 t5:=Tryz.underlying5
 a5:=Tryz.isAgg5
 z5:=Tryz.sizeOf5
 v5:=Tryz.zeroValue5
 t9:=Tryz.underlying9
 a9:=Tryz.isAgg9
 z9:=Tryz.sizeOf9
 v9:=Tryz.zeroValue9
 t26:=Tryz.underlying74
 a26:=Tryz.isAgg74
 z26:=Tryz.sizeOf74
 v26:=Tryz.zeroValue74
 t27:=Tryz.underlying74
 a27:=Tryz.isAgg74
 z27:=Tryz.sizeOf74
 v27:=Tryz.zeroValue74
 t29:=Tryz.underlying9
 a29:=Tryz.isAgg9
 z29:=Tryz.sizeOf9
 v29:=Tryz.zeroValue9
 t32:=Tryz.underlying35
 a32:=Tryz.isAgg35
 z32:=Tryz.sizeOf35
 v32:=Tryz.zeroValue35
 t35:=Tryz.underlying197
 a35:=Tryz.isAgg197
 z35:=Tryz.sizeOf197
 v35:=Tryz.zeroValue197
 t36:=Tryz.underlying198
 a36:=Tryz.isAgg198
 z36:=Tryz.sizeOf198
 v36:=Tryz.zeroValue198
 t41:=Tryz.underlying145
 a41:=Tryz.isAgg145
 z41:=Tryz.sizeOf145
 v41:=Tryz.zeroValue145
 t44:=Tryz.underlying163
 a44:=Tryz.isAgg163
 z44:=Tryz.sizeOf163
 v44:=Tryz.zeroValue163
 t46:=Tryz.underlying206
 a46:=Tryz.isAgg206
 z46:=Tryz.sizeOf206
 v46:=Tryz.zeroValue206
 t53:=Tryz.underlying224
 a53:=Tryz.isAgg224
 z53:=Tryz.sizeOf224
 v53:=Tryz.zeroValue224
 t57:=Tryz.underlying228
 a57:=Tryz.isAgg228
 z57:=Tryz.sizeOf228
 v57:=Tryz.zeroValue228
 t63:=Tryz.underlying247
 a63:=Tryz.isAgg247
 z63:=Tryz.sizeOf247
 v63:=Tryz.zeroValue247
 t64:=Tryz.underlying248
 a64:=Tryz.isAgg248
 z64:=Tryz.sizeOf248
 v64:=Tryz.zeroValue248 }
theorem F9 (m:Nat):AnyZ.SortsIn Tryz.prog Dj Fence.wide m :=
 ⟨λblk off cap ss W hH hblk hsz=>callsIn_wide.2 (AnyM.slices_Sort_string EZ blk off cap ss W hH hblk hsz),
  λp cap W=>callsIn_wide.2 (AnyM.slices_Sort_string_none EZ p cap W)⟩
theorem Fg (mb:Option Nat) (W:World):CallsIn Fence.wide 5 Tryz.prog 52 #[.map mb] W λe w'=>e=.returned (.func (.func 78) #[] #[.pointer (some ⟨W.heap.size,0,none⟩)])∧w'=W.alloc (.cells #[.map mb] 60) :=
 AnyZ.keys_in Ea Fence.wide 5 trivial rfl mb W
theorem EQ (b nn:Nat) (D0:DataW Unit) (R:Value→Option (DataW Unit×List MemPlace)) (w:World) (hown:w.ownsMap Tryz.prog 9 R b nn D0) (hmax:Maps.size D0≤maxLen) (hbytes:Maps.size D0*16≤140737488355328) :
  CallsIn Fence.wide 5 Tryz.prog 51 #[.func (.func 78) #[] #[.pointer (some ⟨w.heap.size,0,none⟩)]] (w.alloc (.cells #[.map (some b)] 60)) λe w'=>∃(v:Value) (ss:List (List UInt8)),e=.returned v∧ss.Perm (strKeys D0) ∧
   w'.ownsRow (w.alloc (.cells #[.map (some b)] 60)).heap.size 9 1 v ss.length ((ss.mergeSort (λx y=>decide (x≤y))).map encStr)∧(v=.slice none 0 0↔ss=[])∧Below (w.alloc (.cells #[.map (some b)] 60)).heap.size (w.alloc (.cells #[.map (some b)] 60)) w':=by
 have B:=hown.lt;have A:SeqGives Fence.wide 2 Tryz.prog 78 #[.pointer (some ⟨w.heap.size,0,none⟩)] encStr (λss=>ss.Perm (strKeys D0)) (Maps.size D0) (w.alloc (.cells #[.map (some b)] 60)) :=
  AnyZ.keys_gives (ρ:=Ex) { Ea with } Fence.wide _ trivial rfl (by omega) w.heap.size b nn D0 _ (by simp) (by simp) (by
   obtain⟨C,o,G,E,D,F⟩:=hown;exact⟨C,o,(Below.heap_alloc _ _ b B).trans G,E,D,F⟩)
 exact AnyZ.sorted_in Ff Fence.wide 5 trivial trivial trivial trivial rfl (by omega) (F9 _) (enters_of Tryz.func77 (by kernel_rfl) rfl) 78 #[.pointer (some ⟨w.heap.size,0,none⟩)] trivial (enters_of Tryz.func78 (by kernel_rfl) rfl) _ _ hmax hbytes _ A
theorem FR (d:Fs.Names):strKeys (Fs.datum d)=d.map (·.1):=by
 show ((d.map Fs.ent).map λp=>strOf p.1)=_;rw[List.map_map];rfl
def strsOf (l:List (List UInt8)):List ByteArray:=l.map λx=>⟨x.toArray⟩
theorem Do {w:World} {base:Nat} {v:Value} {ss:List (List UInt8)} {d:Fs.Names} (hp:ss.Perm (strKeys (Fs.datum d))) (hrow:w.ownsRow base 9 1 v ss.length ((ss.mergeSort (λx y=>decide (x≤y))).map encStr)) :
  DG w v (strsOf (Fs.keys d))∧(∀k,v.ownBlock=some k→base≤k∧k<w.heap.size):=by
 have o:ss.mergeSort (λx y=>decide (x≤y))=Fs.keys d:=by
  rw[FR]at hp;exact mergeSort_of_perm hp
 rw[o]at hrow;have A:(strsOf (Fs.keys d)).length=ss.length:=by
  unfold strsOf;rw[← o,List.length_map,List.length_mergeSort]
 refine⟨?_,λk hk=>hrow.lt k hk⟩;rcases hrow.2 with⟨h1,h2⟩|⟨g,cap,cur,h1,hg,hb,hc,hm⟩
 ·exact⟨none,0,by rw[h1,A,h2],λi s hi=>by
   have:=(List.getElem?_eq_some_iff.1 hi).1;omega⟩
 ·refine⟨some ⟨g,0,none⟩,cap,by rw[A];exact h1,λi s hi=>⟨g,0,rfl,AC hb,?_⟩⟩;unfold strsOf at hi;rw[ZF]at hi;cases hx:(Fs.keys d)[i]? with
  | none=>rw[hx]at hi;cases hi
  | some x =>
   rw[hx]at hi;simp at hi;subst hi;have:=World.ownsRow.cells hrow (g:=g) (by rw[h1];rfl) i (encStr x) (by rw[ZF,hx];rfl);rw[addr_add]at this;rw[Nat.zero_add];exact this
open Go.Maps Go.Sort Go.Shelf
theorem Bc (base B:Nat) (st:Fs.St) (V:FsV) (own:Nat→Tag) (w:World) (h:Aa base B st V own w) (hd:st.dir.length≤900000) :
  Calls Tryz.prog 27 #[.pointer (some ⟨B,0,none⟩)] w λe w'=>∃v,e=.returned v∧DG w' v (strsOf (Fs.keys st.dir))∧(∀k,v.ownBlock=some k→w.heap.size≤k)∧Below w.heap.size w w':=by
 have I:w.cell? ⟨B,5,none⟩=some (.map (some V.md)):=AA h.at_.root 5 _ rfl;have D:=QA h.at_.dir;have A:Maps.size (Fs.datum st.dir)=st.dir.length:=Fs.datum_size _;have C:Maps.size (Fs.datum st.dir)≤maxLen:=by rw[A];unfold maxLen;omega
 have o:Maps.size (Fs.datum st.dir)*16≤140737488355328:=by rw[A];omega
 clear h A;refine (callsIn_wide (n:=6)).1 ?_;have E:Fence.wide.fn 52:=trivial;have H:Fence.wide.fn 51:=trivial;refine callsIn_of_wp Tryz.func27 rfl trivial ?_ rfl;simp only[Tryz.ntmps27,List.size_toArray,QO,List.length_nil,Nat.reduceAdd,Nat.reduceSub,Array.replicate_succ,Array.replicate_zero,List.push_toArray,List.append_toArray,List.nil_append,List.cons_append]
 gi_wp2_with (first
  | (gi_at_call 52;refine (Fg _ _).mono ?_;rintro e w' ⟨rfl,rfl⟩)
  | (gi_at_call 51;refine (EQ V.md _ (Fs.datum st.dir) _ w D.out C o).mono ?_;rintro e w' ⟨v,ss,rfl,hS,hrow,hnil,hb⟩))
 go_ret;obtain⟨F,G⟩:=Do hS hrow;exact⟨v,rfl,F,λk hk=>by have:=(G k hk).1;simp at this;omega,((Below.refl _ w).alloc (QM _) _).trans (hb.mono (by simp))⟩
end Go.Proofs.YtjldahcckmmenaaGreatDoor
