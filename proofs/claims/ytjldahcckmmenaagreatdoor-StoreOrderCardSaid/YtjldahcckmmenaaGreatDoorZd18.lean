/-
  The store: Open of what its files hold, walked. Keys, changes and slices of changes that a law builds; Fresh of rubriclaw06, walked.
-/
import Derived.Test.YtjldahcckmmenaaGreatDoorZd17
import Derived.Test.YtjldahcckmmenaaGreatDoorZd9
open Go.Lib renaming hid → QA
open List renaming setIfInBounds_toArray → QC, length_map → QV, mem_of_getElem? → QZ, getElem?_map → ZF, map_cons → ZP, map_nil → ZR
open Nat renaming le_refl → QM, le_trans → QQ
namespace Go.Proofs.YtjldahcckmmenaaGreatDoor
set_option maxRecDepth 100000
set_option maxHeartbeats 4000000
set_option linter.unusedSimpArgs false
set_option linter.unusedVariables false
open Go Go.RowKit
open Go.Maps Go.WideMaps
theorem F0:∀(ps:List (Sg.En×Value)) (i:Nat) (p:Sg.En×Value),ps[i]?=some p→(CM ps)[i*3]?=some (.int .i64 p.1.1)∧(CM ps)[i*3+1]?=some (.int .i64 p.1.2.1)∧(CM ps)[i*3+2]?=some p.2
 | [],i,p,h=>by simp at h
 | q::ps,0,p,h=>by
  simp at h;subst h;exact⟨rfl,rfl,rfl⟩
 | q::ps,i+1,p,h=>by
  have:=F0 ps i p (by simpa using h);rw[show (i+1)*3=i*3+1+1+1 by omega];exact this
def EnF (w:World) (G:Nat→Prop) (v:Value) (l:List (Sg.En×Value)):Prop :=
 ∃a cap,v=.slice a l.length cap∧∀(i:Nat) p,l[i]?=some p→Ax w G p.2 p.1.2.2∧∃g,a=some ⟨g,0,none⟩∧g<w.heap.size∧G g ∧
  w.cell? ⟨g,i*3,none⟩=some (.int .i64 p.1.1)∧w.cell? ⟨g,i*3+1,none⟩=some (.int .i64 p.1.2.1)∧w.cell? ⟨g,i*3+2,none⟩=some p.2
theorem CJ.le_max {w:World} {base:Nat} {v:Value} {l:List (Sg.En×Value)} (h:CJ w base v l):l.length≤maxLen:=by
 rcases h.row.2 with⟨h1,h2⟩|⟨g,cap,cur,h1,hg,hb,hc,hm,_,_⟩
 ·omega
 ·omega
theorem Ii {j n:Nat} (h:j<n) (hn:n≤maxLen):wrap64 ((j:Int)+1)=(j:Int)+1:=by
 unfold maxLen at hn;unfold wrap64;omega
theorem EnF.form {w:World} {G:Nat→Prop} {v:Value} {l:List (Sg.En×Value)} (h:EnF w G v l):∃a cap,v=.slice a l.length cap:=by
 obtain⟨a,cap,o,_⟩:=h;exact⟨a,cap,o⟩
theorem CJ.enF {w:World} {base:Nat} {G:Nat→Prop} {v:Value} {l:List (Sg.En×Value)} (h:CJ w base v l) (hG:∀b,base≤b→G b):EnF w G v l:=by
 have o:=λg hg=>World.ownsRow.cells (g:=g) h.row hg
 rcases h.row.2 with⟨h1,h2⟩|⟨g,cap,cur,h1,hg,hb,hc,hm,_,_⟩
 ·have E:l=[]:=List.eq_nil_of_length_eq_zero h2;subst E;exact⟨none,0,h1,λi p hp=>by simp at hp⟩
 ·refine⟨some ⟨g,0,none⟩,cap,h1,λi p hp=>⟨(h.pay p (QZ hp)).bytF hG,g,rfl,AC hb,hG g hg,?_⟩⟩;obtain⟨F,H,D⟩:=F0 l i p hp;have A:=o g (by rw[h1];rfl) _ _ F;have B:=o g (by rw[h1];rfl) _ _ H;have C:=o g (by rw[h1];rfl) _ _ D;rw[addr_add]at A B C;exact⟨A,B,C⟩
theorem EnF.mv {F F':Nat→Prop} {w w':World} {v:Value} {l:List (Sg.En×Value)} (h:EnF w F v l) (m:MV F F' w w'):EnF w' F' v l:=by
 obtain⟨a,cap,D,H⟩:=h;refine⟨a,cap,D,λi p hi=>?_⟩;obtain⟨E,g,G,A,I,B,J,C⟩:=H i p hi;obtain⟨K,o⟩:=m.2 g A I;exact⟨E.mv m,g,G,Nat.lt_of_lt_of_le A m.1,K,by rw[World.cell?_of_block o];exact B,by rw[World.cell?_of_block o];exact J,by rw[World.cell?_of_block o];exact C⟩
theorem EnF.at {w:World} {G:Nat→Prop} {a:Option Addr} {n cap:Nat} {l:List (Sg.En×Value)} (h:EnF w G (.slice a n cap) l) {i:Nat} {p:Sg.En×Value} (hi:l[i]?=some p) :
  Ax w G p.2 p.1.2.2∧∃g,a=some ⟨g,0,none⟩∧w.cell? ⟨g,i*3,none⟩=some (.int .i64 p.1.1)∧w.cell? ⟨g,i*3+1,none⟩=some (.int .i64 p.1.2.1)∧w.cell? ⟨g,i*3+2,none⟩=some p.2:=by
 obtain⟨H,o,A,E⟩:=h;obtain⟨C,g,D,F,I,B⟩:=E i p hi;simp only[Value.slice.injEq]at A;exact⟨C,g,by rw[A.1,D],B⟩
namespace Sto
theorem Fa:∀S:List Seg,(ens S).map (·.2)=(batches S).map λops=>((1:Int),flat ops)
 | []=>rfl
 | s::S=>by
  have o:ens (s::S)=(FM s.2).map (λf=>(s.1,f))++ens S:=List.flatMap_cons ..;have A:batches (s::S)=s.2++batches S:=List.flatMap_cons ..;rw[o,A,List.map_append,List.map_append,Fa S,List.map_map];unfold FM;rw[List.map_map];rfl
theorem ens_len (S:List Seg):(ens S).length=(batches S).length:=by
 have:=congrArg List.length (Fa S)
 rwa [QV,QV]at this
theorem ens_get {ps:List (Sg.En×Value)} {S:List Seg} (h:ps.map (·.1)=ens S) {j:Nat} {p:Sg.En×Value} (hp:ps[j]?=some p):∃ops,(batches S)[j]?=some ops∧p.1.2=(1,flat ops):=by
 have B:(ens S)[j]?=some p.1:=by rw[← h,ZF,hp];rfl
 have o:((ens S).map (·.2))[j]?=some p.1.2:=by rw[ZF,B];rfl
 rw[Fa,ZF]at o;obtain⟨ops,A,C⟩:=Option.map_eq_some_iff.1 o;exact⟨ops,A,C.symm⟩
end Sto
theorem Kg (w:World) (B:Nat):((w.alloc (.map #[] 0)).alloc (.cells #[.int .i64 0,.slice none 0 0,.map (some w.heap.size),.pointer (some ⟨B,0,none⟩),.bool false] 51)).heap[w.heap.size+1]?=some (.cells (AF 0 (.slice none 0 0) w.heap.size B false) 51 (0,0)):=by
 have:=AK (w.alloc (.map #[] 0)) (.cells #[.int .i64 0,.slice none 0 0,.map (some w.heap.size),.pointer (some ⟨B,0,none⟩),.bool false] 51);rw[show (w.alloc (.map #[] 0)).heap.size=w.heap.size+1 by simp]at this;exact this
theorem Ig (base B:Nat) (f:Fs.St) (V:FsV) (own:Nat→Tag) (k:Nat) (ver:Int) (S:List Sto.Seg) (M:Nat) (w:World) (h:Aa base B f V own w) (hE:Dm base w) (hbase:base≤w.heap.size) (hD:Sto.DiskX f k ver S M) (hk:k≤100000) :
  Calls Tryz.prog 21 #[.pointer (some ⟨B,0,none⟩)] w (F4 base B (Fs.clean f ver (Sto.ids S)).1 own ver S w):=by
 have b8:=@run_makeMap Tryz.prog;obtain⟨w1,aa⟩:∃x,x=(w.alloc (.map #[] 0)).alloc (.cells #[.int .i64 0,.slice none 0 0,.map (some w.heap.size),.pointer (some ⟨B,0,none⟩),.bool false] 51):=⟨_,rfl⟩
 have aK:Below w.heap.size w w1:=by rw[aa];exact ((Below.refl _ _).alloc (QM _) _).alloc (by simp) _
 have a4:w1.ownsMap Tryz.prog 40 Sto.elemR w.heap.size 0 (.map []):=by rw[aa];exact (World.ownsMap_made w Tryz.prog 40 Sto.elemR).alloc _
 have bf:w1.heap[w.heap.size+1]?=some (.cells (AF 0 (.slice none 0 0) w.heap.size B false) 51 (0,0)):=by rw[aa];exact Kg w B
 obtain⟨k1,k2,k3⟩:=hD.clean;have bE:=QA aa.symm;have a9:=QA aK;have a0:=QA a4;have ai:=QA bf;have H:=QA (h.kept (AB aK));have HE:=QA hE;have HD:=QA hD;have bD:=QA k1;have bh:=QA k2;have bC:f.dir.length≤900000:=by have:=hD.sound.ndir;omega
 have ab:Hid (own (w.heap.size+1)=.other):=QA (h.fresh _ (by omega));have bd:Hid (own w.heap.size=.other):=QA (h.fresh _ (by omega));clear aa aK a4 bf h hE hD k1 k2 k3;go_enter Tryz.func21,Tryz.ntmps21;go_wp2_with fail;rw[bE.out];refine (Bc base B f V own w1 H.out bC).mono ?_;rintro e w2 ⟨v1,rfl,hs1,-,hb2⟩;obtain⟨a1,c1,rfl⟩:=hs1.form;have bV:=QA hs1;have aj:=QA (a9.out.trans (hb2.mono a9.out.size));have C:=QA hb2;have bN:(strsOf (Fs.keys f.dir)).length≤1000000:=by unfold strsOf;rw[QV,Fs.keys_len];omega
 clear hb2 hs1;go_wp2_with fail;refine (Cm bV.out bN (d:=f.dir) rfl).mono ?_;rintro e w3 ⟨rfl,rfl⟩;rw[HD.out.has];go_wp2_with fail;refine (JE base B f V own w3 (H.out.kept (AB C.out)) (HE.out.below (aj.out.mono hbase)) (QQ hbase aj.out.size) k HD.out.sound).mono ?_;rintro e w4 ⟨hb4,sv,rfl,hsv⟩;rw[HD.out.load]at hsv ⊢;simp only at hsv;obtain⟨F,J,N,bp,ce⟩:=Am.form3 hsv;subst bp;obtain⟨r,hr⟩:∃r,w.heap.size+1=r:=⟨_,rfl⟩
 rw[hr]at ai ab ⊢;have bB:=QA (aj.out.trans (hb4.mono aj.out.size));have X:=QA (C.out.trans (hb4.mono C.out.size));have ad:=QA hsv;have U:Hid (w3.heap.size≤w4.heap.size∧r<w3.heap.size∧w.heap.size<w3.heap.size∧r<w4.heap.size):=QA (by
  have O:=AC ai.out;have h2:=C.out.size;have h3:=hb4.size;omega)
 have E:Hid (w4.heap[r]?=some (.cells (AF 0 (.slice none 0 0) w.heap.size B false) 51 (0,0))):=QA ((X.out.block r (AC ai.out)).trans ai.out);have bF:Hid (w4.ownsMap Tryz.prog 40 Sto.elemR w.heap.size 0 (.map [])):=QA (ownsMap_at a0.out (X.out.block _ a0.out.lt));have bP:=QA (H.out.kept (AB X.out));have f0:=AE E.out 0;have f1:=AE E.out 1;have y0:=rc0 E.out;have y1:=rc1 E.out;have y2:=rc2 E.out;have y3:=rc3 E.out;have y4:=rc4 E.out;clear hb4 hsv;go_wp2_with fail;obtain⟨W,hW⟩:∃q,(w4.setCell ⟨r,0,none⟩ (.int .i64 ver)).setCell ⟨r,1,none⟩ (.slice F J N)=q:=⟨_,rfl⟩
 rw[hW];have Y:w.heap.size≠r:=by omega
 have ba:Hid (W.heap[r]?=some (.cells (AF ver (.slice F J N) w.heap.size B false) 51 (0,0))):=QA (by rw[← hW];exact heap_set (heap_set E.out _) _);have aF:Hid (W.ownsMap Tryz.prog 40 Sto.elemR w.heap.size 0 (.map [])):=QA (ownsMap_at bF.out (by rw[← hW];exact (Below.heap_setCell _ _ _ _ Y).trans (Below.heap_setCell _ _ _ _ Y)));have a3:Hid (Aa base B f V own W):=QA (by
  rw[← hW];exact bP.out.kept (((Kept.refl own (·=.other) w4).setCell ⟨r,0,none⟩ ab.out _).setCell ⟨r,1,none⟩ ab.out _))
 have ah:Hid (Below w.heap.size w W):=QA (by
  rw[← hW];exact (bB.out.setCell (p:=⟨r,0,none⟩) (by show _≤r;omega) _).setCell (p:=⟨r,1,none⟩) (by show _≤r;omega) _)
 have ag:Hid (Am W w3.heap.size (.slice F J N) (Sto.ids S)):=QA (AN ad.out λg hg=>by
  have O:=(ad.out.lt g hg).1;have h2:=U.out;rw[← hW];exact (Below.heap_setCell _ _ _ g (by show g≠r;omega)).trans (Below.heap_setCell _ _ _ g (by show g≠r;omega)))
 have aH:Hid (W.heap.size=w4.heap.size):=QA (by rw[← hW];simp[World.setCell]);clear hW y0 y1 y2 y3 y4 f0 f1;go_wp2_with fail;have aD:=QQ hbase ah.out.size;have a7:(Sto.ids S).length≤1000000000:=by have:=(Mf.good_out HD.out.good).2.1.2;omega
 have aN:(Sto.ids S).length≤1000:=by have:=(Mf.good_out HD.out.good).2.1.2;omega
 refine (IF base B f V own ver (.slice F J N) (Sto.ids S) W a3.out (HE.out.sg.below (ah.out.mono hbase)) aD k HD.out.sound (by omega) (λz hz=>by rw[HD.out.calm.2]at hz;cases hz) ag.out.nums a7
  (λp n c e=>H.out.fresh _ (QQ C.out.size (ad.out.lt p.block (by rw[e];rfl)).1))).mono ?_
 rintro e w5 ⟨rfl,hpost⟩;rw[bD.out];have ac:=AQ.below0 a3.out hpost aD;obtain⟨V5,o,h5,P,Q⟩:=hpost;have bk:=AC ba.out;have H5:=QA h5;have T:Hid (SFr r own o w w5):=QA ((SFr.below ah.out).trans (SFr.kept P Q));have ax:Hid (Below base w w5):=QA ((ah.out.mono hbase).trans ac);have I:Hid (w5.heap[r]?=some (.cells (AF ver (.slice F J N) w.heap.size B false) 51 (0,0))):=QA ((Q.block r bk (by rw[ab.out];simp)).trans ba.out);have aZ:Hid (w5.ownsMap Tryz.prog 40 Sto.elemR w.heap.size 0 (.map [])):=QA (ownsMap_at aF.out (Q.block _ aF.out.lt (by rw[bd.out];simp)));have aQ:Hid (∀g,(Value.slice F J N).ownBlock=some g→own g=.other):=QA λg hg=>H.out.fresh g (QQ C.out.size (ad.out.lt g hg).1)
 have ao:Hid (Am w5 w3.heap.size (.slice F J N) (Sto.ids S)):=QA (AN ag.out λg hg=>Q.block g (ag.out.lt g hg).2 (by rw[aQ.out g hg];simp));have ca:Hid (∀b,b<w5.heap.size→b<W.heap.size→o b=own b):=QA λb _ hb=>P b hb
 have bS:W.heap.size≤w5.heap.size:=Q.size;have a6:Hid (o r=.other):=QA ((P r bk).trans ab.out);have aq:Hid (o w.heap.size=.other):=QA ((P _ aF.out.lt).trans bd.out);have aJ:Hid (CB w5 (λb=>SF r o b∧b≠w.heap.size) (.slice F J N) (Sto.ids S)):=QA ⟨ao.out.nums,λp n c e _=>by
  have hg:(Value.slice F J N).ownBlock=some p.block:=by rw[e];rfl
  have O:=(ad.out.lt _ hg).1;have h2:=U.out;exact⟨⟨(P _ (ag.out.lt _ hg).2).trans (aQ.out _ hg),by omega⟩,by omega⟩⟩
 clear h5 P Q ac ao aQ;have y0:=rc0 I.out;have y1:=rc1 I.out;have y2:=rc2 I.out;have y3:=rc3 I.out;have y4:=rc4 I.out;go_wp2_with fail;refine (Gk base B _ V5 o (.slice F J N) (Sto.ids S) w5 H5.out (HE.out.sg.below ax.out) (QQ aD bS) (bh.out.sound.small (by omega)) aJ.out.1 aN).mono ?_;rintro e w6 ⟨hb6,ev,ps,rfl,hen,hps⟩;rw[bh.out.read]at hps ⊢;simp only at hps;have aA:Hid (EnF w6 (λb=>SF r o b∧b≠w.heap.size) ev ps):=QA (hen.enF λb hb=>by
  have O:=U.out;have h2:=aH.out;exact⟨⟨H5.out.fresh b hb,by omega⟩,by omega⟩)
 obtain⟨ea,ec,rfl⟩:=aA.out.form;have bQ:=QA hps;have bG:=QA hen.le_max;have bT:Hid (ps.length=(Sto.batches S).length):=QA (by rw[← Sto.ens_len,← hps,QV]);have A:=QA hb6;have a2:Hid (w6.heap[r]?=some (.cells (AF ver (.slice F J N) w.heap.size B false) 51 (0,0))):=QA ((hb6.block r (AC I.out)).trans I.out);have bi:Hid (A1 w6 (λb=>SF r o b∧b≠w.heap.size) w.heap.size []):=QA ⟨ownsMap_at aZ.out (hb6.block _ aZ.out.lt),λp hp=>(by cases hp),λp hp=>(by cases hp)⟩;clear y0 y1 y2 y3 y4 hen hps hb6;have hG:∀b,(λb=>SF r o b∧b≠w.heap.size) b→b≠w.heap.size:=λb hb=>hb.2
 have aO:Hid (∀b,w5.heap.size≤b→(λb=>SF r o b∧b≠w.heap.size) b):=QA λb hb=>by
  have O:=U.out;have h2:=aH.out;exact⟨⟨H5.out.fresh b hb,by omega⟩,by omega⟩
 obtain⟨G,aI⟩:∃G:Nat→Prop,(λb=>SF r o b∧b≠w.heap.size)=G:=⟨_,rfl⟩
 have a8:Hid (∀b,G b→SF r o b):=QA (by rw[← aI];exact λb hb=>hb.1);have a5:=QA (aJ.out.mv (MV.below A.out));rw[aI]at aA bi hG aO a5;clear aI aJ;go_wp2_with fail
 go_loopg [66] ps.length (λdn s66 wr=>∃(j:Nat) (lj:Sto.ME),j≤ps.length∧dn=ps.length-j∧s66=.int .i64 (j:Nat)∧A1 wr G w.heap.size lj∧lj.map (·.1)=Sto.chgs [] ((Sto.batches S).take j).flatten∧Bt w.heap.size w6 wr)
 case atStart=>exact⟨0,[],Nat.zero_le _,rfl,rfl,bi.out,rfl,SFr.refl _ _ _⟩
 case round =>
  obtain⟨j,lj,hj,aY,rfl,hM,aW,hB⟩:=hrel;have HK:=QA aY;have D:=QA hB;have be:=QA hM;have aL:=QA aW;clear aY hB hM aW;have cb:(0:Int)≤(j:Int):=Int.natCast_nonneg _;have aB:Hid (wr.heap[r]?=some (.cells (AF ver (.slice F J N) w.heap.size B false) 51 (0,0))):=QA ((D.out.block r (AC a2.out) rfl (λe=>Y e.symm)).trans a2.out);have aw:Hid (∀i,Sto.Srt (Sto.chgs [] ((Sto.batches S).take i).flatten)):=QA λi=>Sto.srt_chgs _ List.Pairwise.nil
  by_cases hjn:j<ps.length
  ·have bm:(j:Int)<(ps.length:Int):=by omega
   obtain⟨⟨⟨aC,kd,pl⟩,pv⟩,hp⟩:∃p,ps[j]?=some p:=⟨_,List.getElem?_eq_getElem hjn⟩
   obtain⟨K,au,he⟩:=Sto.ens_get bQ.out hp;simp only[Prod.mk.injEq]at he;obtain⟨rfl,rfl⟩:=he;obtain⟨ak,g,rfl,x0,x1,x2⟩:=(aA.out.mv (D.out.mv hG)).at hp;simp only at ak x0 x1 x2;obtain⟨pa,pc,rfl,-⟩:=ak.1.form;have az:=QA (HD.out.bat K (QZ au));have bH:Hid (Sto.chgs [] ((Sto.batches S).take (j+1)).flatten=Sto.chgs (Sto.chgs [] ((Sto.batches S).take j).flatten) K):=QA (by
    rw[List.take_add_one,au,List.flatten_append,Sto.chgs_app];simp)
   have bA:=QA (HD.out.lv (j+1));have bL:Hid (lj.length≤1000000000):=QA (by
    have O:=congrArg List.length aL.out;have h2:=HD.out.lv j;have h3:=Sto.live_len (Sto.chgs [] ((Sto.batches S).take j).flatten);rw[QV]at O;omega)
   have bn:=AK wr (.cells #[.int .i64 aC,.int .i64 1,.slice pa (Sto.flat K).length pc] 114);have aE:Below wr.heap.size wr (wr.alloc (.cells #[.int .i64 aC,.int .i64 1,.slice pa (Sto.flat K).length pc] 114)):=(Below.refl _ _).alloc (QM _) _;have bb:=QA bn;have aP:=QA aE;have bv:=QA (ak.mv (MV.below aE));clear hp ak bn aE;go_wp2_with fail;refine (Hc _ K _ G bv.out az.out).mono ?_;rintro e w7 ⟨v7,l7,rfl,hO7,hl7,hb7⟩;have am:=QA (aP.out.trans (hb7.mono aP.out.size));have ap:w7.heap[wr.heap.size]?=some (.cells #[.int .i64 aC,.int .i64 1,.slice pa (Sto.flat K).length pc] 114 (0,0)):=(hb7.block _ (AC bb.out)).trans bb.out;have z1:=AA ap 1 _ rfl;have L:Hid (w7.heap[r]?=some (.cells (AF ver (.slice F J N) w.heap.size B false) 51 (0,0))):=QA ((am.out.block r (AC aB.out)).trans aB.out);have bK:=QA (be.out.below am.out);have bw:Hid (Al w7 G v7 l7):=QA (hO7.opsF (λb hb=>aO.out b (by have O:=A.out.size;have h2:=D.out.size;have h3:=aP.out.size;omega)) (λb hb=>hb.1));have bq:=QA hl7;have bO:Hid (l7.length≤64):=QA (by rw[← Sto.opsOf_len,hl7];exact (Sto.chk_len az.out.chk).1);have bl:Hid (w5.heap.size≤w7.heap.size):=QA (by have O:=A.out.size;have h2:=D.out.size;have h3:=am.out.size;omega);clear ap hO7 hl7 hb7;have y0:=rc0 L.out;have y1:=rc1 L.out;have y2:=rc2 L.out;have y3:=rc3 L.out;have y4:=rc4 L.out;go_wp2_with fail;refine (CZ w.heap.size lj v7 l7 w7 G hG (λb hb=>aO.out b (QQ bl.out hb)) bK.out bw.out (by have:=bO.out;omega) bL.out (λp hp=>by
    have O:p.1∈K:=by rw[← bq.out];exact List.mem_map.2 ⟨p,hp,rfl⟩
    have h2:=Sto.mass_mem O;have h3:=az.out.mass_le;omega)).mono ?_
   rintro e w8 ⟨rfl,l8,hm8,he8,hbt8,-⟩;have ay:l8.map (·.1)=Sto.chgs [] ((Sto.batches S).take (j+1)).flatten:=by rw[he8,aL.out,bq.out,bH.out]
   have bo:=QA hm8;have aG:=QA ay;have bj:Hid (Bt w.heap.size w6 w8):=QA (D.out.trans ((SFr.below am.out).trans hbt8));have Z:Hid (w8.heap[r]?=some (.cells (AF ver (.slice F J N) w.heap.size B false) 51 (0,0))):=QA ((hbt8.block r (AC L.out) rfl (λe=>Y e.symm)).trans L.out);have bz:Hid ((l8.map λp=>p.1.1).Nodup):=by
    have O:((Sto.chgs [] ((Sto.batches S).take (j+1)).flatten).map (·.1)).Nodup:=by
     rw[List.Nodup,List.pairwise_map];exact List.Pairwise.imp (R:=λa b:Sto.Op=>a.1<b.1) (λ{a b} h e=>by rw[e]at h;exact List.lt_irrefl _ h) (aw.out (j+1))
    rw[← aG.out,List.map_map]at O;exact QA O
   have av:Hid (Sto.live (l8.map (·.1))≤50000):=QA (by rw[aG.out];exact bA.out);clear hm8 he8 ay hbt8 y0 y1 y2 y3 y4 z1;have y0:=rc0 Z.out;have y1:=rc1 Z.out;have y2:=rc2 Z.out;have y3:=rc3 Z.out;have y4:=rc4 Z.out;go_wp2_with fail;refine (Cf w.heap.size l8 w8 G bo.out bz.out (by have:=av.out;omega)).mono ?_;rintro e w9 ⟨rfl,hb9⟩;have bJ:=QA (bo.out.below hb9);have bg:=QA (bj.out.trans (SFr.below hb9));have b4:((Sto.live (l8.map (·.1)):Nat):Int)≤50000:=by have:=av.out;omega
   clear hb9;go_wp2_with fail;go_roundg (ps.length-(j+1))
   case measure=>rw[HK.out];omega
   case rel=>exact⟨j+1,l8,by omega,rfl,by rw[Ii hjn bG.out];simp,bJ.out,aG.out,bg.out⟩
  ·have bm:(ps.length:Int)≤(j:Int):=by omega
   have bc:Hid (lj.map (·.1)=Sto.ents S):=QA (by rw[aL.out,List.take_of_length_le (by have:=bT.out;omega)];rfl);go_wp2_with fail;refine bodyPost_ret (v:=.tuple #[.pointer (some ⟨r,0,none⟩),.int .i64 0]) (by simp[results,Tryz.results21,go_sem]) rfl ?_;have bW:w.heap.size<w5.heap.size∧w5.heap.size≤w6.heap.size:=by have O:=U.out;have h2:=aH.out;have h3:=A.out.size;omega
   have hK:Kept o (·=.other) w6 wr:=⟨D.out.os,D.out.tape,D.out.output,D.out.size,λb hb hn=>D.out.block b hb rfl λe=>hn (by rw[e];exact aq.out)⟩
   have hS:SFr r own o w wr:=⟨D.out.os.trans (A.out.os.trans T.out.os),D.out.tape.trans (A.out.tape.trans T.out.tape),D.out.output.trans (A.out.output.trans T.out.output),QQ T.out.size (QQ bW.2 D.out.size),T.out.tags,
    λb hb ho hr=>(D.out.block b (by omega) rfl (by omega)).trans ((A.out.block b (by omega)).trans (T.out.block b hb ho hr))⟩
   have bM:Below base w wr:=ax.out.trans ((A.out.mono (by omega)).trans (D.out.below hbase (by omega)));have bI:MV G (SF r o) wr wr:=⟨QM _,λb _ hb=>⟨a8.out b hb,rfl⟩⟩
   exact⟨r,V5,o,.slice F J N,w.heap.size,lj,rfl,by omega,(H5.out.kept (AB A.out)).kept hK,hS,bM,aB.out,a6.out,(a5.out.mv (D.out.mv hG)).mv bI,be.out.toF a8.out ⟨aq.out,Y⟩,bc.out,by
    show Sto.Srt (Sto.ents S);have:=aw.out (Sto.batches S).length
    rwa [List.take_length]at this⟩
open Go.Maps Go.WideMaps
theorem BK {P:Program} {ops:Array Oper} {rest:List Oper} {o:Oper} {a:Act} {w:World} {Q:Exit→Act→World→Prop} (hw:Region.wanted o (yielded ops a.tmps)=true)
  (h:∀K:Act→World→Prop,(∀a w,wpList P ops Q rest a w→K a w)→o.wp P a w K Q):wpList P ops Q (o::rest) a w :=
 wpList_step λK hK=>by rw[if_pos hw];exact h K hK
def Ao (c:UInt8):List UInt8:=c::List.replicate 31 0
theorem Gn (c:UInt8):(Ao c).length=32:=rfl
theorem EO (w:World) (c:UInt8):(Instr.build 40 #[(0,.int .u8 (c.toNat:Int))]).run Tryz.prog w=.ok (Ah (Ao c)) w:=by kernel_rfl
theorem DY {zs:Array Value} {k:List UInt8} (hk:k.length=32) (hz:zs.size=34) (n u:Value) (hn:zs[32]?=some n) (hu:zs[33]?=some u) (places:Nat→Option (Nat×Nat)) (h0:places 0=some (0,32)) (r:List (Nat×Value)) :
  Instr.fill places zs ((0,Ah k)::r)=Instr.fill places (AH k++[n,u]).toArray r:=by
 have C:(Ah k).cells.size=32:=by show (AH k).toArray.size=32;rw[List.size_toArray,AP,hk]
 rw[Instr.fill,h0];simp only;rw[if_neg (by simp[C,hz])];obtain⟨G,D⟩:=Great.foldl_set 0 (AH k) 0 zs;have E:(Array.foldl (λA (x:Value×Nat)=>A.setIfInBounds (0+x.2) x.1) zs ((Ah k).cells.zipIdx))=((AH k).zipIdx 0).foldl (λA (x:Value×Nat)=>A.setIfInBounds (0+x.2) x.1) zs:=by
  show Array.foldl _ zs ((AH k).toArray.zipIdx)=_;rw[← Array.foldl_toList,Array.toList_zipIdx]
 rw[E];obtain⟨A,B⟩:∃A,((AH k).zipIdx 0).foldl (λA (x:Value×Nat)=>A.setIfInBounds (0+x.2) x.1) zs=A:=⟨_,rfl⟩
 rw[B]at G D ⊢
 congr 1
 apply Array.ext_getElem?;intro t;have F:(AH k++[n,u]).toArray[t]?=(AH k++[n,u])[t]?:=by simp
 rw[F,D];have o:=AP k;rw[hk]at o;by_cases h32:t<32
 ·rw[if_pos (by omega),List.getElem?_append_left (by omega)]
  congr 1
 ·rw[if_neg (by omega),List.getElem?_append_right (by omega),o];by_cases h3:t=32
  ·subst h3;rw[hn];rfl
  ·by_cases h33:t=33
   ·subst h33;rw[hu];rfl
   ·rw[Array.getElem?_eq_none (by omega),List.getElem?_eq_none (by simp;omega)]
theorem I5 {k:List UInt8} (hk:k.length=32) (n u x:Value):(AH k++[n,u]).toArray.setIfInBounds 32 x=(AH k++[x,u]).toArray:=by
 have o:=AP k;rw[QC,List.set_append,if_neg (by omega),o,hk];rfl
theorem JF {k:List UInt8} (hk:k.length=32) (n u x:Value):(AH k++[n,u]).toArray.setIfInBounds 33 x=(AH k++[n,x]).toArray:=by
 have o:=AP k;rw[QC,List.set_append,if_neg (by omega),o,hk];rfl
theorem Cx {zs:Array Value} {i off:Nat} {v:Value} (hv:v.cells=#[v]) (hz:off<zs.size) (places:Nat→Option (Nat×Nat)) (h0:places i=some (off,1)) (r:List (Nat×Value)) :
  Instr.fill places zs ((i,v)::r)=Instr.fill places (zs.setIfInBounds off v) r:=by
 rw[Instr.fill,h0];simp only;rw[if_neg (by rw[hv];simp;omega),hv];rfl
theorem Ej (w:World) (k:List UInt8) (hk:k.length=32) (n:Int) (b:List UInt8) (v:Value) (hv:v.cells=#[v]):(Instr.build 43 #[(0,Ah k),(1,.int .i64 n),(2,v)]).run Tryz.prog w=.ok (.agg (AG (k,n,b) v).toArray) w:=by
 have o:=AP k;unfold Instr.build;simp only[Sem.run_bind,G9,Result.andThen_ok,run_underlying Tryz.underlying43];simp;rw[DY hk (by simp[Value.cells]) (.int .i64 0) (.slice none 0 0) (by simp[Value.cells]) (by simp[Value.cells]) _ rfl,Cx (off:=32) rfl (by simp;omega) _ rfl,I5 hk,Cx (off:=33) hv (by simp;omega) _ rfl,JF hk];rfl
theorem Ek (w:World) (k:List UInt8) (hk:k.length=32):(Instr.build 43 #[(0,Ah k)]).run Tryz.prog w=.ok (.agg (AG (k,0,[]) (.slice none 0 0)).toArray) w:=by
 unfold Instr.build;simp only[Sem.run_bind,G9,Result.andThen_ok,run_underlying Tryz.underlying43];simp;rw[DY hk (by simp[Value.cells]) (.int .i64 0) (.slice none 0 0) (by simp[Value.cells]) (by simp[Value.cells]) _ rfl];rfl
theorem Ef (w:World) (l:Sto.ME) (hk:∀p∈l,p.1.1.length=32) (h0:0<l.length) (h1:l.length≤100) (parts:Array (Nat×Value)) (hp:parts.toList=((l.map λp=>Value.agg (AG p.1 p.2).toArray).zipIdx 0).map λx=>(x.2,x.1)) :
  (Instr.buildSlice 22 l.length parts).run Tryz.prog w=.ok (.slice (some ⟨w.heap.size,0,none⟩) l.length l.length) (w.alloc (.cells (AU l).toArray 43)):=by
 obtain⟨D,C,A,o,B⟩:=info_parts GX;refine run_buildSlice w 22 43 l.length _ (AU l).toArray D _ Tryz.underlying22 C A (by rw[o];omega) (by rw[o];omega) ?_;rw[o,hp];have:=Great.fill_whole (s:=34) (by omega) (l.map λp=>Value.agg (AG p.1 p.2).toArray) ((Array.range (l.length*34)).map λx=>(Value.agg (Array.replicate 32 (.int .u8 0)++#[.int .i64 0,.slice none 0 0])).cells[x % (Value.agg (Array.replicate 32 (.int .u8 0)++#[.int .i64 0,.slice none 0 0])).cells.size]!) (λv hv=>by
  obtain⟨p,hp,rfl⟩:=List.mem_map.1 hv;show (AG p.1 p.2).toArray.size=34;rw[List.size_toArray,Ac (hk p hp)]) (by simp)
 refine this.trans (congrArg some (congrArg List.toArray ?_));unfold AU;rw[List.flatMap_map];refine congrArg (λf=>List.flatMap f l) (funext λp=>?_);simp[Value.cells]
theorem Hn {ops:Array Oper} {rest:List Oper} {op:Oper} {a:Act} {w:World} {Q:Exit→Act→World→Prop} (hw:Region.wanted op (yielded ops a.tmps)=true) (x:Operand) (ho:op.op=.build 40 #[(0,x)]) (c:UInt8) (hx:a.eval x=.int .u8 (c.toNat:Int))
  (h:wpList Tryz.prog ops Q rest (a.put op.dst (Ah (Ao c))) w):wpList Tryz.prog ops Q (op::rest) a w :=
 BK hw λ_ hK=>by
  unfold Oper.wp execOp;simp only[ho,List.map_toArray,ZP,ZR,hx,Sem.run_bind,EO w c,Result.andThen_ok];exact hK _ _ h
theorem Ht {ops:Array Oper} {rest:List Oper} {op:Oper} {a:Act} {w:World} {Q:Exit→Act→World→Prop} (hw:Region.wanted op (yielded ops a.tmps)=true) (x y z:Operand) (ho:op.op=.build 43 #[(0,x),(1,y),(2,z)]) (k:List UInt8) (hk:k.length=32) (n:Int) (b:List UInt8) (v:Value) (hv:v.cells=#[v])
  (hx:a.eval x=Ah k) (hy:a.eval y=.int .i64 n) (hz:a.eval z=v) (h:wpList Tryz.prog ops Q rest (a.put op.dst (.agg (AG (k,n,b) v).toArray)) w):wpList Tryz.prog ops Q (op::rest) a w :=
 BK hw λ_ hK=>by
  unfold Oper.wp execOp;simp only[ho,List.map_toArray,ZP,ZR,hx,hy,hz,Sem.run_bind,Ej w k hk n b v hv,Result.andThen_ok];exact hK _ _ h
theorem KU {ops:Array Oper} {rest:List Oper} {op:Oper} {a:Act} {w:World} {Q:Exit→Act→World→Prop} (hw:Region.wanted op (yielded ops a.tmps)=true) (x:Operand) (ho:op.op=.build 43 #[(0,x)]) (k:List UInt8) (hk:k.length=32)
  (hx:a.eval x=Ah k) (h:wpList Tryz.prog ops Q rest (a.put op.dst (.agg (AG (k,0,[]) (.slice none 0 0)).toArray)) w):wpList Tryz.prog ops Q (op::rest) a w :=
 BK hw λ_ hK=>by
  unfold Oper.wp execOp;simp only[ho,List.map_toArray,ZP,ZR,hx,Sem.run_bind,Ek w k hk,Result.andThen_ok];exact hK _ _ h
theorem Hp {ops:Array Oper} {rest:List Oper} {op:Oper} {a:Act} {w:World} {Q:Exit→Act→World→Prop} (hw:Region.wanted op (yielded ops a.tmps)=true) (n:Nat) (xs:Array (Nat×Operand)) (ho:op.op=.buildSlice 22 n xs) (l:Sto.ME) (hk:∀p∈l,p.1.1.length=32) (hn:l.length=n) (h0:0<n) (h1:n≤100)
  (hx:xs.toList.map (λ(i,x)=>(i,a.eval x))=((l.map λp=>Value.agg (AG p.1 p.2).toArray).zipIdx 0).map λx=>(x.2,x.1)) (h:wpList Tryz.prog ops Q rest (a.put op.dst (.slice (some ⟨w.heap.size,0,none⟩) n n)) (w.alloc (.cells (AU l).toArray 43))):wpList Tryz.prog ops Q (op::rest) a w :=
 BK hw λ_ hK=>by
  subst hn;unfold Oper.wp execOp;simp only[ho,Sem.run_bind,Ef w l hk h0 h1 (xs.map λ(i,x)=>(i,a.eval x)) (by rw[Array.toList_map];exact hx),Result.andThen_ok];exact hK _ _ h
theorem CG {ops:Array Oper} {rest:List Oper} {op:Oper} {a:Act} {w:World} {Q:Exit→Act→World→Prop} (hw:Region.wanted op (yielded ops a.tmps)=true) (x:Operand) (ho:op.op=.load 40 x) (g off:Nat) (k:List UInt8) (hk:k.length=32)
  (hx:a.eval x=.pointer (some ⟨g,off,none⟩)) (hW:w.rangeAt g off (AH k)) (h:wpList Tryz.prog ops Q rest (a.put op.dst (Ah k)) w):wpList Tryz.prog ops Q (op::rest) a w :=
 BK hw λ_ hK=>by
  unfold Oper.wp execOp;simp only[ho,hx,Instr.loadAt,Instr.sureAddr,Sem.run_bind,Sem.run_pure,Result.andThen_ok,run_loadVar_mid w g off 40 (AH k) _ hW Tryz.underlying40 rfl (by rw[AP,hk];kernel_rfl)];exact hK _ _ h
theorem Al.lit {w:World} {F:Nat→Prop} (l:Sto.ME) (hk:∀p∈l,p.1.1.length=32) (hv:∀p∈l,Ax w F p.2 p.1.2.2) (hF:F w.heap.size):Al (w.alloc (.cells (AU l).toArray 43)) F (.slice (some ⟨w.heap.size,0,none⟩) l.length l.length) l:=by
 have o:Below w.heap.size w (w.alloc (.cells (AU l).toArray 43)):=(Below.refl _ _).alloc (QM _) _;refine⟨_,_,rfl,QM _,λi p hp=>⟨hk p (QZ hp),(hv p (QZ hp)).mv (MV.below o),w.heap.size,0,rfl,AC (AK w _),hF,λj u hj=>?_⟩⟩;rw[Nat.zero_add];exact AA (AK w _) _ _ (by simpa using Bb l hk i p j u hp hj)
def IJ (rm:Int) (w:World) (e:Ending) (w':World):Prop :=
 ∃r V own sv mb,e=.returned (.tuple #[.pointer (some ⟨w.heap.size+2,0,none⟩),.pointer (some ⟨r,0,none⟩)])∧w.heap.size≤r∧Aa w.heap.size (w.heap.size+2) (Mf.save (Sg.create (Fs.new rm) 1).1 1 [1]).1 V own w'∧Below w.heap.size w w'∧An w' own (w.heap.size+2) r ⟨1,[1],[],false⟩ mb sv []
theorem Dv (base:Nat) (rm:Int) (w:World) (hE:Aq base w) (hbase:base≤w.heap.size) (h1:3200≤rm) (h2:rm≤1048576):Calls Tryz.prog 10 #[.int .i64 rm] w (IJ rm w):=by
 have E:=QA hE;clear hE;go_enter Tryz.func10,Tryz.ntmps10;go_wp2_with fail;refine (H6 rm w).mono ?_;rintro e w1 ⟨hb1,(⟨hno,_⟩|⟨_,rfl,V1,h1'⟩)⟩
 ·exact absurd hno (by omega)
 have o:=QA hb1;have G:=QA h1';have A:=QA ((E.out.below (hb1.mono hbase)).mono hbase);clear hb1 h1';go_wp2_with fail;refine (FU w.heap.size (w.heap.size+2) rm V1 _ w1 G.out A.out o.out.size h1 h2).mono ?_;rintro e w2 ⟨r,V2,own2,sv,mb,l,rfl,hr,hf,hs,hb2,hA⟩;have F:l=[]:=by
  have:=hA.is;exact List.map_eq_nil_iff.1 this
 subst F;have H:=QA hf;have C:=QA hb2;have D:=QA hA;have B:Hid (w.heap.size≤r):=QA (QQ o.out.size hr);clear hf hb2 hA hs hr;go_wp2_with fail;refine bodyPost_ret (v:=.tuple #[.pointer (some ⟨w.heap.size+2,0,none⟩),.pointer (some ⟨r,0,none⟩)]) (by simp[results,Tryz.results10,go_sem]) rfl ?_;exact⟨r,V2,own2,sv,mb,rfl,B.out,H.out,o.out.trans C.out,D.out⟩
end Go.Proofs.YtjldahcckmmenaaGreatDoor
