/-
  The store: Open of what its files hold, walked. Keys, changes and slices of changes that a law builds; Fresh of rubriclaw06, walked.
-/
import Derived.Test.YtjldahcckmmenaaGreatDoorZa17
import Derived.Test.YtjldahcckmmenaaGreatDoorZa9
open Go.Lib renaming hid → QA
open List renaming setIfInBounds_toArray → QC, length_map → QV, mem_of_getElem? → QZ, getElem?_map → ZF, map_cons → ZP, map_nil → ZR
open Nat renaming le_refl → QM, le_trans → QQ
namespace Go.Proofs.YtjldahcckmmenaaGreatDoor
set_option maxRecDepth 100000
set_option maxHeartbeats 4000000
set_option linter.unusedSimpArgs false
set_option linter.unusedVariables false
open Go Go.RowKit
open Go.Maps Go.WideMaps
theorem GP:∀(ps:List (Sg.En×Value)) (i:Nat) (p:Sg.En×Value),ps[i]?=some p→(CQ ps)[i*3]?=some (.int .i64 p.1.1)∧(CQ ps)[i*3+1]?=some (.int .i64 p.1.2.1)∧(CQ ps)[i*3+2]?=some p.2
 | [],i,p,h=>by simp at h
 | q::ps,0,p,h=>by
  simp at h;subst h;exact⟨rfl,rfl,rfl⟩
 | q::ps,i+1,p,h=>by
  have:=GP ps i p (by simpa using h);rw[show (i+1)*3=i*3+1+1+1 by omega];exact this
def EnF (w:World) (G:Nat→Prop) (v:Value) (l:List (Sg.En×Value)):Prop :=
 ∃a cap,v=.slice a l.length cap∧∀(i:Nat) p,l[i]?=some p→BB w G p.2 p.1.2.2∧∃g,a=some ⟨g,0,none⟩∧g<w.heap.size∧G g ∧
  w.cell? ⟨g,i*3,none⟩=some (.int .i64 p.1.1)∧w.cell? ⟨g,i*3+1,none⟩=some (.int .i64 p.1.2.1)∧w.cell? ⟨g,i*3+2,none⟩=some p.2
theorem CO.le_max {w:World} {base:Nat} {v:Value} {l:List (Sg.En×Value)} (h:CO w base v l):l.length≤maxLen:=by
 rcases h.row.2 with⟨h1,h2⟩|⟨g,cap,cur,h1,hg,hb,hc,hm,_,_⟩
 ·omega
 ·omega
theorem I3 {j n:Nat} (h:j<n) (hn:n≤maxLen):wrap64 ((j:Int)+1)=(j:Int)+1:=by
 unfold maxLen at hn;unfold wrap64;omega
theorem EnF.form {w:World} {G:Nat→Prop} {v:Value} {l:List (Sg.En×Value)} (h:EnF w G v l):∃a cap,v=.slice a l.length cap:=by
 obtain⟨a,cap,o,_⟩:=h;exact⟨a,cap,o⟩
theorem CO.enF {w:World} {base:Nat} {G:Nat→Prop} {v:Value} {l:List (Sg.En×Value)} (h:CO w base v l) (hG:∀b,base≤b→G b):EnF w G v l:=by
 have o:=λg hg=>World.ownsRow.cells (g:=g) h.row hg
 rcases h.row.2 with⟨h1,h2⟩|⟨g,cap,cur,h1,hg,hb,hc,hm,_,_⟩
 ·have F:l=[]:=List.eq_nil_of_length_eq_zero h2;subst F;exact⟨none,0,h1,λi p hp=>by simp at hp⟩
 ·refine⟨some ⟨g,0,none⟩,cap,h1,λi p hp=>⟨(h.pay p (QZ hp)).bytF hG,g,rfl,AD hb,hG g hg,?_⟩⟩;obtain⟨D,H,E⟩:=GP l i p hp;have B:=o g (by rw[h1];rfl) _ _ D;have C:=o g (by rw[h1];rfl) _ _ H;have A:=o g (by rw[h1];rfl) _ _ E;rw[addr_add]at B C A;exact⟨B,C,A⟩
theorem EnF.mv {F F':Nat→Prop} {w w':World} {v:Value} {l:List (Sg.En×Value)} (h:EnF w F v l) (m:MV F F' w w'):EnF w' F' v l:=by
 obtain⟨a,cap,E,B⟩:=h;refine⟨a,cap,E,λi p hi=>?_⟩;obtain⟨D,g,J,A,C,H,I,G⟩:=B i p hi;obtain⟨K,o⟩:=m.2 g A C;exact⟨D.mv m,g,J,Nat.lt_of_lt_of_le A m.1,K,by rw[World.cell?_of_block o];exact H,by rw[World.cell?_of_block o];exact I,by rw[World.cell?_of_block o];exact G⟩
theorem EnF.at {w:World} {G:Nat→Prop} {a:Option Addr} {n cap:Nat} {l:List (Sg.En×Value)} (h:EnF w G (.slice a n cap) l) {i:Nat} {p:Sg.En×Value} (hi:l[i]?=some p) :
  BB w G p.2 p.1.2.2∧∃g,a=some ⟨g,0,none⟩∧w.cell? ⟨g,i*3,none⟩=some (.int .i64 p.1.1)∧w.cell? ⟨g,i*3+1,none⟩=some (.int .i64 p.1.2.1)∧w.cell? ⟨g,i*3+2,none⟩=some p.2:=by
 obtain⟨H,A,o,B⟩:=h;obtain⟨C,g,E,I,F,D⟩:=B i p hi;simp only[Value.slice.injEq]at o;exact⟨C,g,by rw[o.1,E],D⟩
namespace Sto
theorem F6:∀S:List Seg,(ens S).map (·.2)=(batches S).map λops=>((1:Int),flat ops)
 | []=>rfl
 | s::S=>by
  have A:ens (s::S)=(GH s.2).map (λf=>(s.1,f))++ens S:=List.flatMap_cons ..;have o:batches (s::S)=s.2++batches S:=List.flatMap_cons ..;rw[A,o,List.map_append,List.map_append,F6 S,List.map_map];unfold GH;rw[List.map_map];rfl
theorem ens_len (S:List Seg):(ens S).length=(batches S).length:=by
 have:=congrArg List.length (F6 S)
 rwa [QV,QV]at this
theorem ens_get {ps:List (Sg.En×Value)} {S:List Seg} (h:ps.map (·.1)=ens S) {j:Nat} {p:Sg.En×Value} (hp:ps[j]?=some p):∃ops,(batches S)[j]?=some ops∧p.1.2=(1,flat ops):=by
 have B:(ens S)[j]?=some p.1:=by rw[← h,ZF,hp];rfl
 have o:((ens S).map (·.2))[j]?=some p.1.2:=by rw[ZF,B];rfl
 rw[F6,ZF]at o;obtain⟨ops,A,C⟩:=Option.map_eq_some_iff.1 o;exact⟨ops,A,C.symm⟩
end Sto
theorem Kl (w:World) (B:Nat):((w.alloc (.map #[] 0)).alloc (.cells #[.int .i64 0,.slice none 0 0,.map (some w.heap.size),.pointer (some ⟨B,0,none⟩),.bool false] 51)).heap[w.heap.size+1]?=some (.cells (AF 0 (.slice none 0 0) w.heap.size B false) 51 (0,0)):=by
 have:=AJ (w.alloc (.map #[] 0)) (.cells #[.int .i64 0,.slice none 0 0,.map (some w.heap.size),.pointer (some ⟨B,0,none⟩),.bool false] 51);rw[show (w.alloc (.map #[] 0)).heap.size=w.heap.size+1 by simp]at this;exact this
theorem FI (base B:Nat) (f:Fs.St) (V:FsV) (own:Nat→Tag) (k:Nat) (ver:Int) (S:List Sto.Seg) (M:Nat) (w:World) (h:Ae base B f V own w) (hE:Cq base w) (hbase:base≤w.heap.size) (hD:Sto.DiskX f k ver S M) (hk:k≤100000) :
  Calls Tryz.prog 21 #[.pointer (some ⟨B,0,none⟩)] w (Ga base B (Fs.clean f ver (Sto.ids S)).1 own ver S w):=by
 have cf:=@run_makeMap Tryz.prog;obtain⟨w1,ad⟩:∃x,x=(w.alloc (.map #[] 0)).alloc (.cells #[.int .i64 0,.slice none 0 0,.map (some w.heap.size),.pointer (some ⟨B,0,none⟩),.bool false] 51):=⟨_,rfl⟩
 have aP:Below w.heap.size w w1:=by rw[ad];exact ((Below.refl _ _).alloc (QM _) _).alloc (by simp) _
 have bc:w1.ownsMap Tryz.prog 40 Sto.elemR w.heap.size 0 (.map []):=by rw[ad];exact (World.ownsMap_made w Tryz.prog 40 Sto.elemR).alloc _
 have a3:w1.heap[w.heap.size+1]?=some (.cells (AF 0 (.slice none 0 0) w.heap.size B false) 51 (0,0)):=by rw[ad];exact Kl w B
 obtain⟨k1,k2,k3⟩:=hD.clean;have bM:=QA ad.symm;have a2:=QA aP;have bh:=QA bc;have al:=QA a3;have H:=QA (h.kept (AC aP));have HE:=QA hE;have HD:=QA hD;have bG:=QA k1;have a0:=QA k2;have bU:f.dir.length≤900000:=by have:=hD.sound.ndir;omega
 have U:Hid (own (w.heap.size+1)=.other):=QA (h.fresh _ (by omega));have be:Hid (own w.heap.size=.other):=QA (h.fresh _ (by omega));clear ad aP bc a3 h hE hD k1 k2 k3;go_enter Tryz.func21,Tryz.ntmps21;go_wp2_with fail;rw[bM.out];refine (Ca base B f V own w1 H.out bU).mono ?_;rintro e w2 ⟨v1,rfl,hs1,-,hb2⟩;obtain⟨a1,c1,rfl⟩:=hs1.form;have bv:=QA hs1;have ak:=QA (a2.out.trans (hb2.mono a2.out.size));have C:=QA hb2;have bN:(strsOf (Fs.keys f.dir)).length≤1000000:=by unfold strsOf;rw[QV,Fs.keys_len];omega
 clear hb2 hs1;go_wp2_with fail;refine (Ex bv.out bN (d:=f.dir) rfl).mono ?_;rintro e w3 ⟨rfl,rfl⟩;rw[HD.out.has];go_wp2_with fail;refine (Jt base B f V own w3 (H.out.kept (AC C.out)) (HE.out.below (ak.out.mono hbase)) (QQ hbase ak.out.size) k HD.out.sound).mono ?_;rintro e w4 ⟨hb4,sv,rfl,hsv⟩;rw[HD.out.load]at hsv ⊢;simp only at hsv;obtain⟨I,J,F,a5,b9⟩:=Ai.form3 hsv;subst a5;obtain⟨r,hr⟩:∃r,w.heap.size+1=r:=⟨_,rfl⟩
 rw[hr]at al U ⊢;have bK:=QA (ak.out.trans (hb4.mono ak.out.size));have aa:=QA (C.out.trans (hb4.mono C.out.size));have Y:=QA hsv;have X:Hid (w3.heap.size≤w4.heap.size∧r<w3.heap.size∧w.heap.size<w3.heap.size∧r<w4.heap.size):=QA (by
  have O:=AD al.out;have h2:=C.out.size;have h3:=hb4.size;omega)
 have E:Hid (w4.heap[r]?=some (.cells (AF 0 (.slice none 0 0) w.heap.size B false) 51 (0,0))):=QA ((aa.out.block r (AD al.out)).trans al.out);have bH:Hid (w4.ownsMap Tryz.prog 40 Sto.elemR w.heap.size 0 (.map [])):=QA (ownsMap_at bh.out (aa.out.block _ bh.out.lt));have bz:=QA (H.out.kept (AC aa.out));have f0:=AE E.out 0;have f1:=AE E.out 1;have y0:=rc0 E.out;have y1:=rc1 E.out;have y2:=rc2 E.out;have y3:=rc3 E.out;have y4:=rc4 E.out;clear hb4 hsv;go_wp2_with fail;obtain⟨W,hW⟩:∃q,(w4.setCell ⟨r,0,none⟩ (.int .i64 ver)).setCell ⟨r,1,none⟩ (.slice I J F)=q:=⟨_,rfl⟩
 rw[hW];have Z:w.heap.size≠r:=by omega
 have bb:Hid (W.heap[r]?=some (.cells (AF ver (.slice I J F) w.heap.size B false) 51 (0,0))):=QA (by rw[← hW];exact heap_set (heap_set E.out _) _);have aD:Hid (W.ownsMap Tryz.prog 40 Sto.elemR w.heap.size 0 (.map [])):=QA (ownsMap_at bH.out (by rw[← hW];exact (Below.heap_setCell _ _ _ _ Z).trans (Below.heap_setCell _ _ _ _ Z)));have bk:Hid (Ae base B f V own W):=QA (by
  rw[← hW];exact bz.out.kept (((Kept.refl own (·=.other) w4).setCell ⟨r,0,none⟩ U.out _).setCell ⟨r,1,none⟩ U.out _))
 have aj:Hid (Below w.heap.size w W):=QA (by
  rw[← hW];exact (bK.out.setCell (p:=⟨r,0,none⟩) (by show _≤r;omega) _).setCell (p:=⟨r,1,none⟩) (by show _≤r;omega) _)
 have an:Hid (Ai W w3.heap.size (.slice I J F) (Sto.ids S)):=QA (AQ Y.out λg hg=>by
  have O:=(Y.out.lt g hg).1;have h2:=X.out;rw[← hW];exact (Below.heap_setCell _ _ _ g (by show g≠r;omega)).trans (Below.heap_setCell _ _ _ g (by show g≠r;omega)))
 have aL:Hid (W.heap.size=w4.heap.size):=QA (by rw[← hW];simp[World.setCell]);clear hW y0 y1 y2 y3 y4 f0 f1;go_wp2_with fail;have aH:=QQ hbase aj.out.size;have bl:(Sto.ids S).length≤1000000000:=by have:=(Mf.good_out HD.out.good).2.1.2;omega
 have aA:(Sto.ids S).length≤1000:=by have:=(Mf.good_out HD.out.good).2.1.2;omega
 refine (I2 base B f V own ver (.slice I J F) (Sto.ids S) W bk.out (HE.out.sg.below (aj.out.mono hbase)) aH k HD.out.sound (by omega) (λz hz=>by rw[HD.out.calm.2]at hz;cases hz) an.out.nums bl
  (λp n c e=>H.out.fresh _ (QQ C.out.size (Y.out.lt p.block (by rw[e];rfl)).1))).mono ?_
 rintro e w5 ⟨rfl,hpost⟩;rw[bG.out];have ab:=AV.below0 bk.out hpost aH;obtain⟨V5,o,h5,Q,P⟩:=hpost;have bd:=AD bb.out;have H5:=QA h5;have T:Hid (SFr r own o w w5):=QA ((SFr.below aj.out).trans (SFr.kept Q P));have ax:Hid (Below base w w5):=QA ((aj.out.mono hbase).trans ab);have K:Hid (w5.heap[r]?=some (.cells (AF ver (.slice I J F) w.heap.size B false) 51 (0,0))):=QA ((P.block r bd (by rw[U.out];simp)).trans bb.out);have bo:Hid (w5.ownsMap Tryz.prog 40 Sto.elemR w.heap.size 0 (.map [])):=QA (ownsMap_at aD.out (P.block _ aD.out.lt (by rw[be.out];simp)));have aI:Hid (∀g,(Value.slice I J F).ownBlock=some g→own g=.other):=QA λg hg=>H.out.fresh g (QQ C.out.size (Y.out.lt g hg).1)
 have av:Hid (Ai w5 w3.heap.size (.slice I J F) (Sto.ids S)):=QA (AQ an.out λg hg=>P.block g (an.out.lt g hg).2 (by rw[aI.out g hg];simp));have ca:Hid (∀b,b<w5.heap.size→b<W.heap.size→o b=own b):=QA λb _ hb=>Q b hb
 have bu:W.heap.size≤w5.heap.size:=P.size;have bq:Hid (o r=.other):=QA ((Q r bd).trans U.out);have ar:Hid (o w.heap.size=.other):=QA ((Q _ aD.out.lt).trans be.out);have aN:Hid (Dc w5 (λb=>SF r o b∧b≠w.heap.size) (.slice I J F) (Sto.ids S)):=QA ⟨av.out.nums,λp n c e _=>by
  have hg:(Value.slice I J F).ownBlock=some p.block:=by rw[e];rfl
  have O:=(Y.out.lt _ hg).1;have h2:=X.out;exact⟨⟨(Q _ (an.out.lt _ hg).2).trans (aI.out _ hg),by omega⟩,by omega⟩⟩
 clear h5 Q P ab av aI;have y0:=rc0 K.out;have y1:=rc1 K.out;have y2:=rc2 K.out;have y3:=rc3 K.out;have y4:=rc4 K.out;go_wp2_with fail;refine (Gn base B _ V5 o (.slice I J F) (Sto.ids S) w5 H5.out (HE.out.sg.below ax.out) (QQ aH bu) (a0.out.sound.small (by omega)) aN.out.1 aA).mono ?_;rintro e w6 ⟨hb6,ev,ps,rfl,hen,hps⟩;rw[a0.out.read]at hps ⊢;simp only at hps;have az:Hid (EnF w6 (λb=>SF r o b∧b≠w.heap.size) ev ps):=QA (hen.enF λb hb=>by
  have O:=X.out;have h2:=aL.out;exact⟨⟨H5.out.fresh b hb,by omega⟩,by omega⟩)
 obtain⟨ea,ec,rfl⟩:=az.out.form;have bW:=QA hps;have bP:=QA hen.le_max;have bR:Hid (ps.length=(Sto.batches S).length):=QA (by rw[← Sto.ens_len,← hps,QV]);have A:=QA hb6;have a6:Hid (w6.heap[r]?=some (.cells (AF ver (.slice I J F) w.heap.size B false) 51 (0,0))):=QA ((hb6.block r (AD K.out)).trans K.out);have aZ:Hid (A9 w6 (λb=>SF r o b∧b≠w.heap.size) w.heap.size []):=QA ⟨ownsMap_at bo.out (hb6.block _ bo.out.lt),λp hp=>(by cases hp),λp hp=>(by cases hp)⟩;clear y0 y1 y2 y3 y4 hen hps hb6;have hG:∀b,(λb=>SF r o b∧b≠w.heap.size) b→b≠w.heap.size:=λb hb=>hb.2
 have aC:Hid (∀b,w5.heap.size≤b→(λb=>SF r o b∧b≠w.heap.size) b):=QA λb hb=>by
  have O:=X.out;have h2:=aL.out;exact⟨⟨H5.out.fresh b hb,by omega⟩,by omega⟩
 obtain⟨G,aQ⟩:∃G:Nat→Prop,(λb=>SF r o b∧b≠w.heap.size)=G:=⟨_,rfl⟩
 have ba:Hid (∀b,G b→SF r o b):=QA (by rw[← aQ];exact λb hb=>hb.1);have bm:=QA (aN.out.mv (MV.below A.out));rw[aQ]at az aZ hG aC bm;clear aQ aN;go_wp2_with fail
 go_loopg [66] ps.length (λdn s66 wr=>∃(j:Nat) (lj:Sto.ME),j≤ps.length∧dn=ps.length-j∧s66=.int .i64 (j:Nat)∧A9 wr G w.heap.size lj∧lj.map (·.1)=Sto.chgs [] ((Sto.batches S).take j).flatten∧Bt w.heap.size w6 wr)
 case atStart=>exact⟨0,[],Nat.zero_le _,rfl,rfl,aZ.out,rfl,SFr.refl _ _ _⟩
 case round =>
  obtain⟨j,lj,hj,a8,rfl,hM,a7,hB⟩:=hrel;have HK:=QA a8;have D:=QA hB;have aW:=QA hM;have aE:=QA a7;clear a8 hB hM a7;have b8:(0:Int)≤(j:Int):=Int.natCast_nonneg _;have aB:Hid (wr.heap[r]?=some (.cells (AF ver (.slice I J F) w.heap.size B false) 51 (0,0))):=QA ((D.out.block r (AD a6.out) rfl (λe=>Z e.symm)).trans a6.out);have ay:Hid (∀i,Sto.Srt (Sto.chgs [] ((Sto.batches S).take i).flatten)):=QA λi=>Sto.srt_chgs _ List.Pairwise.nil
  by_cases hjn:j<ps.length
  ·have bn:(j:Int)<(ps.length:Int):=by omega
   obtain⟨⟨⟨aJ,kd,pl⟩,pv⟩,hp⟩:∃p,ps[j]?=some p:=⟨_,List.getElem?_eq_getElem hjn⟩
   obtain⟨L,aq,he⟩:=Sto.ens_get bW.out hp;simp only[Prod.mk.injEq]at he;obtain⟨rfl,rfl⟩:=he;obtain⟨ai,g,rfl,x0,x1,x2⟩:=(az.out.mv (D.out.mv hG)).at hp;simp only at ai x0 x1 x2;obtain⟨pa,pc,rfl,-⟩:=ai.1.form;have aG:=QA (HD.out.bat L (QZ aq));have bC:Hid (Sto.chgs [] ((Sto.batches S).take (j+1)).flatten=Sto.chgs (Sto.chgs [] ((Sto.batches S).take j).flatten) L):=QA (by
    rw[List.take_add_one,aq,List.flatten_append,Sto.chgs_app];simp)
   have bx:=QA (HD.out.lv (j+1));have bE:Hid (lj.length≤1000000000):=QA (by
    have O:=congrArg List.length aE.out;have h2:=HD.out.lv j;have h3:=Sto.live_len (Sto.chgs [] ((Sto.batches S).take j).flatten);rw[QV]at O;omega)
   have a9:=AJ wr (.cells #[.int .i64 aJ,.int .i64 1,.slice pa (Sto.flat L).length pc] 114);have aK:Below wr.heap.size wr (wr.alloc (.cells #[.int .i64 aJ,.int .i64 1,.slice pa (Sto.flat L).length pc] 114)):=(Below.refl _ _).alloc (QM _) _;have bj:=QA a9;have aM:=QA aK;have bB:=QA (ai.mv (MV.below aK));clear hp ai a9 aK;go_wp2_with fail;refine (IF _ L _ G bB.out aG.out).mono ?_;rintro e w7 ⟨v7,l7,rfl,hO7,hl7,hb7⟩;have ag:=QA (aM.out.trans (hb7.mono aM.out.size));have ap:w7.heap[wr.heap.size]?=some (.cells #[.int .i64 aJ,.int .i64 1,.slice pa (Sto.flat L).length pc] 114 (0,0)):=(hb7.block _ (AD bj.out)).trans bj.out;have z1:=AA ap 1 _ rfl;have N:Hid (w7.heap[r]?=some (.cells (AF ver (.slice I J F) w.heap.size B false) 51 (0,0))):=QA ((ag.out.block r (AD aB.out)).trans aB.out);have bS:=QA (aW.out.below ag.out);have bQ:Hid (Au w7 G v7 l7):=QA (hO7.opsF (λb hb=>aC.out b (by have O:=A.out.size;have h2:=D.out.size;have h3:=aM.out.size;omega)) (λb hb=>hb.1));have a4:=QA hl7;have bw:Hid (l7.length≤64):=QA (by rw[← Sto.opsOf_len,hl7];exact (Sto.chk_len aG.out.chk).1);have bi:Hid (w5.heap.size≤w7.heap.size):=QA (by have O:=A.out.size;have h2:=D.out.size;have h3:=ag.out.size;omega);clear ap hO7 hl7 hb7;have y0:=rc0 N.out;have y1:=rc1 N.out;have y2:=rc2 N.out;have y3:=rc3 N.out;have y4:=rc4 N.out;go_wp2_with fail;refine (D8 w.heap.size lj v7 l7 w7 G hG (λb hb=>aC.out b (QQ bi.out hb)) bS.out bQ.out (by have:=bw.out;omega) bE.out (λp hp=>by
    have O:p.1∈L:=by rw[← a4.out];exact List.mem_map.2 ⟨p,hp,rfl⟩
    have h2:=Sto.mass_mem O;have h3:=aG.out.mass_le;omega)).mono ?_
   rintro e w8 ⟨rfl,l8,hm8,he8,hbt8,-⟩;have ao:l8.map (·.1)=Sto.chgs [] ((Sto.batches S).take (j+1)).flatten:=by rw[he8,aE.out,a4.out,bC.out]
   have bf:=QA hm8;have aF:=QA ao;have bg:Hid (Bt w.heap.size w6 w8):=QA (D.out.trans ((SFr.below ag.out).trans hbt8));have ac:Hid (w8.heap[r]?=some (.cells (AF ver (.slice I J F) w.heap.size B false) 51 (0,0))):=QA ((hbt8.block r (AD N.out) rfl (λe=>Z e.symm)).trans N.out);have bA:Hid ((l8.map λp=>p.1.1).Nodup):=by
    have O:((Sto.chgs [] ((Sto.batches S).take (j+1)).flatten).map (·.1)).Nodup:=by
     rw[List.Nodup,List.pairwise_map];exact List.Pairwise.imp (R:=λa b:Sto.Op=>a.1<b.1) (λ{a b} h e=>by rw[e]at h;exact List.lt_irrefl _ h) (ay.out (j+1))
    rw[← aF.out,List.map_map]at O;exact QA O
   have aw:Hid (Sto.live (l8.map (·.1))≤50000):=QA (by rw[aF.out];exact bx.out);clear hm8 he8 ao hbt8 y0 y1 y2 y3 y4 z1;have y0:=rc0 ac.out;have y1:=rc1 ac.out;have y2:=rc2 ac.out;have y3:=rc3 ac.out;have y4:=rc4 ac.out;go_wp2_with fail;refine (Co w.heap.size l8 w8 G bf.out bA.out (by have:=aw.out;omega)).mono ?_;rintro e w9 ⟨rfl,hb9⟩;have bD:=QA (bf.out.below hb9);have aX:=QA (bg.out.trans (SFr.below hb9));have bX:((Sto.live (l8.map (·.1)):Nat):Int)≤50000:=by have:=aw.out;omega
   clear hb9;go_wp2_with fail;go_roundg (ps.length-(j+1))
   case measure=>rw[HK.out];omega
   case rel=>exact⟨j+1,l8,by omega,rfl,by rw[I3 hjn bP.out];simp,bD.out,aF.out,aX.out⟩
  ·have bn:(ps.length:Int)≤(j:Int):=by omega
   have aY:Hid (lj.map (·.1)=Sto.ents S):=QA (by rw[aE.out,List.take_of_length_le (by have:=bR.out;omega)];rfl);go_wp2_with fail;refine bodyPost_ret (v:=.tuple #[.pointer (some ⟨r,0,none⟩),.int .i64 0]) (by simp[results,Tryz.results21,go_sem]) rfl ?_;have bO:w.heap.size<w5.heap.size∧w5.heap.size≤w6.heap.size:=by have O:=X.out;have h2:=aL.out;have h3:=A.out.size;omega
   have hK:Kept o (·=.other) w6 wr:=⟨D.out.os,D.out.tape,D.out.output,D.out.size,λb hb hn=>D.out.block b hb rfl λe=>hn (by rw[e];exact ar.out)⟩
   have hS:SFr r own o w wr:=⟨D.out.os.trans (A.out.os.trans T.out.os),D.out.tape.trans (A.out.tape.trans T.out.tape),D.out.output.trans (A.out.output.trans T.out.output),QQ T.out.size (QQ bO.2 D.out.size),T.out.tags,
    λb hb ho hr=>(D.out.block b (by omega) rfl (by omega)).trans ((A.out.block b (by omega)).trans (T.out.block b hb ho hr))⟩
   have bI:Below base w wr:=ax.out.trans ((A.out.mono (by omega)).trans (D.out.below hbase (by omega)));have bF:MV G (SF r o) wr wr:=⟨QM _,λb _ hb=>⟨ba.out b hb,rfl⟩⟩
   exact⟨r,V5,o,.slice I J F,w.heap.size,lj,rfl,by omega,(H5.out.kept (AC A.out)).kept hK,hS,bI,aB.out,bq.out,(bm.out.mv (D.out.mv hG)).mv bF,aW.out.toF ba.out ⟨ar.out,Z⟩,aY.out,by
    show Sto.Srt (Sto.ents S);have:=ay.out (Sto.batches S).length
    rwa [List.take_length]at this⟩
open Go.Maps Go.WideMaps
theorem BN {P:Program} {ops:Array Oper} {rest:List Oper} {o:Oper} {a:Act} {w:World} {Q:Exit→Act→World→Prop} (hw:Region.wanted o (yielded ops a.tmps)=true)
  (h:∀K:Act→World→Prop,(∀a w,wpList P ops Q rest a w→K a w)→o.wp P a w K Q):wpList P ops Q (o::rest) a w :=
 wpList_step λK hK=>by rw[if_pos hw];exact h K hK
def AL (c:UInt8):List UInt8:=c::List.replicate 31 0
theorem DK (c:UInt8):(AL c).length=32:=rfl
theorem EI (w:World) (c:UInt8):(Instr.build 40 #[(0,.int .u8 (c.toNat:Int))]).run Tryz.prog w=.ok (Ac (AL c)) w:=by kernel_rfl
theorem De {zs:Array Value} {k:List UInt8} (hk:k.length=32) (hz:zs.size=34) (n u:Value) (hn:zs[32]?=some n) (hu:zs[33]?=some u) (places:Nat→Option (Nat×Nat)) (h0:places 0=some (0,32)) (r:List (Nat×Value)) :
  Instr.fill places zs ((0,Ac k)::r)=Instr.fill places (AG k++[n,u]).toArray r:=by
 have C:(Ac k).cells.size=32:=by show (AG k).toArray.size=32;rw[List.size_toArray,AU,hk]
 rw[Instr.fill,h0];simp only;rw[if_neg (by simp[C,hz])];obtain⟨G,D⟩:=Great.foldl_set 0 (AG k) 0 zs;have E:(Array.foldl (λA (x:Value×Nat)=>A.setIfInBounds (0+x.2) x.1) zs ((Ac k).cells.zipIdx))=((AG k).zipIdx 0).foldl (λA (x:Value×Nat)=>A.setIfInBounds (0+x.2) x.1) zs:=by
  show Array.foldl _ zs ((AG k).toArray.zipIdx)=_;rw[← Array.foldl_toList,Array.toList_zipIdx]
 rw[E];obtain⟨A,B⟩:∃A,((AG k).zipIdx 0).foldl (λA (x:Value×Nat)=>A.setIfInBounds (0+x.2) x.1) zs=A:=⟨_,rfl⟩
 rw[B]at G D ⊢
 congr 1
 apply Array.ext_getElem?;intro t;have F:(AG k++[n,u]).toArray[t]?=(AG k++[n,u])[t]?:=by simp
 rw[F,D];have o:=AU k;rw[hk]at o;by_cases h32:t<32
 ·rw[if_pos (by omega),List.getElem?_append_left (by omega)]
  congr 1
 ·rw[if_neg (by omega),List.getElem?_append_right (by omega),o];by_cases h3:t=32
  ·subst h3;rw[hn];rfl
  ·by_cases h33:t=33
   ·subst h33;rw[hu];rfl
   ·rw[Array.getElem?_eq_none (by omega),List.getElem?_eq_none (by simp;omega)]
theorem Jy {k:List UInt8} (hk:k.length=32) (n u x:Value):(AG k++[n,u]).toArray.setIfInBounds 32 x=(AG k++[x,u]).toArray:=by
 have o:=AU k;rw[QC,List.set_append,if_neg (by omega),o,hk];rfl
theorem JN {k:List UInt8} (hk:k.length=32) (n u x:Value):(AG k++[n,u]).toArray.setIfInBounds 33 x=(AG k++[n,x]).toArray:=by
 have o:=AU k;rw[QC,List.set_append,if_neg (by omega),o,hk];rfl
theorem DO {zs:Array Value} {i off:Nat} {v:Value} (hv:v.cells=#[v]) (hz:off<zs.size) (places:Nat→Option (Nat×Nat)) (h0:places i=some (off,1)) (r:List (Nat×Value)) :
  Instr.fill places zs ((i,v)::r)=Instr.fill places (zs.setIfInBounds off v) r:=by
 rw[Instr.fill,h0];simp only;rw[if_neg (by rw[hv];simp;omega),hv];rfl
theorem E8 (w:World) (k:List UInt8) (hk:k.length=32) (n:Int) (b:List UInt8) (v:Value) (hv:v.cells=#[v]):(Instr.build 43 #[(0,Ac k),(1,.int .i64 n),(2,v)]).run Tryz.prog w=.ok (.agg (AH (k,n,b) v).toArray) w:=by
 have o:=AU k;unfold Instr.build;simp only[Sem.run_bind,IC,Result.andThen_ok,run_underlying Tryz.underlying43];simp;rw[De hk (by simp[Value.cells]) (.int .i64 0) (.slice none 0 0) (by simp[Value.cells]) (by simp[Value.cells]) _ rfl,DO (off:=32) rfl (by simp;omega) _ rfl,Jy hk,DO (off:=33) hv (by simp;omega) _ rfl,JN hk];rfl
theorem E7 (w:World) (k:List UInt8) (hk:k.length=32):(Instr.build 43 #[(0,Ac k)]).run Tryz.prog w=.ok (.agg (AH (k,0,[]) (.slice none 0 0)).toArray) w:=by
 unfold Instr.build;simp only[Sem.run_bind,IC,Result.andThen_ok,run_underlying Tryz.underlying43];simp;rw[De hk (by simp[Value.cells]) (.int .i64 0) (.slice none 0 0) (by simp[Value.cells]) (by simp[Value.cells]) _ rfl];rfl
theorem E6 (w:World) (l:Sto.ME) (hk:∀p∈l,p.1.1.length=32) (h0:0<l.length) (h1:l.length≤100) (parts:Array (Nat×Value)) (hp:parts.toList=((l.map λp=>Value.agg (AH p.1 p.2).toArray).zipIdx 0).map λx=>(x.2,x.1)) :
  (Instr.buildSlice 22 l.length parts).run Tryz.prog w=.ok (.slice (some ⟨w.heap.size,0,none⟩) l.length l.length) (w.alloc (.cells (AP l).toArray 43)):=by
 obtain⟨D,C,A,o,B⟩:=info_parts GX;refine run_buildSlice w 22 43 l.length _ (AP l).toArray D _ Tryz.underlying22 C A (by rw[o];omega) (by rw[o];omega) ?_;rw[o,hp];have:=Great.fill_whole (s:=34) (by omega) (l.map λp=>Value.agg (AH p.1 p.2).toArray) ((Array.range (l.length*34)).map λx=>(Value.agg (Array.replicate 32 (.int .u8 0)++#[.int .i64 0,.slice none 0 0])).cells[x % (Value.agg (Array.replicate 32 (.int .u8 0)++#[.int .i64 0,.slice none 0 0])).cells.size]!) (λv hv=>by
  obtain⟨p,hp,rfl⟩:=List.mem_map.1 hv;show (AH p.1 p.2).toArray.size=34;rw[List.size_toArray,Af (hk p hp)]) (by simp)
 refine this.trans (congrArg some (congrArg List.toArray ?_));unfold AP;rw[List.flatMap_map];refine congrArg (λf=>List.flatMap f l) (funext λp=>?_);simp[Value.cells]
theorem A4 {ops:Array Oper} {rest:List Oper} {op:Oper} {a:Act} {w:World} {Q:Exit→Act→World→Prop} (hw:Region.wanted op (yielded ops a.tmps)=true) (x:Operand) (ho:op.op=.build 40 #[(0,x)]) (c:UInt8) (hx:a.eval x=.int .u8 (c.toNat:Int))
  (h:wpList Tryz.prog ops Q rest (a.put op.dst (Ac (AL c))) w):wpList Tryz.prog ops Q (op::rest) a w :=
 BN hw λ_ hK=>by
  unfold Oper.wp execOp;simp only[ho,List.map_toArray,ZP,ZR,hx,Sem.run_bind,EI w c,Result.andThen_ok];exact hK _ _ h
theorem B5 {ops:Array Oper} {rest:List Oper} {op:Oper} {a:Act} {w:World} {Q:Exit→Act→World→Prop} (hw:Region.wanted op (yielded ops a.tmps)=true) (x y z:Operand) (ho:op.op=.build 43 #[(0,x),(1,y),(2,z)]) (k:List UInt8) (hk:k.length=32) (n:Int) (b:List UInt8) (v:Value) (hv:v.cells=#[v])
  (hx:a.eval x=Ac k) (hy:a.eval y=.int .i64 n) (hz:a.eval z=v) (h:wpList Tryz.prog ops Q rest (a.put op.dst (.agg (AH (k,n,b) v).toArray)) w):wpList Tryz.prog ops Q (op::rest) a w :=
 BN hw λ_ hK=>by
  unfold Oper.wp execOp;simp only[ho,List.map_toArray,ZP,ZR,hx,hy,hz,Sem.run_bind,E8 w k hk n b v hv,Result.andThen_ok];exact hK _ _ h
theorem CN {ops:Array Oper} {rest:List Oper} {op:Oper} {a:Act} {w:World} {Q:Exit→Act→World→Prop} (hw:Region.wanted op (yielded ops a.tmps)=true) (x:Operand) (ho:op.op=.build 43 #[(0,x)]) (k:List UInt8) (hk:k.length=32)
  (hx:a.eval x=Ac k) (h:wpList Tryz.prog ops Q rest (a.put op.dst (.agg (AH (k,0,[]) (.slice none 0 0)).toArray)) w):wpList Tryz.prog ops Q (op::rest) a w :=
 BN hw λ_ hK=>by
  unfold Oper.wp execOp;simp only[ho,List.map_toArray,ZP,ZR,hx,Sem.run_bind,E7 w k hk,Result.andThen_ok];exact hK _ _ h
theorem B0 {ops:Array Oper} {rest:List Oper} {op:Oper} {a:Act} {w:World} {Q:Exit→Act→World→Prop} (hw:Region.wanted op (yielded ops a.tmps)=true) (n:Nat) (xs:Array (Nat×Operand)) (ho:op.op=.buildSlice 22 n xs) (l:Sto.ME) (hk:∀p∈l,p.1.1.length=32) (hn:l.length=n) (h0:0<n) (h1:n≤100)
  (hx:xs.toList.map (λ(i,x)=>(i,a.eval x))=((l.map λp=>Value.agg (AH p.1 p.2).toArray).zipIdx 0).map λx=>(x.2,x.1)) (h:wpList Tryz.prog ops Q rest (a.put op.dst (.slice (some ⟨w.heap.size,0,none⟩) n n)) (w.alloc (.cells (AP l).toArray 43))):wpList Tryz.prog ops Q (op::rest) a w :=
 BN hw λ_ hK=>by
  subst hn;unfold Oper.wp execOp;simp only[ho,Sem.run_bind,E6 w l hk h0 h1 (xs.map λ(i,x)=>(i,a.eval x)) (by rw[Array.toList_map];exact hx),Result.andThen_ok];exact hK _ _ h
theorem CL {ops:Array Oper} {rest:List Oper} {op:Oper} {a:Act} {w:World} {Q:Exit→Act→World→Prop} (hw:Region.wanted op (yielded ops a.tmps)=true) (x:Operand) (ho:op.op=.load 40 x) (g off:Nat) (k:List UInt8) (hk:k.length=32)
  (hx:a.eval x=.pointer (some ⟨g,off,none⟩)) (hW:w.rangeAt g off (AG k)) (h:wpList Tryz.prog ops Q rest (a.put op.dst (Ac k)) w):wpList Tryz.prog ops Q (op::rest) a w :=
 BN hw λ_ hK=>by
  unfold Oper.wp execOp;simp only[ho,hx,Instr.loadAt,Instr.sureAddr,Sem.run_bind,Sem.run_pure,Result.andThen_ok,run_loadVar_mid w g off 40 (AG k) _ hW Tryz.underlying40 rfl (by rw[AU,hk];kernel_rfl)];exact hK _ _ h
theorem Au.lit {w:World} {F:Nat→Prop} (l:Sto.ME) (hk:∀p∈l,p.1.1.length=32) (hv:∀p∈l,BB w F p.2 p.1.2.2) (hF:F w.heap.size):Au (w.alloc (.cells (AP l).toArray 43)) F (.slice (some ⟨w.heap.size,0,none⟩) l.length l.length) l:=by
 have o:Below w.heap.size w (w.alloc (.cells (AP l).toArray 43)):=(Below.refl _ _).alloc (QM _) _;refine⟨_,_,rfl,QM _,λi p hp=>⟨hk p (QZ hp),(hv p (QZ hp)).mv (MV.below o),w.heap.size,0,rfl,AD (AJ w _),hF,λj u hj=>?_⟩⟩;rw[Nat.zero_add];exact AA (AJ w _) _ _ (by simpa using Bi l hk i p j u hp hj)
def I8 (rm:Int) (w:World) (e:Ending) (w':World):Prop :=
 ∃r V own sv mb,e=.returned (.tuple #[.pointer (some ⟨w.heap.size+2,0,none⟩),.pointer (some ⟨r,0,none⟩)])∧w.heap.size≤r∧Ae w.heap.size (w.heap.size+2) (Mf.save (Sg.create (Fs.new rm) 1).1 1 [1]).1 V own w'∧Below w.heap.size w w'∧As w' own (w.heap.size+2) r ⟨1,[1],[],false⟩ mb sv []
theorem Cz (base:Nat) (rm:Int) (w:World) (hE:A0 base w) (hbase:base≤w.heap.size) (h1:3200≤rm) (h2:rm≤1048576):Calls Tryz.prog 10 #[.int .i64 rm] w (I8 rm w):=by
 have G:=QA hE;clear hE;go_enter Tryz.func10,Tryz.ntmps10;go_wp2_with fail;refine (KR rm w).mono ?_;rintro e w1 ⟨hb1,(⟨hno,_⟩|⟨_,rfl,V1,h1'⟩)⟩
 ·exact absurd hno (by omega)
 have o:=QA hb1;have H:=QA h1';have B:=QA ((G.out.below (hb1.mono hbase)).mono hbase);clear hb1 h1';go_wp2_with fail;refine (F3 w.heap.size (w.heap.size+2) rm V1 _ w1 H.out B.out o.out.size h1 h2).mono ?_;rintro e w2 ⟨r,V2,own2,sv,mb,l,rfl,hr,hf,hs,hb2,hA⟩;have F:l=[]:=by
  have:=hA.is;exact List.map_eq_nil_iff.1 this
 subst F;have D:=QA hf;have A:=QA hb2;have E:=QA hA;have C:Hid (w.heap.size≤r):=QA (QQ o.out.size hr);clear hf hb2 hA hs hr;go_wp2_with fail;refine bodyPost_ret (v:=.tuple #[.pointer (some ⟨w.heap.size+2,0,none⟩),.pointer (some ⟨r,0,none⟩)]) (by simp[results,Tryz.results10,go_sem]) rfl ?_;exact⟨r,V2,own2,sv,mb,rfl,C.out,D.out,o.out.trans A.out,E.out⟩
end Go.Proofs.YtjldahcckmmenaaGreatDoor
