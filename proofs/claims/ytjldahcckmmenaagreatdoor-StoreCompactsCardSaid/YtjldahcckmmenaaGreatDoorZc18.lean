/-
  The store: Open of what its files hold, walked. Keys, changes and slices of changes that a law builds; Fresh of rubriclaw06, walked.
-/
import Derived.Test.YtjldahcckmmenaaGreatDoorZc17
import Derived.Test.YtjldahcckmmenaaGreatDoorZc9
open Go.Lib renaming hid → QA
open List renaming setIfInBounds_toArray → QC, length_map → QV, mem_of_getElem? → QZ, getElem?_map → ZF, map_cons → ZP, map_nil → ZR
open Nat renaming le_refl → QM, le_trans → QQ
namespace Go.Proofs.YtjldahcckmmenaaGreatDoor
set_option maxRecDepth 100000
set_option maxHeartbeats 4000000
set_option linter.unusedSimpArgs false
set_option linter.unusedVariables false
open Go Go.RowKit
open Go.Maps Go.WideMaps
theorem GQ:∀(ps:List (Sg.En×Value)) (i:Nat) (p:Sg.En×Value),ps[i]?=some p→(CL ps)[i*3]?=some (.int .i64 p.1.1)∧(CL ps)[i*3+1]?=some (.int .i64 p.1.2.1)∧(CL ps)[i*3+2]?=some p.2
 | [],i,p,h=>by simp at h
 | q::ps,0,p,h=>by
  simp at h;subst h;exact⟨rfl,rfl,rfl⟩
 | q::ps,i+1,p,h=>by
  have:=GQ ps i p (by simpa using h);rw[show (i+1)*3=i*3+1+1+1 by omega];exact this
def EnF (w:World) (G:Nat→Prop) (v:Value) (l:List (Sg.En×Value)):Prop :=
 ∃a cap,v=.slice a l.length cap∧∀(i:Nat) p,l[i]?=some p→BA w G p.2 p.1.2.2∧∃g,a=some ⟨g,0,none⟩∧g<w.heap.size∧G g ∧
  w.cell? ⟨g,i*3,none⟩=some (.int .i64 p.1.1)∧w.cell? ⟨g,i*3+1,none⟩=some (.int .i64 p.1.2.1)∧w.cell? ⟨g,i*3+2,none⟩=some p.2
theorem CJ.le_max {w:World} {base:Nat} {v:Value} {l:List (Sg.En×Value)} (h:CJ w base v l):l.length≤maxLen:=by
 rcases h.row.2 with⟨h1,h2⟩|⟨g,cap,cur,h1,hg,hb,hc,hm,_,_⟩
 ·omega
 ·omega
theorem IZ {j n:Nat} (h:j<n) (hn:n≤maxLen):wrap64 ((j:Int)+1)=(j:Int)+1:=by
 unfold maxLen at hn;unfold wrap64;omega
theorem EnF.form {w:World} {G:Nat→Prop} {v:Value} {l:List (Sg.En×Value)} (h:EnF w G v l):∃a cap,v=.slice a l.length cap:=by
 obtain⟨a,cap,o,_⟩:=h;exact⟨a,cap,o⟩
theorem CJ.enF {w:World} {base:Nat} {G:Nat→Prop} {v:Value} {l:List (Sg.En×Value)} (h:CJ w base v l) (hG:∀b,base≤b→G b):EnF w G v l:=by
 have o:=λg hg=>World.ownsRow.cells (g:=g) h.row hg
 rcases h.row.2 with⟨h1,h2⟩|⟨g,cap,cur,h1,hg,hb,hc,hm,_,_⟩
 ·have F:l=[]:=List.eq_nil_of_length_eq_zero h2;subst F;exact⟨none,0,h1,λi p hp=>by simp at hp⟩
 ·refine⟨some ⟨g,0,none⟩,cap,h1,λi p hp=>⟨(h.pay p (QZ hp)).bytF hG,g,rfl,AC hb,hG g hg,?_⟩⟩;obtain⟨E,H,D⟩:=GQ l i p hp;have C:=o g (by rw[h1];rfl) _ _ E;have B:=o g (by rw[h1];rfl) _ _ H;have A:=o g (by rw[h1];rfl) _ _ D;rw[addr_add]at C B A;exact⟨C,B,A⟩
theorem EnF.mv {F F':Nat→Prop} {w w':World} {v:Value} {l:List (Sg.En×Value)} (h:EnF w F v l) (m:MV F F' w w'):EnF w' F' v l:=by
 obtain⟨a,cap,J,B⟩:=h;refine⟨a,cap,J,λi p hi=>?_⟩;obtain⟨C,g,K,A,I,D,E,H⟩:=B i p hi;obtain⟨G,o⟩:=m.2 g A I;exact⟨C.mv m,g,K,Nat.lt_of_lt_of_le A m.1,G,by rw[World.cell?_of_block o];exact D,by rw[World.cell?_of_block o];exact E,by rw[World.cell?_of_block o];exact H⟩
theorem EnF.at {w:World} {G:Nat→Prop} {a:Option Addr} {n cap:Nat} {l:List (Sg.En×Value)} (h:EnF w G (.slice a n cap) l) {i:Nat} {p:Sg.En×Value} (hi:l[i]?=some p) :
  BA w G p.2 p.1.2.2∧∃g,a=some ⟨g,0,none⟩∧w.cell? ⟨g,i*3,none⟩=some (.int .i64 p.1.1)∧w.cell? ⟨g,i*3+1,none⟩=some (.int .i64 p.1.2.1)∧w.cell? ⟨g,i*3+2,none⟩=some p.2:=by
 obtain⟨H,o,A,B⟩:=h;obtain⟨C,g,E,F,I,D⟩:=B i p hi;simp only[Value.slice.injEq]at A;exact⟨C,g,by rw[A.1,E],D⟩
namespace Sto
theorem Fy:∀S:List Seg,(ens S).map (·.2)=(batches S).map λops=>((1:Int),flat ops)
 | []=>rfl
 | s::S=>by
  have o:ens (s::S)=(EX s.2).map (λf=>(s.1,f))++ens S:=List.flatMap_cons ..;have A:batches (s::S)=s.2++batches S:=List.flatMap_cons ..;rw[o,A,List.map_append,List.map_append,Fy S,List.map_map];unfold EX;rw[List.map_map];rfl
theorem ens_len (S:List Seg):(ens S).length=(batches S).length:=by
 have:=congrArg List.length (Fy S)
 rwa [QV,QV]at this
theorem ens_get {ps:List (Sg.En×Value)} {S:List Seg} (h:ps.map (·.1)=ens S) {j:Nat} {p:Sg.En×Value} (hp:ps[j]?=some p):∃ops,(batches S)[j]?=some ops∧p.1.2=(1,flat ops):=by
 have C:(ens S)[j]?=some p.1:=by rw[← h,ZF,hp];rfl
 have o:((ens S).map (·.2))[j]?=some p.1.2:=by rw[ZF,C];rfl
 rw[Fy,ZF]at o;obtain⟨ops,B,A⟩:=Option.map_eq_some_iff.1 o;exact⟨ops,B,A.symm⟩
end Sto
theorem KR (w:World) (B:Nat):((w.alloc (.map #[] 0)).alloc (.cells #[.int .i64 0,.slice none 0 0,.map (some w.heap.size),.pointer (some ⟨B,0,none⟩),.bool false] 51)).heap[w.heap.size+1]?=some (.cells (AF 0 (.slice none 0 0) w.heap.size B false) 51 (0,0)):=by
 have:=AJ (w.alloc (.map #[] 0)) (.cells #[.int .i64 0,.slice none 0 0,.map (some w.heap.size),.pointer (some ⟨B,0,none⟩),.bool false] 51);rw[show (w.alloc (.map #[] 0)).heap.size=w.heap.size+1 by simp]at this;exact this
theorem CF (base B:Nat) (f:Fs.St) (V:FsV) (own:Nat→Tag) (k:Nat) (ver:Int) (S:List Sto.Seg) (M:Nat) (w:World) (h:Aa base B f V own w) (hE:Dl base w) (hbase:base≤w.heap.size) (hD:Sto.DiskX f k ver S M) (hk:k≤100000) :
  Calls Tryz.prog 21 #[.pointer (some ⟨B,0,none⟩)] w (G1 base B (Fs.clean f ver (Sto.ids S)).1 own ver S w):=by
 have b6:=@run_makeMap Tryz.prog;obtain⟨w1,Z⟩:∃x,x=(w.alloc (.map #[] 0)).alloc (.cells #[.int .i64 0,.slice none 0 0,.map (some w.heap.size),.pointer (some ⟨B,0,none⟩),.bool false] 51):=⟨_,rfl⟩
 have aB:Below w.heap.size w w1:=by rw[Z];exact ((Below.refl _ _).alloc (QM _) _).alloc (by simp) _
 have a9:w1.ownsMap Tryz.prog 40 Sto.elemR w.heap.size 0 (.map []):=by rw[Z];exact (World.ownsMap_made w Tryz.prog 40 Sto.elemR).alloc _
 have bo:w1.heap[w.heap.size+1]?=some (.cells (AF 0 (.slice none 0 0) w.heap.size B false) 51 (0,0)):=by rw[Z];exact KR w B
 obtain⟨k1,k2,k3⟩:=hD.clean;have bz:=QA Z.symm;have a0:=QA aB;have ba:=QA a9;have ag:=QA bo;have H:=QA (h.kept (AB aB));have HE:=QA hE;have HD:=QA hD;have bB:=QA k1;have a5:=QA k2;have bH:f.dir.length≤900000:=by have:=hD.sound.ndir;omega
 have ac:Hid (own (w.heap.size+1)=.other):=QA (h.fresh _ (by omega));have bm:Hid (own w.heap.size=.other):=QA (h.fresh _ (by omega));clear Z aB a9 bo h hE hD k1 k2 k3;go_enter Tryz.func21,Tryz.ntmps21;go_wp2_with fail;rw[bz.out];refine (Bu base B f V own w1 H.out bH).mono ?_;rintro e w2 ⟨v1,rfl,hs1,-,hb2⟩;obtain⟨a1,c1,rfl⟩:=hs1.form;have bQ:=QA hs1;have am:=QA (a0.out.trans (hb2.mono a0.out.size));have C:=QA hb2;have bI:(strsOf (Fs.keys f.dir)).length≤1000000:=by unfold strsOf;rw[QV,Fs.keys_len];omega
 clear hb2 hs1;go_wp2_with fail;refine (Em bQ.out bI (d:=f.dir) rfl).mono ?_;rintro e w3 ⟨rfl,rfl⟩;rw[HD.out.has];go_wp2_with fail;refine (I9 base B f V own w3 (H.out.kept (AB C.out)) (HE.out.below (am.out.mono hbase)) (QQ hbase am.out.size) k HD.out.sound).mono ?_;rintro e w4 ⟨hb4,sv,rfl,hsv⟩;rw[HD.out.load]at hsv ⊢;simp only at hsv;obtain⟨L,J,N,bh,b8⟩:=Ah.form3 hsv;subst bh;obtain⟨r,hr⟩:∃r,w.heap.size+1=r:=⟨_,rfl⟩
 rw[hr]at ag ac ⊢;have bM:=QA (am.out.trans (hb4.mono am.out.size));have ad:=QA (C.out.trans (hb4.mono C.out.size));have X:=QA hsv;have Y:Hid (w3.heap.size≤w4.heap.size∧r<w3.heap.size∧w.heap.size<w3.heap.size∧r<w4.heap.size):=QA (by
  have O:=AC ag.out;have h2:=C.out.size;have h3:=hb4.size;omega)
 have E:Hid (w4.heap[r]?=some (.cells (AF 0 (.slice none 0 0) w.heap.size B false) 51 (0,0))):=QA ((ad.out.block r (AC ag.out)).trans ag.out);have bO:Hid (w4.ownsMap Tryz.prog 40 Sto.elemR w.heap.size 0 (.map [])):=QA (ownsMap_at ba.out (ad.out.block _ ba.out.lt));have bG:=QA (H.out.kept (AB ad.out));have f0:=AE E.out 0;have f1:=AE E.out 1;have y0:=rc0 E.out;have y1:=rc1 E.out;have y2:=rc2 E.out;have y3:=rc3 E.out;have y4:=rc4 E.out;clear hb4 hsv;go_wp2_with fail;obtain⟨W,hW⟩:∃q,(w4.setCell ⟨r,0,none⟩ (.int .i64 ver)).setCell ⟨r,1,none⟩ (.slice L J N)=q:=⟨_,rfl⟩
 rw[hW];have U:w.heap.size≠r:=by omega
 have aY:Hid (W.heap[r]?=some (.cells (AF ver (.slice L J N) w.heap.size B false) 51 (0,0))):=QA (by rw[← hW];exact heap_set (heap_set E.out _) _);have aA:Hid (W.ownsMap Tryz.prog 40 Sto.elemR w.heap.size 0 (.map [])):=QA (ownsMap_at bO.out (by rw[← hW];exact (Below.heap_setCell _ _ _ _ U).trans (Below.heap_setCell _ _ _ _ U)));have bq:Hid (Aa base B f V own W):=QA (by
  rw[← hW];exact bG.out.kept (((Kept.refl own (·=.other) w4).setCell ⟨r,0,none⟩ ac.out _).setCell ⟨r,1,none⟩ ac.out _))
 have ai:Hid (Below w.heap.size w W):=QA (by
  rw[← hW];exact (bM.out.setCell (p:=⟨r,0,none⟩) (by show _≤r;omega) _).setCell (p:=⟨r,1,none⟩) (by show _≤r;omega) _)
 have ah:Hid (Ah W w3.heap.size (.slice L J N) (Sto.ids S)):=QA (AN X.out λg hg=>by
  have O:=(X.out.lt g hg).1;have h2:=Y.out;rw[← hW];exact (Below.heap_setCell _ _ _ g (by show g≠r;omega)).trans (Below.heap_setCell _ _ _ g (by show g≠r;omega)))
 have az:Hid (W.heap.size=w4.heap.size):=QA (by rw[← hW];simp[World.setCell]);clear hW y0 y1 y2 y3 y4 f0 f1;go_wp2_with fail;have aK:=QQ hbase ai.out.size;have a2:(Sto.ids S).length≤1000000000:=by have:=(Mf.good_out HD.out.good).2.1.2;omega
 have aC:(Sto.ids S).length≤1000:=by have:=(Mf.good_out HD.out.good).2.1.2;omega
 refine (FS base B f V own ver (.slice L J N) (Sto.ids S) W bq.out (HE.out.sg.below (ai.out.mono hbase)) aK k HD.out.sound (by omega) (λz hz=>by rw[HD.out.calm.2]at hz;cases hz) ah.out.nums a2
  (λp n c e=>H.out.fresh _ (QQ C.out.size (X.out.lt p.block (by rw[e];rfl)).1))).mono ?_
 rintro e w5 ⟨rfl,hpost⟩;rw[bB.out];have aa:=AM.below0 bq.out hpost aK;obtain⟨V5,o,h5,T,Q⟩:=hpost;have bn:=AC aY.out;have H5:=QA h5;have P:Hid (SFr r own o w w5):=QA ((SFr.below ai.out).trans (SFr.kept T Q));have aw:Hid (Below base w w5):=QA ((ai.out.mono hbase).trans aa);have K:Hid (w5.heap[r]?=some (.cells (AF ver (.slice L J N) w.heap.size B false) 51 (0,0))):=QA ((Q.block r bn (by rw[ac.out];simp)).trans aY.out);have aX:Hid (w5.ownsMap Tryz.prog 40 Sto.elemR w.heap.size 0 (.map [])):=QA (ownsMap_at aA.out (Q.block _ aA.out.lt (by rw[bm.out];simp)));have aL:Hid (∀g,(Value.slice L J N).ownBlock=some g→own g=.other):=QA λg hg=>H.out.fresh g (QQ C.out.size (X.out.lt g hg).1)
 have au:Hid (Ah w5 w3.heap.size (.slice L J N) (Sto.ids S)):=QA (AN ah.out λg hg=>Q.block g (ah.out.lt g hg).2 (by rw[aL.out g hg];simp));have cd:Hid (∀b,b<w5.heap.size→b<W.heap.size→o b=own b):=QA λb _ hb=>T b hb
 have bW:W.heap.size≤w5.heap.size:=Q.size;have a7:Hid (o r=.other):=QA ((T r bn).trans ac.out);have ao:Hid (o w.heap.size=.other):=QA ((T _ aA.out.lt).trans bm.out);have aD:Hid (Ca w5 (λb=>SF r o b∧b≠w.heap.size) (.slice L J N) (Sto.ids S)):=QA ⟨au.out.nums,λp n c e _=>by
  have hg:(Value.slice L J N).ownBlock=some p.block:=by rw[e];rfl
  have O:=(X.out.lt _ hg).1;have h2:=Y.out;exact⟨⟨(T _ (ah.out.lt _ hg).2).trans (aL.out _ hg),by omega⟩,by omega⟩⟩
 clear h5 T Q aa au aL;have y0:=rc0 K.out;have y1:=rc1 K.out;have y2:=rc2 K.out;have y3:=rc3 K.out;have y4:=rc4 K.out;go_wp2_with fail;refine (Gr base B _ V5 o (.slice L J N) (Sto.ids S) w5 H5.out (HE.out.sg.below aw.out) (QQ aK bW) (a5.out.sound.small (by omega)) aD.out.1 aC).mono ?_;rintro e w6 ⟨hb6,ev,ps,rfl,hen,hps⟩;rw[a5.out.read]at hps ⊢;simp only at hps;have aQ:Hid (EnF w6 (λb=>SF r o b∧b≠w.heap.size) ev ps):=QA (hen.enF λb hb=>by
  have O:=Y.out;have h2:=az.out;exact⟨⟨H5.out.fresh b hb,by omega⟩,by omega⟩)
 obtain⟨ea,ec,rfl⟩:=aQ.out.form;have bU:=QA hps;have bE:=QA hen.le_max;have bV:Hid (ps.length=(Sto.batches S).length):=QA (by rw[← Sto.ens_len,← hps,QV]);have A:=QA hb6;have a3:Hid (w6.heap[r]?=some (.cells (AF ver (.slice L J N) w.heap.size B false) 51 (0,0))):=QA ((hb6.block r (AC K.out)).trans K.out);have a6:Hid (A4 w6 (λb=>SF r o b∧b≠w.heap.size) w.heap.size []):=QA ⟨ownsMap_at aX.out (hb6.block _ aX.out.lt),λp hp=>(by cases hp),λp hp=>(by cases hp)⟩;clear y0 y1 y2 y3 y4 hen hps hb6;have hG:∀b,(λb=>SF r o b∧b≠w.heap.size) b→b≠w.heap.size:=λb hb=>hb.2
 have aE:Hid (∀b,w5.heap.size≤b→(λb=>SF r o b∧b≠w.heap.size) b):=QA λb hb=>by
  have O:=Y.out;have h2:=az.out;exact⟨⟨H5.out.fresh b hb,by omega⟩,by omega⟩
 obtain⟨G,aN⟩:∃G:Nat→Prop,(λb=>SF r o b∧b≠w.heap.size)=G:=⟨_,rfl⟩
 have bb:Hid (∀b,G b→SF r o b):=QA (by rw[← aN];exact λb hb=>hb.1);have a8:=QA (aD.out.mv (MV.below A.out));rw[aN]at aQ a6 hG aE a8;clear aN aD;go_wp2_with fail
 go_loopg [66] ps.length (λdn s66 wr=>∃(j:Nat) (lj:Sto.ME),j≤ps.length∧dn=ps.length-j∧s66=.int .i64 (j:Nat)∧A4 wr G w.heap.size lj∧lj.map (·.1)=Sto.chgs [] ((Sto.batches S).take j).flatten∧Bt w.heap.size w6 wr)
 case atStart=>exact⟨0,[],Nat.zero_le _,rfl,rfl,a6.out,rfl,SFr.refl _ _ _⟩
 case round =>
  obtain⟨j,lj,hj,bl,rfl,hM,a4,hB⟩:=hrel;have HK:=QA bl;have D:=QA hB;have bi:=QA hM;have aM:=QA a4;clear bl hB hM a4;have ch:(0:Int)≤(j:Int):=Int.natCast_nonneg _;have aH:Hid (wr.heap[r]?=some (.cells (AF ver (.slice L J N) w.heap.size B false) 51 (0,0))):=QA ((D.out.block r (AC a3.out) rfl (λe=>U e.symm)).trans a3.out);have av:Hid (∀i,Sto.Srt (Sto.chgs [] ((Sto.batches S).take i).flatten)):=QA λi=>Sto.srt_chgs _ List.Pairwise.nil
  by_cases hjn:j<ps.length
  ·have be:(j:Int)<(ps.length:Int):=by omega
   obtain⟨⟨⟨aI,kd,pl⟩,pv⟩,hp⟩:∃p,ps[j]?=some p:=⟨_,List.getElem?_eq_getElem hjn⟩
   obtain⟨F,ar,he⟩:=Sto.ens_get bU.out hp;simp only[Prod.mk.injEq]at he;obtain⟨rfl,rfl⟩:=he;obtain⟨an,g,rfl,x0,x1,x2⟩:=(aQ.out.mv (D.out.mv hG)).at hp;simp only at an x0 x1 x2;obtain⟨pa,pc,rfl,-⟩:=an.1.form;have aF:=QA (HD.out.bat F (QZ ar));have bF:Hid (Sto.chgs [] ((Sto.batches S).take (j+1)).flatten=Sto.chgs (Sto.chgs [] ((Sto.batches S).take j).flatten) F):=QA (by
    rw[List.take_add_one,ar,List.flatten_append,Sto.chgs_app];simp)
   have bA:=QA (HD.out.lv (j+1));have bL:Hid (lj.length≤1000000000):=QA (by
    have O:=congrArg List.length aM.out;have h2:=HD.out.lv j;have h3:=Sto.live_len (Sto.chgs [] ((Sto.batches S).take j).flatten);rw[QV]at O;omega)
   have bj:=AJ wr (.cells #[.int .i64 aI,.int .i64 1,.slice pa (Sto.flat F).length pc] 114);have aJ:Below wr.heap.size wr (wr.alloc (.cells #[.int .i64 aI,.int .i64 1,.slice pa (Sto.flat F).length pc] 114)):=(Below.refl _ _).alloc (QM _) _;have bg:=QA bj;have aG:=QA aJ;have bN:=QA (an.mv (MV.below aJ));clear hp an bj aJ;go_wp2_with fail;refine (G8 _ F _ G bN.out aF.out).mono ?_;rintro e w7 ⟨v7,l7,rfl,hO7,hl7,hb7⟩;have al:=QA (aG.out.trans (hb7.mono aG.out.size));have ax:w7.heap[wr.heap.size]?=some (.cells #[.int .i64 aI,.int .i64 1,.slice pa (Sto.flat F).length pc] 114 (0,0)):=(hb7.block _ (AC bg.out)).trans bg.out;have z1:=AA ax 1 _ rfl;have I:Hid (w7.heap[r]?=some (.cells (AF ver (.slice L J N) w.heap.size B false) 51 (0,0))):=QA ((al.out.block r (AC aH.out)).trans aH.out);have bP:=QA (bi.out.below al.out);have bu:Hid (BQ w7 G v7 l7):=QA (hO7.opsF (λb hb=>aE.out b (by have O:=A.out.size;have h2:=D.out.size;have h3:=aG.out.size;omega)) (λb hb=>hb.1));have bk:=QA hl7;have bw:Hid (l7.length≤64):=QA (by rw[← Sto.opsOf_len,hl7];exact (Sto.chk_len aF.out.chk).1);have bd:Hid (w5.heap.size≤w7.heap.size):=QA (by have O:=A.out.size;have h2:=D.out.size;have h3:=al.out.size;omega);clear ax hO7 hl7 hb7;have y0:=rc0 I.out;have y1:=rc1 I.out;have y2:=rc2 I.out;have y3:=rc3 I.out;have y4:=rc4 I.out;go_wp2_with fail;refine (Ds w.heap.size lj v7 l7 w7 G hG (λb hb=>aE.out b (QQ bd.out hb)) bP.out bu.out (by have:=bw.out;omega) bL.out (λp hp=>by
    have O:p.1∈F:=by rw[← bk.out];exact List.mem_map.2 ⟨p,hp,rfl⟩
    have h2:=Sto.mass_mem O;have h3:=aF.out.mass_le;omega)).mono ?_
   rintro e w8 ⟨rfl,l8,hm8,he8,hbt8,-⟩;have ap:l8.map (·.1)=Sto.chgs [] ((Sto.batches S).take (j+1)).flatten:=by rw[he8,aM.out,bk.out,bF.out]
   have aW:=QA hm8;have aO:=QA ap;have aZ:Hid (Bt w.heap.size w6 w8):=QA (D.out.trans ((SFr.below al.out).trans hbt8));have ab:Hid (w8.heap[r]?=some (.cells (AF ver (.slice L J N) w.heap.size B false) 51 (0,0))):=QA ((hbt8.block r (AC I.out) rfl (λe=>U e.symm)).trans I.out);have bC:Hid ((l8.map λp=>p.1.1).Nodup):=by
    have O:((Sto.chgs [] ((Sto.batches S).take (j+1)).flatten).map (·.1)).Nodup:=by
     rw[List.Nodup,List.pairwise_map];exact List.Pairwise.imp (R:=λa b:Sto.Op=>a.1<b.1) (λ{a b} h e=>by rw[e]at h;exact List.lt_irrefl _ h) (av.out (j+1))
    rw[← aO.out,List.map_map]at O;exact QA O
   have aq:Hid (Sto.live (l8.map (·.1))≤50000):=QA (by rw[aO.out];exact bA.out);clear hm8 he8 ap hbt8 y0 y1 y2 y3 y4 z1;have y0:=rc0 ab.out;have y1:=rc1 ab.out;have y2:=rc2 ab.out;have y3:=rc3 ab.out;have y4:=rc4 ab.out;go_wp2_with fail;refine (B8 w.heap.size l8 w8 G aW.out bC.out (by have:=aq.out;omega)).mono ?_;rintro e w9 ⟨rfl,hb9⟩;have bR:=QA (aW.out.below hb9);have bp:=QA (aZ.out.trans (SFr.below hb9));have bY:((Sto.live (l8.map (·.1)):Nat):Int)≤50000:=by have:=aq.out;omega
   clear hb9;go_wp2_with fail;go_roundg (ps.length-(j+1))
   case measure=>rw[HK.out];omega
   case rel=>exact⟨j+1,l8,by omega,rfl,by rw[IZ hjn bE.out];simp,bR.out,aO.out,bp.out⟩
  ·have be:(ps.length:Int)≤(j:Int):=by omega
   have bf:Hid (lj.map (·.1)=Sto.ents S):=QA (by rw[aM.out,List.take_of_length_le (by have:=bV.out;omega)];rfl);go_wp2_with fail;refine bodyPost_ret (v:=.tuple #[.pointer (some ⟨r,0,none⟩),.int .i64 0]) (by simp[results,Tryz.results21,go_sem]) rfl ?_;have bD:w.heap.size<w5.heap.size∧w5.heap.size≤w6.heap.size:=by have O:=Y.out;have h2:=az.out;have h3:=A.out.size;omega
   have hK:Kept o (·=.other) w6 wr:=⟨D.out.os,D.out.tape,D.out.output,D.out.size,λb hb hn=>D.out.block b hb rfl λe=>hn (by rw[e];exact ao.out)⟩
   have hS:SFr r own o w wr:=⟨D.out.os.trans (A.out.os.trans P.out.os),D.out.tape.trans (A.out.tape.trans P.out.tape),D.out.output.trans (A.out.output.trans P.out.output),QQ P.out.size (QQ bD.2 D.out.size),P.out.tags,
    λb hb ho hr=>(D.out.block b (by omega) rfl (by omega)).trans ((A.out.block b (by omega)).trans (P.out.block b hb ho hr))⟩
   have bS:Below base w wr:=aw.out.trans ((A.out.mono (by omega)).trans (D.out.below hbase (by omega)));have bv:MV G (SF r o) wr wr:=⟨QM _,λb _ hb=>⟨bb.out b hb,rfl⟩⟩
   exact⟨r,V5,o,.slice L J N,w.heap.size,lj,rfl,by omega,(H5.out.kept (AB A.out)).kept hK,hS,bS,aH.out,a7.out,(a8.out.mv (D.out.mv hG)).mv bv,bi.out.toF bb.out ⟨ao.out,U⟩,bf.out,by
    show Sto.Srt (Sto.ents S);have:=av.out (Sto.batches S).length
    rwa [List.take_length]at this⟩
open Go.Maps Go.WideMaps
theorem BS {P:Program} {ops:Array Oper} {rest:List Oper} {o:Oper} {a:Act} {w:World} {Q:Exit→Act→World→Prop} (hw:Region.wanted o (yielded ops a.tmps)=true)
  (h:∀K:Act→World→Prop,(∀a w,wpList P ops Q rest a w→K a w)→o.wp P a w K Q):wpList P ops Q (o::rest) a w :=
 wpList_step λK hK=>by rw[if_pos hw];exact h K hK
def Ak (c:UInt8):List UInt8:=c::List.replicate 31 0
theorem G0 (c:UInt8):(Ak c).length=32:=rfl
theorem ET (w:World) (c:UInt8):(Instr.build 40 #[(0,.int .u8 (c.toNat:Int))]).run Tryz.prog w=.ok (Ag (Ak c)) w:=by kernel_rfl
theorem Dp {zs:Array Value} {k:List UInt8} (hk:k.length=32) (hz:zs.size=34) (n u:Value) (hn:zs[32]?=some n) (hu:zs[33]?=some u) (places:Nat→Option (Nat×Nat)) (h0:places 0=some (0,32)) (r:List (Nat×Value)) :
  Instr.fill places zs ((0,Ag k)::r)=Instr.fill places (AH k++[n,u]).toArray r:=by
 have B:(Ag k).cells.size=32:=by show (AH k).toArray.size=32;rw[List.size_toArray,AP,hk]
 rw[Instr.fill,h0];simp only;rw[if_neg (by simp[B,hz])];obtain⟨F,D⟩:=Great.foldl_set 0 (AH k) 0 zs;have G:(Array.foldl (λo (x:Value×Nat)=>o.setIfInBounds (0+x.2) x.1) zs ((Ag k).cells.zipIdx))=((AH k).zipIdx 0).foldl (λo (x:Value×Nat)=>o.setIfInBounds (0+x.2) x.1) zs:=by
  show Array.foldl _ zs ((AH k).toArray.zipIdx)=_;rw[← Array.foldl_toList,Array.toList_zipIdx]
 rw[G];obtain⟨o,C⟩:∃o,((AH k).zipIdx 0).foldl (λo (x:Value×Nat)=>o.setIfInBounds (0+x.2) x.1) zs=o:=⟨_,rfl⟩
 rw[C]at F D ⊢
 congr 1
 apply Array.ext_getElem?;intro t;have E:(AH k++[n,u]).toArray[t]?=(AH k++[n,u])[t]?:=by simp
 rw[E,D];have A:=AP k;rw[hk]at A;by_cases h32:t<32
 ·rw[if_pos (by omega),List.getElem?_append_left (by omega)]
  congr 1
 ·rw[if_neg (by omega),List.getElem?_append_right (by omega),A];by_cases h3:t=32
  ·subst h3;rw[hn];rfl
  ·by_cases h33:t=33
   ·subst h33;rw[hu];rfl
   ·rw[Array.getElem?_eq_none (by omega),List.getElem?_eq_none (by simp;omega)]
theorem JY {k:List UInt8} (hk:k.length=32) (n u x:Value):(AH k++[n,u]).toArray.setIfInBounds 32 x=(AH k++[x,u]).toArray:=by
 have o:=AP k;rw[QC,List.set_append,if_neg (by omega),o,hk];rfl
theorem Jt {k:List UInt8} (hk:k.length=32) (n u x:Value):(AH k++[n,u]).toArray.setIfInBounds 33 x=(AH k++[n,x]).toArray:=by
 have o:=AP k;rw[QC,List.set_append,if_neg (by omega),o,hk];rfl
theorem C7 {zs:Array Value} {i off:Nat} {v:Value} (hv:v.cells=#[v]) (hz:off<zs.size) (places:Nat→Option (Nat×Nat)) (h0:places i=some (off,1)) (r:List (Nat×Value)) :
  Instr.fill places zs ((i,v)::r)=Instr.fill places (zs.setIfInBounds off v) r:=by
 rw[Instr.fill,h0];simp only;rw[if_neg (by rw[hv];simp;omega),hv];rfl
theorem Cq (w:World) (k:List UInt8) (hk:k.length=32) (n:Int) (b:List UInt8) (v:Value) (hv:v.cells=#[v]):(Instr.build 43 #[(0,Ag k),(1,.int .i64 n),(2,v)]).run Tryz.prog w=.ok (.agg (AG (k,n,b) v).toArray) w:=by
 have o:=AP k;unfold Instr.build;simp only[Sem.run_bind,Ho,Result.andThen_ok,run_underlying Tryz.underlying43];simp;rw[Dp hk (by simp[Value.cells]) (.int .i64 0) (.slice none 0 0) (by simp[Value.cells]) (by simp[Value.cells]) _ rfl,C7 (off:=32) rfl (by simp;omega) _ rfl,JY hk,C7 (off:=33) hv (by simp;omega) _ rfl,Jt hk];rfl
theorem E2 (w:World) (k:List UInt8) (hk:k.length=32):(Instr.build 43 #[(0,Ag k)]).run Tryz.prog w=.ok (.agg (AG (k,0,[]) (.slice none 0 0)).toArray) w:=by
 unfold Instr.build;simp only[Sem.run_bind,Ho,Result.andThen_ok,run_underlying Tryz.underlying43];simp;rw[Dp hk (by simp[Value.cells]) (.int .i64 0) (.slice none 0 0) (by simp[Value.cells]) (by simp[Value.cells]) _ rfl];rfl
theorem E0 (w:World) (l:Sto.ME) (hk:∀p∈l,p.1.1.length=32) (h0:0<l.length) (h1:l.length≤100) (parts:Array (Nat×Value)) (hp:parts.toList=((l.map λp=>Value.agg (AG p.1 p.2).toArray).zipIdx 0).map λx=>(x.2,x.1)) :
  (Instr.buildSlice 22 l.length parts).run Tryz.prog w=.ok (.slice (some ⟨w.heap.size,0,none⟩) l.length l.length) (w.alloc (.cells (AR l).toArray 43)):=by
 obtain⟨B,D,A,o,C⟩:=info_parts GI;refine run_buildSlice w 22 43 l.length _ (AR l).toArray B _ Tryz.underlying22 D A (by rw[o];omega) (by rw[o];omega) ?_;rw[o,hp];have:=Great.fill_whole (s:=34) (by omega) (l.map λp=>Value.agg (AG p.1 p.2).toArray) ((Array.range (l.length*34)).map λx=>(Value.agg (Array.replicate 32 (.int .u8 0)++#[.int .i64 0,.slice none 0 0])).cells[x % (Value.agg (Array.replicate 32 (.int .u8 0)++#[.int .i64 0,.slice none 0 0])).cells.size]!) (λv hv=>by
  obtain⟨p,hp,rfl⟩:=List.mem_map.1 hv;show (AG p.1 p.2).toArray.size=34;rw[List.size_toArray,Ac (hk p hp)]) (by simp)
 refine this.trans (congrArg some (congrArg List.toArray ?_));unfold AR;rw[List.flatMap_map];refine congrArg (λf=>List.flatMap f l) (funext λp=>?_);simp[Value.cells]
theorem Hx {ops:Array Oper} {rest:List Oper} {op:Oper} {a:Act} {w:World} {Q:Exit→Act→World→Prop} (hw:Region.wanted op (yielded ops a.tmps)=true) (x:Operand) (ho:op.op=.build 40 #[(0,x)]) (c:UInt8) (hx:a.eval x=.int .u8 (c.toNat:Int))
  (h:wpList Tryz.prog ops Q rest (a.put op.dst (Ag (Ak c))) w):wpList Tryz.prog ops Q (op::rest) a w :=
 BS hw λ_ hK=>by
  unfold Oper.wp execOp;simp only[ho,List.map_toArray,ZP,ZR,hx,Sem.run_bind,ET w c,Result.andThen_ok];exact hK _ _ h
theorem H9 {ops:Array Oper} {rest:List Oper} {op:Oper} {a:Act} {w:World} {Q:Exit→Act→World→Prop} (hw:Region.wanted op (yielded ops a.tmps)=true) (x y z:Operand) (ho:op.op=.build 43 #[(0,x),(1,y),(2,z)]) (k:List UInt8) (hk:k.length=32) (n:Int) (b:List UInt8) (v:Value) (hv:v.cells=#[v])
  (hx:a.eval x=Ag k) (hy:a.eval y=.int .i64 n) (hz:a.eval z=v) (h:wpList Tryz.prog ops Q rest (a.put op.dst (.agg (AG (k,n,b) v).toArray)) w):wpList Tryz.prog ops Q (op::rest) a w :=
 BS hw λ_ hK=>by
  unfold Oper.wp execOp;simp only[ho,List.map_toArray,ZP,ZR,hx,hy,hz,Sem.run_bind,Cq w k hk n b v hv,Result.andThen_ok];exact hK _ _ h
theorem KN {ops:Array Oper} {rest:List Oper} {op:Oper} {a:Act} {w:World} {Q:Exit→Act→World→Prop} (hw:Region.wanted op (yielded ops a.tmps)=true) (x:Operand) (ho:op.op=.build 43 #[(0,x)]) (k:List UInt8) (hk:k.length=32)
  (hx:a.eval x=Ag k) (h:wpList Tryz.prog ops Q rest (a.put op.dst (.agg (AG (k,0,[]) (.slice none 0 0)).toArray)) w):wpList Tryz.prog ops Q (op::rest) a w :=
 BS hw λ_ hK=>by
  unfold Oper.wp execOp;simp only[ho,List.map_toArray,ZP,ZR,hx,Sem.run_bind,E2 w k hk,Result.andThen_ok];exact hK _ _ h
theorem Hy {ops:Array Oper} {rest:List Oper} {op:Oper} {a:Act} {w:World} {Q:Exit→Act→World→Prop} (hw:Region.wanted op (yielded ops a.tmps)=true) (n:Nat) (xs:Array (Nat×Operand)) (ho:op.op=.buildSlice 22 n xs) (l:Sto.ME) (hk:∀p∈l,p.1.1.length=32) (hn:l.length=n) (h0:0<n) (h1:n≤100)
  (hx:xs.toList.map (λ(i,x)=>(i,a.eval x))=((l.map λp=>Value.agg (AG p.1 p.2).toArray).zipIdx 0).map λx=>(x.2,x.1)) (h:wpList Tryz.prog ops Q rest (a.put op.dst (.slice (some ⟨w.heap.size,0,none⟩) n n)) (w.alloc (.cells (AR l).toArray 43))):wpList Tryz.prog ops Q (op::rest) a w :=
 BS hw λ_ hK=>by
  subst hn;unfold Oper.wp execOp;simp only[ho,Sem.run_bind,E0 w l hk h0 h1 (xs.map λ(i,x)=>(i,a.eval x)) (by rw[Array.toList_map];exact hx),Result.andThen_ok];exact hK _ _ h
theorem CN {ops:Array Oper} {rest:List Oper} {op:Oper} {a:Act} {w:World} {Q:Exit→Act→World→Prop} (hw:Region.wanted op (yielded ops a.tmps)=true) (x:Operand) (ho:op.op=.load 40 x) (g off:Nat) (k:List UInt8) (hk:k.length=32)
  (hx:a.eval x=.pointer (some ⟨g,off,none⟩)) (hW:w.rangeAt g off (AH k)) (h:wpList Tryz.prog ops Q rest (a.put op.dst (Ag k)) w):wpList Tryz.prog ops Q (op::rest) a w :=
 BS hw λ_ hK=>by
  unfold Oper.wp execOp;simp only[ho,hx,Instr.loadAt,Instr.sureAddr,Sem.run_bind,Sem.run_pure,Result.andThen_ok,run_loadVar_mid w g off 40 (AH k) _ hW Tryz.underlying40 rfl (by rw[AP,hk];kernel_rfl)];exact hK _ _ h
theorem BQ.lit {w:World} {F:Nat→Prop} (l:Sto.ME) (hk:∀p∈l,p.1.1.length=32) (hv:∀p∈l,BA w F p.2 p.1.2.2) (hF:F w.heap.size):BQ (w.alloc (.cells (AR l).toArray 43)) F (.slice (some ⟨w.heap.size,0,none⟩) l.length l.length) l:=by
 have o:Below w.heap.size w (w.alloc (.cells (AR l).toArray 43)):=(Below.refl _ _).alloc (QM _) _;refine⟨_,_,rfl,QM _,λi p hp=>⟨hk p (QZ hp),(hv p (QZ hp)).mv (MV.below o),w.heap.size,0,rfl,AC (AJ w _),hF,λj u hj=>?_⟩⟩;rw[Nat.zero_add];exact AA (AJ w _) _ _ (by simpa using Bj l hk i p j u hp hj)
def I2 (rm:Int) (w:World) (e:Ending) (w':World):Prop :=
 ∃r V own sv mb,e=.returned (.tuple #[.pointer (some ⟨w.heap.size+2,0,none⟩),.pointer (some ⟨r,0,none⟩)])∧w.heap.size≤r∧Aa w.heap.size (w.heap.size+2) (Mf.save (Sg.create (Fs.new rm) 1).1 1 [1]).1 V own w'∧Below w.heap.size w w'∧A6 w' own (w.heap.size+2) r ⟨1,[1],[],false⟩ mb sv []
theorem Eu (base:Nat) (rm:Int) (w:World) (hE:Ay base w) (hbase:base≤w.heap.size) (h1:3200≤rm) (h2:rm≤1048576):Calls Tryz.prog 10 #[.int .i64 rm] w (I2 rm w):=by
 have G:=QA hE;clear hE;go_enter Tryz.func10,Tryz.ntmps10;go_wp2_with fail;refine (KB rm w).mono ?_;rintro e w1 ⟨hb1,(⟨hno,_⟩|⟨_,rfl,V1,h1'⟩)⟩
 ·exact absurd hno (by omega)
 have o:=QA hb1;have E:=QA h1';have B:=QA ((G.out.below (hb1.mono hbase)).mono hbase);clear hb1 h1';go_wp2_with fail;refine (Ft w.heap.size (w.heap.size+2) rm V1 _ w1 E.out B.out o.out.size h1 h2).mono ?_;rintro e w2 ⟨r,V2,own2,sv,mb,l,rfl,hr,hf,hs,hb2,hA⟩;have H:l=[]:=by
  have:=hA.is;exact List.map_eq_nil_iff.1 this
 subst H;have F:=QA hf;have A:=QA hb2;have D:=QA hA;have C:Hid (w.heap.size≤r):=QA (QQ o.out.size hr);clear hf hb2 hA hs hr;go_wp2_with fail;refine bodyPost_ret (v:=.tuple #[.pointer (some ⟨w.heap.size+2,0,none⟩),.pointer (some ⟨r,0,none⟩)]) (by simp[results,Tryz.results10,go_sem]) rfl ?_;exact⟨r,V2,own2,sv,mb,rfl,C.out,F.out,o.out.trans A.out,D.out⟩
end Go.Proofs.YtjldahcckmmenaaGreatDoor
