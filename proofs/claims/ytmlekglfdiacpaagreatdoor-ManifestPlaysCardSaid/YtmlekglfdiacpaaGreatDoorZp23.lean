/-
  The document's manifests: Load, walked. 'ManifestPlays': the calls that came in; what stands from call to call.
-/
import Derived.Test.YtmlekglfdiacpaaGreatDoorZp18
import Derived.Test.YtmlekglfdiacpaaGreatDoorZp22
import Derived.Test.YtmlekglfdiacpaaGreatDoorZp20
import Derived.Test.YtmlekglfdiacpaaGreatDoorZp21
open Go.Lib renaming hid → QA
open List renaming mem_of_getElem? → QZ
open Nat renaming le_refl → QM, le_trans → QQ, lt_of_lt_of_le → ZT
namespace Go.Proofs.YtmlekglfdiacpaaGreatDoor
set_option maxRecDepth 100000
set_option maxHeartbeats 4000000
set_option linter.unusedSimpArgs false
set_option linter.unusedVariables false
open Go Go.RowKit
open Go.Maps Go.WideMaps
theorem Ints.keepOff {w w':World} {v:Value} {l:List Int} {g0:Nat} {T:TypeId} (h:Ints w v l) (hg:w.heap[g0]?=some (.cells #[.int .i64 0,.slice none 0 0] T (0,0))) (hp:∀x∈l,1≤x) (hs:w.heap.size≤w'.heap.size)
  (hk:∀g,g<w.heap.size→g≠g0→w'.heap[g]?=w.heap[g]?):Ints w' v l:=by
 obtain⟨a,cap,e,E⟩:=h;refine⟨a,cap,e,λi x hi=>?_⟩;obtain⟨b,A,D,C,o⟩:=E i x hi;refine⟨b,A,D,ZT C hs,?_⟩;have F:=hp x (QZ hi);have B:b≠g0:=by
  intro e3;subst e3;unfold World.cell? at o;simp only[hg]at o
  match hq:A+i,o with
  | 0,o=>simp at o;omega
  | 1,o=>simp at o
  | n+2,o=>simp at o
 rw[World.cell?_of_block (hk b C B)];exact o
def Jf (st:Fs.St) (w:World) (e:Ending) (w':World):Prop :=
 Below w.heap.size w w'∧∃sv,e=.returned (.tuple #[.agg #[.int .i64 (Mf.load st).1.1,sv],.int .i64 (Mf.load st).2])∧Be w' sv (Mf.load st).1.2
theorem DT {Q:Ending→World→Prop} {a:Act} {W:World} (g:Nat) (v:Int) (sv:Value) (x:Int) (h2:a.tmps[2]?=some (.pointer (some ⟨g,0,none⟩))) (h3:a.tmps[3]?=some (.int .i64 x)) (hd:a.defers=[])
  (hW:W.heap[g]?=some (.cells #[.int .i64 v,sv] 48 (0,0))) (hQ:Q (.returned (.tuple #[.agg #[.int .i64 v,sv],.int .i64 x])) W):bodyPost Tryz.prog Tryz.f15 Q .ret a W:=by
 have A:W.cell? ⟨g,0,none⟩=some (.int .i64 v):=AA hW 0 _ rfl;have o:W.cell? ⟨g,1,none⟩=some sv:=AA hW 1 _ rfl;exact bodyPost_ret (v:=.tuple #[.agg #[.int .i64 v,sv],.int .i64 x]) (by simp[results,Tryz.results15,go_sem,h2,h3,A,o]) hd hQ
theorem Gg (st:Fs.St) (V:RV) (w:World) (h:RF w st V) (k:Nat) (hF:Fs.Fit st k) (hk:k≤100000) :
  Calls Tryz.prog 15 #[.agg (AG st V)] w (Jf st w):=by
 obtain⟨S,G⟩:∃q,q=w.alloc (.cells (AG st V) 33):=⟨_,rfl⟩
 obtain⟨Z,H⟩:∃q,q=S.alloc (.cells #[.int .i64 0,.slice none 0 0] 48):=⟨_,rfl⟩
 have s1:S.heap.size=w.heap.size+1:=by rw[G];simp
 have af:Below w.heap.size w S:=by rw[G];exact (Below.refl _ _).alloc (QM _) _
 have L:Below S.heap.size S Z:=by rw[H];exact (Below.refl _ _).alloc (QM _) _
 have Y:A9 S w.heap.size st V:=by rw[G];exact AH _ _
 have W:A9 Z w.heap.size st V:=(L.block _ (by omega)).trans Y;have ab:Z.heap[w.heap.size+1]?=some (.cells #[.int .i64 0,.slice none 0 0] 48 (0,0)):=by rw[H,← s1];exact AH _ _
 have O:=af.trans (L.mono (by omega));have au:(AG st V).size=8:=rfl;have ac:=Hj st V ⟨#[109,97,110,105,102,101,115,116]⟩ Z (h.below O) (hF.rok (by omega)) (hF.rfl' (by omega));have aa:Z=(w.alloc (.cells (AG st V) 33)).alloc (.cells #[.int .i64 0,.slice none 0 0] 48):=by rw[H,G]
 have an:=QA aa.symm;have HA:=QA W;have HM:=QA ab;have HB:=QA O;have ae:=QA ac;have HF:=QA hF;have aC:=QA s1;clear G H s1 af L Y W ab O h hF ac aa;go_enter Tryz.func15,Tryz.ntmps15;go_wp2_with (first|(rw[an.out];refine AD rfl _ rfl _ _ _ rfl HA.out ?_)|fail);refine ae.out.mono ?_;rintro e w3 ⟨rfl,hb3⟩;have B:Hid (w3.heap[w.heap.size+1]?=some (.cells #[.int .i64 0,.slice none 0 0] 48 (0,0))):=QA ((hb3.block _ (AE HM.out)).trans HM.out);have P:=QA (HB.out.trans (hb3.mono HB.out.size));have q0:=AA B.out 0 _ rfl;have q1:=AA B.out 1 _ rfl;have g0:=AC B.out 0;have g1:=AC B.out 1;clear hb3 ae;obtain⟨T,N⟩:∃q,q=Fs.openE st Mf.final:=⟨_,rfl⟩
 rw[show Fs.openE st (ByteArray.mk #[109,97,110,105,102,101,115,116]).data.toList=T from N.symm];have Q:=QA N;clear N;have aB:w.heap.size+1<w3.heap.size:=AE B.out;by_cases hc:T=0;rotate_left
 ·rw[if_neg hc];have J:Hid (Mf.load st=((0,[]),T)):=QA (by unfold Mf.load;rw[← Q.out,if_pos hc]);have av:(T != 0)=true:=by rw[bne_iff_ne];exact hc
  have az:decide (T=0)=false:=decide_eq_false hc;have K:((w3.setCell ⟨w.heap.size+1,0,none⟩ (.int .i64 0)).setCell ⟨w.heap.size+1,1,none⟩ (.slice none 0 0)).heap[w.heap.size+1]?=some (.cells #[.int .i64 0,.slice none 0 0] 48 (0,0)):=heap_set (k:=1) (heap_set (k:=0) B.out (.int .i64 0)) (.slice none 0 0);have H9:=QA K;clear hc K;go_wp2_with fail;refine DT (w.heap.size+1) 0 (.slice none 0 0) T rfl rfl rfl H9.out ⟨(P.out.setCell (p:=⟨w.heap.size+1,0,none⟩) (Nat.le_succ _) _).setCell (p:=⟨w.heap.size+1,1,none⟩) (Nat.le_succ _) _,.slice none 0 0,by rw[J.out],?_⟩;rw[J.out];exact⟨none,0,rfl,λi x h=>by simp at h⟩
 subst hc;rw[if_pos rfl];have HS:Hid (Fs.fileAt st Mf.final=Fs.bytesOf st Mf.final):=QA rfl;obtain⟨t,ht⟩:∃t:ByteArray,t=⟨(Fs.bytesOf st Mf.final).toArray⟩:=⟨_,rfl⟩
 rw[show (ByteArray.mk (Fs.bytesOf st (ByteArray.mk #[109,97,110,105,102,101,115,116]).data.toList).toArray)=t from ht.symm];have HT:Hid (t.data.toList=Fs.fileAt st Mf.final):=QA (by rw[ht];rfl);have ak:t.size≤1000000000:=by
  rw[ht];have:(Fs.bytesOf st Mf.final).length≤1000000:=by
   unfold Fs.bytesOf;cases hh:st.files[Fs.idx st Mf.final]? with
   | none=>simp
   | some f=>exact HF.out.f65 f (QZ hh)
  show (Fs.bytesOf st Mf.final).toArray.size≤_;simp;omega
 clear ht;have X:=QA (Gh t w3 ak);go_wp2_with fail;refine X.out.mono ?_;rintro e w5 ⟨hb5,hres⟩;rw[HT.out,← Mf.read_ref]at hres;have C:Hid (w5.heap[w.heap.size+1]?=some (.cells #[.int .i64 0,.slice none 0 0] 48 (0,0))):=QA ((hb5.block _ (AE B.out)).trans B.out);have I:=QA (P.out.trans (hb5.mono P.out.size));have ay:=hb5.size;clear hb5 X q0 q1 g0 g1;rcases hres with⟨v,l,sv,hm,rfl,hnums⟩|⟨hm,rfl⟩
 ·have J:Hid (Mf.load st=((v,l),0)):=QA (by unfold Mf.load;rw[← Q.out,if_neg (by simp),hm]);obtain⟨F,D,rfl⟩:=hnums.form;have A:Below w5.heap.size w5 (w5.alloc (.cells #[.int .i64 v,.slice F l.length D] 48)):=(Below.refl _ _).alloc (QM _) _;have M:=AH w5 (.cells #[.int .i64 v,.slice F l.length D] 48);have x0:=AA M 0 _ rfl;have x1:=AA M 1 _ rfl;have o:=(A.block _ (AE C.out)).trans C.out;have q0:=AA o 0 _ rfl;have q1:=AA o 1 _ rfl;have g0:=AC o 0;have g1:=AC o 1;obtain⟨w6,U⟩:∃q,q=w5.alloc (.cells #[.int .i64 v,.slice F l.length D] 48):=⟨_,rfl⟩
  rw[← U]at A o;have K:((w6.setCell ⟨w.heap.size+1,0,none⟩ (.int .i64 v)).setCell ⟨w.heap.size+1,1,none⟩ (.slice F l.length D)).heap[w.heap.size+1]?=some (.cells #[.int .i64 v,.slice F l.length D] 48 (0,0)):=heap_set (k:=1) (heap_set (k:=0) o (.int .i64 v)) (.slice F l.length D);have E:Below w.heap.size w ((w6.setCell ⟨w.heap.size+1,0,none⟩ (.int .i64 v)).setCell ⟨w.heap.size+1,1,none⟩ (.slice F l.length D)):=((I.out.trans (A.mono I.out.size)).setCell (p:=⟨w.heap.size+1,0,none⟩) (Nat.le_succ _) _).setCell (p:=⟨w.heap.size+1,1,none⟩) (Nat.le_succ _) _;have H9:=QA K;have R:=QA E;have am:Hid (Be ((w6.setCell ⟨w.heap.size+1,0,none⟩ (.int .i64 v)).setCell ⟨w.heap.size+1,1,none⟩ (.slice F l.length D)) (.slice F l.length D) l):=QA (hnums.keepOff C.out (λx hx=>(Mf.good_all (Mf.refRead_some (by rw[← Mf.read_ref];exact hm)).1 x (List.mem_cons_of_mem _ hx)).1) (QQ A.size (by simp[World.setCell])) (λg hg hg2=>by
   rw[Below.heap_setCell _ _ _ _ (by show g≠w.heap.size+1;exact hg2),Below.heap_setCell _ _ _ _ (by show g≠w.heap.size+1;exact hg2)];exact A.block g hg))
  subst U;clear hm A M o K E hnums;go_wp2_with fail;exact DT (w.heap.size+1) v (.slice F l.length D) 0 rfl rfl rfl H9.out ⟨R.out,.slice F l.length D,by rw[J.out],by rw[J.out];exact am.out⟩
 ·have J:Hid (Mf.load st=((0,[]),2)):=QA (by unfold Mf.load;rw[← Q.out,if_neg (by simp),hm]);have A:Below w5.heap.size w5 (w5.alloc (.cells #[.int .i64 0,.slice none 0 0] 48)):=(Below.refl _ _).alloc (QM _) _;have o:=(A.block _ (AE C.out)).trans C.out;have q0:=AA o 0 _ rfl;have q1:=AA o 1 _ rfl;have g0:=AC o 0;have g1:=AC o 1;have K:(((w5.alloc (.cells #[.int .i64 0,.slice none 0 0] 48)).setCell ⟨w.heap.size+1,0,none⟩ (.int .i64 0)).setCell ⟨w.heap.size+1,1,none⟩ (.slice none 0 0)).heap[w.heap.size+1]?=some (.cells #[.int .i64 0,.slice none 0 0] 48 (0,0)):=heap_set (k:=1) (heap_set (k:=0) o (.int .i64 0)) (.slice none 0 0);have E:Below w.heap.size w (((w5.alloc (.cells #[.int .i64 0,.slice none 0 0] 48)).setCell ⟨w.heap.size+1,0,none⟩ (.int .i64 0)).setCell ⟨w.heap.size+1,1,none⟩ (.slice none 0 0)):=((I.out.trans (A.mono I.out.size)).setCell (p:=⟨w.heap.size+1,0,none⟩) (Nat.le_succ _) _).setCell (p:=⟨w.heap.size+1,1,none⟩) (Nat.le_succ _) _;have H9:=QA K;have R:=QA E;clear hm K E A o;go_wp2_with fail;refine DT (w.heap.size+1) 0 (.slice none 0 0) 2 rfl rfl rfl H9.out ⟨R.out,.slice none 0 0,by rw[J.out],?_⟩;rw[J.out];exact⟨none,0,rfl,λi x h=>by simp at h⟩
open Go.Maps Go.WideMaps
structure POp where
 kind:Int
 ver:Int
 segs:List Int
 fk:Int
 fn:Int
 name:ByteArray
 dest:ByteArray
 data:List UInt8
 L:List Int
def POp.fits (o:POp):Bool:=decide (o.segs.length≤100)&&decide (o.data.length≤300)&&decide (o.L.length≤100)&&decide (o.name.size≤50)&&decide (o.dest.size≤50)
abbrev BW (o:POp) (sv dv lv:Value):Array Value:=#[.int .i64 o.kind,.int .i64 o.ver,sv,.int .i64 o.fk,.int .i64 o.fn,.string o.name,.string o.dest,dv,lv]
structure EB (w:World) (o:POp) (sv dv lv:Value):Prop where
 s:Cb w sv o.segs
 d:Al w dv o.data
 l:Cb w lv o.L
theorem EB.below {w w':World} {o:POp} {sv dv lv:Value} (h:EB w o sv dv lv) (hb:Below w.heap.size w w'):EB w' o sv dv lv :=
 ⟨h.s.lt hb.size hb.block,h.d.below hb,h.l.lt hb.size hb.block⟩
def E6 (w:World) (v:Value) (l:List POp):Prop :=
 ∃a cap,v=.slice a l.length cap∧∀(i:Nat) o,l[i]?=some o→∃b off sv dv lv,a=some ⟨b,off,none⟩∧b<w.heap.size∧(∀(j:Nat) c,(BW o sv dv lv)[j]?=some c→w.cell? ⟨b,off+i*9+j,none⟩=some c)∧EB w o sv dv lv
theorem E6.form {w:World} {v:Value} {l:List POp} (h:E6 w v l):∃a cap,v=.slice a l.length cap:=by
 obtain⟨a,cap,e,_⟩:=h;exact⟨a,cap,e⟩
theorem E6.at {w:World} {a:Option Addr} {n cap:Nat} {l:List POp} (h:E6 w (.slice a n cap) l) {i:Nat} {o:POp} (hi:l[i]?=some o) :
  ∃b off sv dv lv,a=some ⟨b,off,none⟩∧b<w.heap.size∧(∀(j:Nat) c,(BW o sv dv lv)[j]?=some c→w.cell? ⟨b,off+i*9+j,none⟩=some c)∧EB w o sv dv lv:=by
 obtain⟨C,A,e,B⟩:=h;simp only[Value.slice.injEq]at e;obtain⟨rfl,-,-⟩:=e;exact B i o hi
theorem E6.below {w w':World} {v:Value} {l:List POp} (h:E6 w v l) (hb:Below w.heap.size w w'):E6 w' v l:=by
 obtain⟨a,cap,e,D⟩:=h;refine⟨a,cap,e,λi o hi=>?_⟩;obtain⟨b,A,sv,dv,G,C,B,E,F⟩:=D i o hi;exact⟨b,A,sv,dv,G,C,ZT B hb.size,λj c hc=>(hb.cell B).trans (E j c hc),F.below hb⟩
structure PM (w1:World) (g:Nat) (base B:Nat) (st sr sb:Fs.St) (V:FsV) (own:Nat→Tag) (VR Vb:RV) (X:World):Prop where
 ok:Ad base B st V own X
 hb:base≤X.heap.size
 hw:w1.heap.size≤base
 bel:Below w1.heap.size w1 X
 box:A9 X g sb Vb
 og:own g=.other
 hg:w1.heap.size≤g
 rfs:RFs (λb=>own b=.other∧b≠g) X sr VR
section
variable {w1 : World} {g base B : Nat} {st sr sb st' sr' : Fs.St} {V : FsV} {own : Nat → Tag} {VR VR' Vb : RV} {X X' : World}
theorem PM.real (h:PM w1 g base B st sr sb V own VR Vb X) (hp:AV base B st' own X X'):∃V' own',PM w1 g base B st' sr sb V' own' VR Vb X'∧A8 own own' X X':=by
 have hb:=hp.below0 h.ok h.hb;obtain⟨V',own',D,A,o⟩:=hp;have C:=AE h.box;exact⟨V',own',⟨D,QQ h.hb o.size,h.hw,h.bel.trans (hb.mono h.hw),(o.block _ C (by rw[h.og];simp)).trans h.box,(A _ C).trans h.og,h.hg,h.rfs.to o.size λk hk hp=>⟨⟨(A k hk).trans hp.1,hp.2⟩,o.block k hk (by rw[hp.1];simp)⟩⟩,
  o.size,λb hb2 ho=>⟨(A b hb2).trans ho,o.block b hb2 (by rw[ho];simp)⟩⟩
theorem PM.below (h:PM w1 g base B st sr sb V own VR Vb X) (hb:Below X.heap.size X X'):PM w1 g base B st sr sb V own VR Vb X' :=
 ⟨h.ok.kept (AL hb),QQ h.hb hb.size,h.hw,h.bel.trans (hb.mono (QQ h.hw h.hb)),(hb.block _ (AE h.box)).trans h.box,h.og,h.hg,h.rfs.below hb⟩
theorem PM.ref (h:PM w1 g base B st sr sb V own VR Vb X) (hb:Below X.heap.size X X') (hl:Bz X X' (λw0=>RF w0 sr VR) (λw0=>RF w0 sr' VR')):PM w1 g base B st sr' sb V own VR' Vb X' :=
 { h.below hb with rfs:=h.rfs.call hb hl λk hk=>⟨h.ok.fresh k hk,λe=>by have:=AE h.box;omega⟩ }
theorem PM.store (h:PM w1 g base B st sr sb V own VR Vb X):PM w1 g base B st sr sr V own VR VR (rput X g sr VR) :=
 ⟨h.ok.kept (DR h.og _ _ _),by rw[Aa];exact h.hb,h.hw,As h.bel h.hg _ _,BP h.box _ _,h.og,h.hg,h.rfs.rput (λhp=>hp.2 rfl)⟩
theorem PM.play {base' B':Nat} {V':FsV} {own':Nat→Tag} (h:PM w1 g base B st sr sb V own VR Vb X) (h1:Ad base' B' st' V' own' X') (h2:base≤base') (h3:base'≤X'.heap.size) (h4:Below base X X') (h5:A8 own own' X X') (h6:RFs (λb=>own' b=.other∧b≠g) X' st' VR') :
  PM w1 g base' B' st' st' sb V' own' VR' Vb X':=by
 have C:=AE h.box;obtain⟨A,o⟩:=h5.2 g C h.og;exact⟨h1,h3,QQ h.hw h2,h.bel.trans (h4.mono h.hw),o.trans h.box,A,h.hg,h6⟩
end
theorem A8.at {own own':Nat→Tag} {w w':World} (h:A8 own own' w w') {b:Nat} {o:Obj} (hb:w.heap[b]?=some o) (ho:own b=.other):w'.heap[b]?=some o∧own' b=.other :=
 ⟨((h.2 b (AE hb) ho).2).trans hb,(h.2 b (AE hb) ho).1⟩
theorem A8.of_below {own:Nat→Tag} {w w':World} (hb:Below w.heap.size w w'):A8 own own w w':=⟨hb.size,λb h1 h2=>⟨h2,hb.block b h1⟩⟩
theorem Ho (o:POp) (sa da la:Option Addr) (sc dc lc:Nat) (w:World) :
  Calls Tryz.prog 7 #[.agg (BW o (.slice sa o.segs.length sc) (.slice da o.data.length dc) (.slice la o.L.length lc))] w λe w'=>e=.returned (.bool o.fits)∧Below w.heap.size w w':=by
 obtain⟨kind,ver,segs,fk,fn,name,dest,data,L⟩:=o;have D:Below w.heap.size w (w.alloc (.cells (BW ⟨kind,ver,segs,fk,fn,name,dest,data,L⟩ (.slice sa segs.length sc) (.slice da data.length dc) (.slice la L.length lc)) 42)):=(Below.refl _ _).alloc (QM _) _;have B:=AH w (.cells (BW ⟨kind,ver,segs,fk,fn,name,dest,data,L⟩ (.slice sa segs.length sc) (.slice da data.length dc) (.slice la L.length lc)) 42);have Q:=AA B 2 _ rfl;have T:=AA B 5 _ rfl;have R:=AA B 6 _ rfl;have S:=AA B 7 _ rfl;have P:=AA B 8 _ rfl;have A:=QA D;have C:Hid (POp.fits ⟨kind,ver,segs,fk,fn,name,dest,data,L⟩=(decide (segs.length≤100)&&decide (data.length≤300)&&decide (L.length≤100)&&decide (name.size≤50)&&decide (dest.size≤50))):=QA rfl;clear D B;go_enter Tryz.func7,Tryz.ntmps7;by_cases h1:segs.length≤100;rotate_left
 ·have J:decide ((segs.length:Int)≤100)=false:=decide_eq_false (by omega);have H:decide (segs.length≤100)=false:=decide_eq_false h1;clear h1;go_wp2_with fail;go_ret;exact⟨by rw[C.out,H];simp,A.out⟩
 have J:decide ((segs.length:Int)≤100)=true:=decide_eq_true (by omega);have H:decide (segs.length≤100)=true:=decide_eq_true h1;clear h1;by_cases h2:data.length≤300;rotate_left
 ·have N:decide ((data.length:Int)≤300)=false:=decide_eq_false (by omega);have F:decide (data.length≤300)=false:=decide_eq_false h2;clear h2;go_wp2_with fail;go_ret;exact⟨by rw[C.out,F];simp,A.out⟩
 have N:decide ((data.length:Int)≤300)=true:=decide_eq_true (by omega);have F:decide (data.length≤300)=true:=decide_eq_true h2;clear h2;by_cases h3:L.length≤100;rotate_left
 ·have M:decide ((L.length:Int)≤100)=false:=decide_eq_false (by omega);have G:decide (L.length≤100)=false:=decide_eq_false h3;clear h3;go_wp2_with fail;go_ret;exact⟨by rw[C.out,G];simp,A.out⟩
 have M:decide ((L.length:Int)≤100)=true:=decide_eq_true (by omega);have G:decide (L.length≤100)=true:=decide_eq_true h3;clear h3;by_cases h4:name.size≤50;rotate_left
 ·have O:decide ((name.size:Int)≤50)=false:=decide_eq_false (by omega);have I:decide (name.size≤50)=false:=decide_eq_false h4;clear h4;go_wp2_with fail;go_ret;exact⟨by rw[C.out,I];simp,A.out⟩
 have O:decide ((name.size:Int)≤50)=true:=decide_eq_true (by omega);have I:decide (name.size≤50)=true:=decide_eq_true h4;clear h4;by_cases h5:dest.size≤50;rotate_left
 ·have K:decide ((dest.size:Int)≤50)=false:=decide_eq_false (by omega);have E:decide (dest.size≤50)=false:=decide_eq_false h5;clear h5;go_wp2_with fail;go_ret;exact⟨by rw[C.out,E];simp,A.out⟩
 have K:decide ((dest.size:Int)≤50)=true:=decide_eq_true (by omega);have E:decide (dest.size≤50)=true:=decide_eq_true h5;clear h5;go_wp2_with fail;go_ret;exact⟨by rw[C.out,H,F,G,I,E];rfl,A.out⟩
theorem It (base B:Nat) (st:Fs.St) (V:FsV) (own:Nat→Tag) (VR:RV) (g:Nat) (K n:Int) (s d:ByteArray) (data:List UInt8) (L:List Int) (da la:Option Addr) (dc lc:Nat) (wL w:World)
  (h:Ad base B st V own w) (hb:base≤w.heap.size) (hr:RFs (λb=>own b=.other∧b≠g) w st VR) (hg:g<w.heap.size) (k:Nat) (hF:Fs.Fit st k) (hk:k≤50000) (hs:s.size≤1000) (hd:d.size≤1000)
  (hD:Al wL (.slice da data.length dc) data) (hL:Cb wL (.slice la L.length lc) L) (hwL:Below wL.heap.size wL w) (hLb:wL.heap.size≤base) (hLg:wL.heap.size≤g) (hdl:data.length≤1000) (hll:L.length≤1000)
  (hn2:n≤9223372036854775807) (hL2:∀z∈L,z≤9223372036854775807) (hrm1:1≤st.room) :
  Calls Tryz.prog 8 #[.pointer (some ⟨B,0,none⟩),.agg (AG st VR),.agg (opc K n s d (.slice da data.length dc) (.slice la L.length lc))] w (B8 base own g (k+130) st.room w):=by
 by_cases hK:1≤K∧K≤9
 ·have o:K=1∨K=2∨K=3∨K=4∨K=5∨K=6∨K=7∨K=8∨K=9:=by omega
  rcases o with rfl|rfl|rfl|rfl|rfl|rfl|rfl|rfl|rfl
  ·exact Gu base B st V own VR g n s d da la _ dc _ lc w h hb hr hg k hF hk hs hd
  ·exact Gl base B st V own VR g n s d data L da la dc lc wL w h hb hr hg k hF hk hs hd hD hL hwL hLb hLg hdl hll
  ·exact Gf base B st V own VR g n s d da la _ dc _ lc w h hb hr hg k hF hk hs hd
  ·exact Hc base B st V own VR g n s d da la _ dc _ lc w h hb hr hg k hF hk hs hd
  ·exact G4 base B st V own VR g n s d da la _ dc _ lc w h hb hr hg k hF hk hs hd
  ·exact G3 base B st V own VR g n s d da la _ dc _ lc w h hb hr hg k hF hk hs hd
  ·exact Gd base B st V own VR g n s d da la _ dc _ lc w h hb hr hg k hF hk hs hd hn2
  ·exact He base B st V own VR g n s d data L da la dc lc wL w h hb hr hg k hF hk hs hd hD hL hwL hLb hLg hdl hll hL2
  ·exact Gr base B st V own VR g n s d data L da la dc lc wL w h hb hr hg k hF hk hs hd hD hL hwL hLb hLg hdl hll hrm1
 ·exact Gz base B st V own VR g n s d da la _ dc _ lc w h hb hr hg k hF hk hs hd K hK
def OG (g:Nat) (own own':Nat→Tag) (w w':World):Prop:=w.heap.size≤w'.heap.size∧∀b,b<w.heap.size→b≠g→own b=.other→own' b=.other∧w'.heap[b]?=w.heap[b]?
theorem OG.of {g:Nat} {own own':Nat→Tag} {w w':World} (h:A8 own own' w w'):OG g own own' w w':=⟨h.1,λb h1 _ h2=>h.2 b h1 h2⟩
theorem OG.below {g:Nat} {own:Nat→Tag} {w w':World} (hb:Below w.heap.size w w'):OG g own own w w':=⟨hb.size,λb h1 _ h2=>⟨h2,hb.block b h1⟩⟩
theorem OG.rput (g:Nat) (own:Nat→Tag) (w:World) (st:Fs.St) (V:RV):OG g own own w (rput w g st V):=⟨by rw[Aa];exact QM _,λb _ h1 h2=>⟨h2,AW _ _ _ _ h1⟩⟩
theorem OG.trans {g:Nat} {own own' own'':Nat→Tag} {a b c:World} (h:OG g own own' a b) (k:OG g own' own'' b c):OG g own own'' a c :=
 ⟨QQ h.1 k.1,λx h1 h2 h3=>by
  obtain⟨C,B⟩:=h.2 x h1 h2 h3;obtain⟨A,o⟩:=k.2 x (ZT h1 h.1) h2 C;exact⟨A,o.trans B⟩⟩
theorem OG.at {g:Nat} {own own':Nat→Tag} {w w':World} (h:OG g own own' w w') {b:Nat} {o:Obj} (hb:w.heap[b]?=some o) (hg:b≠g) (ho:own b=.other):w'.heap[b]?=some o:=((h.2 b (AE hb) hg ho).2).trans hb
theorem JV {c:Code} {R:Act→Exit→Act→World→Prop} {Q':Exit→Act→World→Prop} {a:Act} {w:World} (h1:c.wp Tryz.prog (R a) a w) (h2:∀e a' w',R a e a' w'→Q' e a' w'):c.wp Tryz.prog Q' a w:=Code.wp_mono h2 h1
def Jo (W:World) (q:Nat) (ver:Int) (sv:Value) (segs:List Int) (a0:Act) (ex:Exit) (a:Act) (X:World):Prop :=
 match ex with
 | .normal=>∃(p r x8 n8 c8:Nat),a={ tmps:=(((((((((a0.tmps.setIfInBounds 53 (.pointer (some ⟨q,1,none⟩))).setIfInBounds 54 (.pointer (some ⟨q,1,none⟩))).setIfInBounds 55 (.int .i64 ver)).setIfInBounds 56 (.slice (some ⟨r,0,none⟩) 0 0)).setIfInBounds 57 (.pointer (some ⟨q,1,none⟩))).setIfInBounds 58 (.pointer (some ⟨q,2,none⟩))).setIfInBounds 59 sv).setIfInBounds 60 (.slice (some ⟨x8,0,none⟩) n8 c8)).setIfInBounds 61 (.agg #[.int .i64 ver,.slice (some ⟨x8,0,none⟩) n8 c8])).setIfInBounds 12 (.pointer (some ⟨p,0,none⟩)),defers:=a0.defers } ∧
   Below W.heap.size W X∧W.heap.size≤p∧X.heap[p]?=some (.cells #[.int .i64 ver,.slice (some ⟨x8,0,none⟩) n8 c8] 37 (0,0))∧Ae X W.heap.size (.slice (some ⟨x8,0,none⟩) n8 c8) segs
 | _=>False
end Go.Proofs.YtmlekglfdiacpaaGreatDoor
