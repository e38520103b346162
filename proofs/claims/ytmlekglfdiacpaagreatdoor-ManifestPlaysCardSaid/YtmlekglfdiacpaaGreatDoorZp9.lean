/-
  The document's file system in a box: loaded, stored and boxed as a whole. The document's file system: SyncDir, Arm, walked. The document's file system within an operation: Arm, Remove, walked. The document's file system: Remove, walked. The document's file system: Rename, walked. The document's file system: Sync, walked. The document's file system: Read, walked. The document's file system: Create, walked. The document's file system: New, walked.
-/
import Derived.Test.YtmlekglfdiacpaaGreatDoorZp8
import Derived.Deep.MidRow
open Go.Lib renaming hid → QA
open List renaming getElem?_eq_getElem → ZG
open Nat renaming le_refl → QM, le_trans → QQ
namespace Go.Proofs.YtmlekglfdiacpaaGreatDoor
set_option maxRecDepth 100000
set_option maxHeartbeats 4000000
set_option linter.unusedSimpArgs false
set_option linter.unusedVariables false
open Go Go.RowKit
open Go.Maps Go.WideMaps
theorem JF {w:World} {g:Nat} {cs:Array Value} {T:TypeId} {fz:Nat×Nat} (h:w.heap[g]?=some (.cells cs T fz)):w.rangeAt g 0 cs.toList:=λj v hv=>by
 unfold World.cell?;rw[Nat.zero_add];simp only[h]
 simpa using hv
theorem Ic {w:World} {g n:Nat} {cs:Array Value} {T:TypeId} (h:w.heap[g]?=some (.cells cs T (0,0))) (hn:n≤cs.size):w.there g 0 n:=λj hj=>by
 rw[Nat.zero_add];refine⟨?_,by simp[World.frozen?,h]⟩;simp[World.cell?,h];omega
abbrev A9 (w:World) (g:Nat) (st:Fs.St) (V:RV):Prop:=w.heap[g]?=some (.cells (AG st V) 33 (0,0))
theorem AD {ops:Array Oper} {rest:List Oper} {op:Oper} {a:Act} {w:World} {Q:Exit→Act→World→Prop} (hgd:op.guard=none) (x:Operand) (ho:op.op=.load 33 x) (g:Nat) (st:Fs.St) (V:RV)
  (hx:a.eval x=.pointer (some ⟨g,0,none⟩)) (hW:A9 w g st V) (h:wpList Tryz.prog ops Q rest (a.put op.dst (.agg (AG st V))) w):wpList Tryz.prog ops Q (op::rest) a w :=
 wpList_load_mid hgd _ x ho g 0 hx (AG st V).toList _ (JF hW) Tryz.underlying33 rfl (by kernel_rfl) (by simpa using h)
theorem JC {w:World} {g:Nat} {y0 y1 y2 y3 y4 y5 y6 y7:Value} {T:TypeId} {fz:Nat×Nat} (h:w.heap[g]?=some (.cells #[y0,y1,y2,y3,y4,y5,y6,y7] T fz)) (x0 x1 x2 x3 x4 x5 x6 x7:Value) :
  (C5 w g x0 x1 x2 x3 x4 x5 x6 x7).heap[g]?=some (.cells #[x0,x1,x2,x3,x4,x5,x6,x7] T fz):=by
 have h0:(w.setCell ⟨g,0,none⟩ x0).heap[g]?=some (.cells #[x0,y1,y2,y3,y4,y5,y6,y7] T fz):=heap_set h x0;have o:((w.setCell ⟨g,0,none⟩ x0).setCell ⟨g,1,none⟩ x1).heap[g]?=some (.cells #[x0,x1,y2,y3,y4,y5,y6,y7] T fz):=heap_set h0 x1;have E:(((w.setCell ⟨g,0,none⟩ x0).setCell ⟨g,1,none⟩ x1).setCell ⟨g,2,none⟩ x2).heap[g]?=some (.cells #[x0,x1,x2,y3,y4,y5,y6,y7] T fz):=heap_set o x2;have A:((((w.setCell ⟨g,0,none⟩ x0).setCell ⟨g,1,none⟩ x1).setCell ⟨g,2,none⟩ x2).setCell ⟨g,3,none⟩ x3).heap[g]?=some (.cells #[x0,x1,x2,x3,y4,y5,y6,y7] T fz):=heap_set E x3;have C:(((((w.setCell ⟨g,0,none⟩ x0).setCell ⟨g,1,none⟩ x1).setCell ⟨g,2,none⟩ x2).setCell ⟨g,3,none⟩ x3).setCell ⟨g,4,none⟩ x4).heap[g]?=some (.cells #[x0,x1,x2,x3,x4,y5,y6,y7] T fz):=heap_set A x4;have D:((((((w.setCell ⟨g,0,none⟩ x0).setCell ⟨g,1,none⟩ x1).setCell ⟨g,2,none⟩ x2).setCell ⟨g,3,none⟩ x3).setCell ⟨g,4,none⟩ x4).setCell ⟨g,5,none⟩ x5).heap[g]?=some (.cells #[x0,x1,x2,x3,x4,x5,y6,y7] T fz):=heap_set C x5;have F:(((((((w.setCell ⟨g,0,none⟩ x0).setCell ⟨g,1,none⟩ x1).setCell ⟨g,2,none⟩ x2).setCell ⟨g,3,none⟩ x3).setCell ⟨g,4,none⟩ x4).setCell ⟨g,5,none⟩ x5).setCell ⟨g,6,none⟩ x6).heap[g]?=some (.cells #[x0,x1,x2,x3,x4,x5,x6,y7] T fz):=heap_set D x6;have B:((((((((w.setCell ⟨g,0,none⟩ x0).setCell ⟨g,1,none⟩ x1).setCell ⟨g,2,none⟩ x2).setCell ⟨g,3,none⟩ x3).setCell ⟨g,4,none⟩ x4).setCell ⟨g,5,none⟩ x5).setCell ⟨g,6,none⟩ x6).setCell ⟨g,7,none⟩ x7).heap[g]?=some (.cells #[x0,x1,x2,x3,x4,x5,x6,x7] T fz):=heap_set F x7;exact B
def rput (w:World) (g:Nat) (st:Fs.St) (V:RV):World:=C5 w g (.int .i64 st.room) V.fv V.dv V.sv V.cv (.int .i64 st.steps) (.int .i64 st.left) V.pv
theorem AW (w:World) (g:Nat) (st:Fs.St) (V:RV) {k:Nat} (hk:k≠g):(rput w g st V).heap[k]?=w.heap[k]?:=EE _ _ _ _ _ _ _ _ _ _ hk
theorem As {n g:Nat} {w0 w:World} (h:Below n w0 w) (hg:n≤g) (st:Fs.St) (V:RV):Below n w0 (rput w g st V):=Cj h hg _ _ _ _ _ _ _ _
theorem Aa (w:World) (g:Nat) (st:Fs.St) (V:RV):(rput w g st V).heap.size=w.heap.size:=Ex _ _ _ _ _ _ _ _ _ _
theorem BP {w:World} {g:Nat} {y0 y1 y2 y3 y4 y5 y6 y7:Value} {T:TypeId} {fz:Nat×Nat} (h:w.heap[g]?=some (.cells #[y0,y1,y2,y3,y4,y5,y6,y7] T fz)) (st:Fs.St) (V:RV):(rput w g st V).heap[g]?=some (.cells (AG st V) T fz) :=
 JC h _ _ _ _ _ _ _ _
def RV.one (V:RV):Prop:=V.fv.oneCell'=true∧V.dv.oneCell'=true∧V.sv.oneCell'=true∧V.cv.oneCell'=true∧V.pv.oneCell'=true
theorem RF.one {w:World} {st:Fs.St} {V:RV} (h:RF w st V):V.one:=by
 obtain⟨H,o,B,C,E,I,A,F,G,D,vs,rfl⟩:=h.forms;exact⟨rfl,rfl,rfl,rfl,rfl⟩
theorem AB {ops:Array Oper} {rest:List Oper} {op:Oper} {a:Act} {w:World} {Q:Exit→Act→World→Prop} (hgd:op.guard=none) (x y:Operand) (ho:op.op=.store 33 x y) (g:Nat) (st:Fs.St) (V:RV) (hV:V.one) (c:Array Value) (hc:c.size=8)
  (hx:a.eval x=.pointer (some ⟨g,0,none⟩)) (hy:a.eval y=.agg (AG st V)) (hW:w.heap[g]?=some (.cells c 33 (0,0))) (h:wpList Tryz.prog ops Q rest (a.put op.dst undef) (rput w g st V)):wpList Tryz.prog ops Q (op::rest) a w :=
 wpList_store_mid hgd _ x y ho g 0 (AG st V) hx hy (Ic hW (by rw[hc];exact QM _)) (by kernel_rfl) (by
  obtain⟨o,D,A,B,C⟩:=hV;simp only[AG,List.all_toArray,List.all_cons,List.all_nil,o,D,A,B,C];rfl) h
open Go.Maps Go.WideMaps
def ROp (st:Fs.St) (V:RV) (r:Fs.St×Int) (w:World) (e:Ending) (w':World):Prop :=
 Below w.heap.size w w'∧∃V',e=.returned (.tuple #[.agg (AG r.1 V'),.int .i64 r.2])∧Bz w w' (λw0=>RF w0 st V) (λw0=>RF w0 r.1 V')
abbrev fs0:Array Value:=#[.int .i64 0,.slice none 0 0,.slice none 0 0,.slice none 0 0,.slice none 0 0,.int .i64 0,.int .i64 0,.slice none 0 0]
theorem DL (w:World) (st:Fs.St) (V:RV):Below w.heap.size w ((w.alloc (.cells (AG st V) 33)).alloc (.cells fs0 33))∧A9 ((w.alloc (.cells (AG st V) 33)).alloc (.cells fs0 33)) w.heap.size st V ∧
  ((w.alloc (.cells (AG st V) 33)).alloc (.cells fs0 33)).heap[w.heap.size+1]?=some (.cells fs0 33 (0,0))∧((w.alloc (.cells (AG st V) 33)).alloc (.cells fs0 33)).heap.size=w.heap.size+2:=by
 refine⟨((Below.refl _ _).alloc (QM _) _).alloc (by simp) _,?_,?_,by simp⟩
 ·show (World.alloc _ _).heap[w.heap.size]?=_;rw[Lib.alloc_old _ _ _ (by simp)];exact AH _ _
 ·have h:=AH (w.alloc (.cells (AG st V) 33)) (.cells fs0 33);rw[show (w.alloc (.cells (AG st V) 33)).heap.size=w.heap.size+1 by simp]at h;exact h
theorem FF {fn:Func} {Q:Ending→World→Prop} {a:Act} {W:World} {I J:Nat} (hr:fn.results=#[.cell I 33,.tmp J]) (g:Nat) (st:Fs.St) (V:RV) (x:Int) (h4:a.tmps[I]?=some (.pointer (some ⟨g,0,none⟩))) (h5:a.tmps[J]?=some (.int .i64 x)) (hd:a.defers=[])
  (hW:A9 W g st V) (hQ:Q (.returned (.tuple #[.agg (AG st V),.int .i64 x])) W):bodyPost Tryz.prog fn Q .ret a W:=by
 have B:W.cell? ⟨g,0,none⟩=some (.int .i64 st.room):=AA hW 0 _ rfl;have C:W.cell? ⟨g,1,none⟩=some V.fv:=AA hW 1 _ rfl;have D:W.cell? ⟨g,2,none⟩=some V.dv:=AA hW 2 _ rfl;have o:W.cell? ⟨g,3,none⟩=some V.sv:=AA hW 3 _ rfl;have G:W.cell? ⟨g,4,none⟩=some V.cv:=AA hW 4 _ rfl;have E:W.cell? ⟨g,5,none⟩=some (.int .i64 st.steps):=AA hW 5 _ rfl;have A:W.cell? ⟨g,6,none⟩=some (.int .i64 st.left):=AA hW 6 _ rfl;have F:W.cell? ⟨g,7,none⟩=some V.pv:=AA hW 7 _ rfl;exact bodyPost_ret (v:=.tuple #[.agg (AG st V),.int .i64 x]) (by simp[results,hr,go_sem,h4,h5,B,C,D,o,G,E,A,F,AG]) hd hQ
theorem Ct {fn:Func} {a:Act} {w W:World} {I J:Nat} (hr:fn.results=#[.cell I 33,.tmp J]) (st st':Fs.St) (V V':RV) (x:Int) {y0 y1 y2 y3 y4 y5 y6 y7:Value} (h4:a.tmps[I]?=some (.pointer (some ⟨w.heap.size+1,0,none⟩))) (h5:a.tmps[J]?=some (.int .i64 x)) (hd:a.defers=[])
  (hb:Below w.heap.size w W) (hB:W.heap[w.heap.size+1]?=some (.cells #[y0,y1,y2,y3,y4,y5,y6,y7] 33 (0,0)))
  (hL:∀w0:World,W.heap.size≤w0.heap.size→(∀g,w.heap.size≤g→g<W.heap.size→g≠w.heap.size+1→w0.heap[g]?=W.heap[g]?)→RF w0 st V→RF w0 st' V') :
  bodyPost Tryz.prog fn (ROp st V (st',x) w) .ret a (rput W (w.heap.size+1) st' V'):=by
 refine FF hr (w.heap.size+1) st' V' x h4 h5 hd (BP hB st' V') ⟨As hb (by omega) _ _,V',rfl,?_⟩;intro w0 h1 h2 h3;rw[Aa]at h1;refine hL w0 h1 (λg h5 h6 h7=>?_) h3;rw[h2 g h5 (by rw[Aa];exact h6)];exact AW _ _ _ _ h7
theorem Bf (st:Fs.St) (V:RV) (w:World) (h:RF w st V) (hl:-1≤st.left∧st.left≤9223372036854775807) (hp:st.plan.length≤9223372036854775807) :
  Calls Tryz.prog 27 #[.agg (AG st V)] w (ROp st V (Fs.syncDir st) w):=by
 obtain⟨K,T,X,O⟩:=DL w st V;obtain⟨W0,P⟩:∃q,q=(w.alloc (.cells (AG st V) 33)).alloc (.cells fs0 33):=⟨_,rfl⟩
 rw[← P]at K T X O;have aX:(AG st V).size=8:=rfl;have ah:=QA T;have au:=QA X;have W:=QA K;have ad:=QA O;have aA:=QA (Bg st V W0 (h.below K) hl hp);have H:=QA h;have ax:=QA P.symm;clear h K T X O P;go_enter Tryz.func27,Tryz.ntmps27;go_wp2_with (first|(rw[ax.out];(refine AD rfl _ rfl (w.heap.size) st V rfl ah.out ?_))|fail);refine aA.out.mono ?_;rintro e w3 ⟨hb3,V1,rfl,hl3⟩;obtain⟨⟨o,aV,C⟩,hE⟩:∃x,x=Fs.step st:=⟨_,rfl⟩
 rw[← hE]at hl3 ⊢;simp only at hl3 ⊢;have R:=hl3 w3 ((H.out.below W.out).below hb3);have af:=QA hl3;have HE:=QA hE;obtain⟨aT,aH,A,B,aU,aG,aY,aK,aE,aN,aI,Y⟩:=R.forms;have h1:=R.one;have Z:A9 w3 w.heap.size st V:=(hb3.block w.heap.size (by rw[ad.out];omega)).trans ah.out;have ak:=(hb3.block (w.heap.size+1) (by rw[ad.out];omega)).trans au.out;obtain⟨E,D⟩:∃q,q=rput w3 w.heap.size o V1:=⟨_,rfl⟩
 have U:A9 E w.heap.size o V1:=by rw[D];exact BP Z _ _
 have ae:E.heap[w.heap.size+1]?=some (.cells fs0 33 (0,0)):=by rw[D,AW _ _ _ _ (by omega)];exact ak
 have M:Below w.heap.size w E:=by rw[D];exact As (W.out.trans (hb3.mono W.out.size)) (QM _) _ _
 have ab:E.heap.size=w3.heap.size:=by rw[D,Aa]
 have aD:E.cell? ⟨w.heap.size,2,none⟩=some (.slice A o.dir.length B):=AA U 2 _ (by rw[Y];rfl);have N:=QA Y;have ai:=QA Z;have I:=QA U;have S:=QA ae;have L:=QA M;have ag:=QA D.symm;have H1:=QA h1;have aM:=QA ab;have aW:=QA hb3.size;clear hb3 hl3 hE R Z ak D U ae M ab h1 Y;by_cases hc:C=0
 ·subst hc;have HR:Hid (Fs.syncDir st=({ o with sure:=o.dir,changes:=[] },0)):=by
   refine QA ?_;have hd:o.dir=st.dir:=by have:=Fs.step_dir st;rw[← HE.out]at this;exact this
   unfold Fs.syncDir;rw[← HE.out,← hd];rfl
  obtain⟨V2,G⟩:∃q:RV,q=⟨V1.fv,V1.dv,.slice A o.dir.length B,.slice none 0 0,V1.pv,[]⟩:=⟨_,rfl⟩
  have aS:E.frozen? ⟨w.heap.size,3,none⟩=false:=AC I.out 3;have J:(E.setCell ⟨w.heap.size,3,none⟩ (.slice A o.dir.length B)).heap[w.heap.size]?=some (.cells #[.int .i64 o.room,V1.fv,V1.dv,.slice A o.dir.length B,V1.cv,.int .i64 o.steps,.int .i64 o.left,V1.pv] 33 (0,0)):=heap_set I.out _;have aQ:(E.setCell ⟨w.heap.size,3,none⟩ (.slice A o.dir.length B)).cell? ⟨w.heap.size,4,none⟩=some V1.cv:=AA J 4 _ rfl;have aR:(E.setCell ⟨w.heap.size,3,none⟩ (.slice A o.dir.length B)).frozen? ⟨w.heap.size,4,none⟩=false:=AC J 4;have aL:E.cell? ⟨w.heap.size,3,none⟩=some V1.sv:=AA I.out 3 _ rfl;have Q:A9 ((E.setCell ⟨w.heap.size,3,none⟩ (.slice A o.dir.length B)).setCell ⟨w.heap.size,4,none⟩ (.slice none 0 0)) w.heap.size { o with sure:=o.dir,changes:=[] } V2:=by
   rw[G];exact heap_set J _
  have h2:V2.one:=by rw[G,N.out];exact⟨rfl,rfl,rfl,rfl,rfl⟩
  obtain⟨W6,F⟩:∃q,q=(E.setCell ⟨w.heap.size,3,none⟩ (.slice A o.dir.length B)).setCell ⟨w.heap.size,4,none⟩ (.slice none 0 0):=⟨_,rfl⟩
  have ac:W6.heap[w.heap.size+1]?=some (.cells fs0 33 (0,0)):=by
   rw[F,Below.heap_setCell _ _ _ _ (by show w.heap.size+1≠w.heap.size;omega),Below.heap_setCell _ _ _ _ (by show w.heap.size+1≠w.heap.size;omega)];exact S.out
  have al:Below w.heap.size w W6:=by rw[F];exact (L.out.setCell (QM _) _).setCell (QM _) _
  rw[← F]at Q;have az:=QA Q;have aa:=QA ac;have am:=QA al;have H2:=QA h2;have aq:=QA G;have aB:=QA F.symm;clear J Q h2 ac al F G;go_wp2_with (first|(refine AB rfl _ _ rfl (w.heap.size) o V1 H1.out (AG st V) rfl rfl rfl ai.out ?_;rw[ag.out])|(rw[aB.out];(refine AD rfl _ rfl (w.heap.size) { o with sure:=o.dir,changes:=[] } V2 rfl az.out ?_))|(refine AB rfl _ _ rfl (w.heap.size+1) { o with sure:=o.dir,changes:=[] } V2 H2.out fs0 rfl rfl rfl aa.out ?_)|fail);rw[HR.out];refine Ct Tryz.results27 st { o with sure:=o.dir,changes:=[] } V V2 0 rfl rfl rfl am.out aa.out ?_;intro w0 h1 h2 h3;have h4:=af.out w0 h3;rw[N.out]at h4;rw[aq.out,N.out];exact⟨h4.files,h4.dir,h4.dir,⟨AY.nil _ _,λi x y hx=>by simp at hx⟩,h4.plan⟩
 ·have HR:Hid (Fs.syncDir st=(o,C)):=by
   refine QA ?_;unfold Fs.syncDir;rw[← HE.out];exact if_pos hc
  have aF:(C != 0)=true:=by rw[bne_iff_ne];exact hc
  go_wp2_with (first|(refine AB rfl _ _ rfl (w.heap.size) o V1 H1.out (AG st V) rfl rfl rfl ai.out ?_;rw[ag.out])|(refine AD rfl _ rfl (w.heap.size) o V1 rfl I.out ?_)|(refine AB rfl _ _ rfl (w.heap.size+1) o V1 H1.out fs0 rfl rfl rfl S.out ?_)|fail);rw[HR.out];refine Ct Tryz.results27 st o V V1 C rfl rfl rfl L.out S.out ?_;intro w0 h1 h2 h3;exact af.out w0 h3
open Go.Maps Go.WideMaps
structure RAt (w:World) (st0:Fs.St) (V0:RV) (st:Fs.St) (V:RV) (X:World):Prop where
 a:A9 X w.heap.size st V
 b:X.heap[w.heap.size+1]?=some (.cells fs0 33 (0,0))
 e:Below w.heap.size w X
 s:w.heap.size+2≤X.heap.size
 rf0:RF w st0 V0
 lift:∀w0:World,X.heap.size≤w0.heap.size→(∀g,w.heap.size+2≤g→g<X.heap.size→w0.heap[g]?=X.heap[g]?)→RF w0 st0 V0→RF w0 st V
section
variable {w X X' : World} {st0 st st' : Fs.St} {V0 V V' : RV}
theorem RAt.start (h:RF w st V):RAt w st V st V ((w.alloc (.cells (AG st V) 33)).alloc (.cells fs0 33)):=by
 obtain⟨A,o,C,B⟩:=DL w st V;exact⟨o,C,A,by rw[B];exact QM _,h,λ_ _ _ h=>h⟩
theorem RAt.rf (h:RAt w st0 V0 st V X):RF X st V:=h.lift X (QM _) (λ_ _ _=>rfl) (h.rf0.below h.e)
theorem RAt.one (h:RAt w st0 V0 st V X):V.one:=h.rf.one
theorem RAt.below (h:RAt w st0 V0 st V X) (hb:Below X.heap.size X X'):RAt w st0 V0 st V X':=by
 have o:=h.s;exact⟨(hb.block _ (by omega)).trans h.a,(hb.block _ (by omega)).trans h.b,h.e.trans (hb.mono h.e.size),QQ o hb.size,h.rf0,λw0 h1 h2 h3=>h.lift w0 (QQ hb.size h1) (λg h4 h5=>(h2 g h4 (Nat.lt_of_lt_of_le h5 hb.size)).trans (hb.block g h5)) h3⟩
theorem RAt.put (h:RAt w st0 V0 st V X) (st1:Fs.St) (V1:RV) (hl:∀w0,RF w0 st V→RF w0 st1 V1):RAt w st0 V0 st1 V1 (rput X w.heap.size st1 V1):=by
 have o:=h.s;refine⟨BP h.a _ _,by rw[AW _ _ _ _ (by omega)];exact h.b,As h.e (QM _) _ _,by rw[Aa];exact o,h.rf0,λw0 h1 h2 h3=>hl w0 (h.lift w0 (by rw[Aa]at h1;exact h1) (λg h4 h5=>?_) h3)⟩;rw[h2 g h4 (by rw[Aa];exact h5),AW _ _ _ _ (by omega)]
theorem RAt.fin (h:RAt w st0 V0 st V X) {fn:Func} {a:Act} {I J:Nat} (hr:fn.results=#[.cell I 33,.tmp J]) (x:Int) (h4:a.tmps[I]?=some (.pointer (some ⟨w.heap.size+1,0,none⟩))) (h5:a.tmps[J]?=some (.int .i64 x)) (hd:a.defers=[]) :
  bodyPost Tryz.prog fn (ROp st0 V0 (st,x) w) .ret a (rput X (w.heap.size+1) st V) :=
 Ct hr st0 st V0 V x h4 h5 hd h.e h.b (λw0 h1 h2 h3=>h.lift w0 h1 (λg h4 h5=>h2 g (by omega) h5 (by omega)) h3)
end
theorem Hs (st:Fs.St) (V:RV) (n:Int) (w:World) (h:RF w st V) :
  Calls Tryz.prog 33 #[.agg (AG st V),.int .i64 n] w (ROp st V (if n<0 then (st,1) else if st.left=0 then (st,22) else ({ st with left:=n },0)) w):=by
 have h0:=RAt.start h;obtain⟨L,o⟩:∃q,q=(w.alloc (.cells (AG st V) 33)).alloc (.cells fs0 33):=⟨_,rfl⟩
 rw[← o]at h0;have R:(AG st V).size=8:=rfl;have A:=QA h0;have H:=QA h;have E:=QA o.symm;have O:L.cell? ⟨w.heap.size,6,none⟩=some (.int .i64 st.left):=AA h0.a 6 _ rfl;have Q:L.frozen? ⟨w.heap.size,6,none⟩=false:=AC h0.a 6;rw[o]at O Q;clear h0 h o;by_cases hn:n<0
 ·rw[if_pos hn];have M:decide (n<0)=true:=decide_eq_true hn;clear hn;go_enter Tryz.func33,Tryz.ntmps33;go_wp2_with (first|(rw[E.out];(refine AD rfl _ rfl _ _ _ rfl A.out.a ?_))|(refine AB rfl _ _ rfl _ st V A.out.one fs0 rfl rfl rfl A.out.b ?_)|fail);exact A.out.fin Tryz.results33 1 rfl rfl rfl
 ·rw[if_neg hn];have M:decide (n<0)=false:=decide_eq_false hn;clear hn;by_cases hz:st.left=0
  ·rw[if_pos hz];have P:(st.left==0)=true:=by rw[hz];rfl
   have N:decide (st.left=0)=true:=decide_eq_true hz;clear hz;go_enter Tryz.func33,Tryz.ntmps33;go_wp2_with (first|(rw[E.out];(refine AD rfl _ rfl _ _ _ rfl A.out.a ?_))|(refine AB rfl _ _ rfl _ st V A.out.one fs0 rfl rfl rfl A.out.b ?_)|fail);exact A.out.fin Tryz.results33 22 rfl rfl rfl
  ·rw[if_neg hz];have P:(st.left==0)=false:=by rw[beq_eq_false_iff_ne];exact hz
   have N:decide (st.left=0)=false:=decide_eq_false hz;clear hz;obtain⟨G,D,F,C⟩:=DL w { st with left:=n } V;have J:RAt w st V { st with left:=n } V ((w.alloc (.cells (AG { st with left:=n } V) 33)).alloc (.cells fs0 33)) :=
    ⟨D,F,G,by rw[C];exact QM _,H.out,λ_ _ _ h=>⟨h.files,h.dir,h.sure,h.chg,h.plan⟩⟩
   obtain⟨S,B⟩:∃q,q=(w.alloc (.cells ((AG st V).setIfInBounds 6 (.int .i64 n)) 33)).alloc (.cells fs0 33):=⟨_,rfl⟩
   rw[show AG { st with left:=n } V=(AG st V).setIfInBounds 6 (.int .i64 n) from rfl,← B]at J;have I:=QA J;have K:=QA B.symm;clear J B G D F C;go_enter Tryz.func33,Tryz.ntmps33;go_wp2_with (first|(rw[K.out];(refine AD rfl _ rfl _ _ _ rfl I.out.a ?_))|(refine AB rfl _ _ rfl _ { st with left:=n } V I.out.one fs0 rfl rfl rfl I.out.b ?_)|fail);exact I.out.fin Tryz.results33 0 rfl rfl rfl
open Go.Maps Go.WideMaps
structure ROk (st:Fs.St):Prop where
 left:-1≤st.left∧st.left≤9223372036854775807
 plan:st.plan.length≤9223372036854775807
 dir:st.dir.length≤900000
 chg:st.changes.length≤900000
 pos:∀p∈st.dir,0≤p.2
theorem BR {w:World} {g:Nat} {l:Fs.Names} {T:TypeId} {fz:Nat×Nat} (h:w.heap[g]?=some (.cells (AP l).toArray T fz)):Ab w (.slice (some ⟨g,0,none⟩) l.length l.length) l :=
 ⟨_,_,rfl,QM _,λe=>by simp at e,Cc l,λj u hj=>⟨g,0,rfl,AE h,by
  unfold World.cell?;rw[Nat.zero_add];simp only[h]
  simpa using hj⟩⟩
theorem RAt.turned {w X X':World} {st0 st:Fs.St} {V0 V V':RV} {g:Nat} {l:Fs.Names} {T:TypeId} {fz:Nat×Nat} (h:RAt w st0 V0 st V X) (hg:w.heap.size+2≤g) (hX:X.heap[g]?=some (.cells (AP l).toArray T fz)) (hb:Below X.heap.size X X')
  (hl:Bz X X' (λw0=>RF w0 st V∧Ab w0 (.slice (some ⟨g,0,none⟩) l.length l.length) l) (λw0=>RF w0 (Fs.turned st l) V')) {fn:Func} {a:Act} {I J:Nat} (hr:fn.results=#[.cell I 33,.tmp J]) (x:Int)
  (h4:a.tmps[I]?=some (.pointer (some ⟨w.heap.size+1,0,none⟩))) (h5:a.tmps[J]?=some (.int .i64 x)) (hd:a.defers=[]) :
  bodyPost Tryz.prog fn (ROp st0 V0 (Fs.turned st l,x) w) .ret a (rput X' (w.heap.size+1) (Fs.turned st l) V'):=by
 have A:=h.below hb;have B:=h.s;have o:=AE hX;refine Ct hr st0 (Fs.turned st l) V0 V' x h4 h5 hd A.e A.b (λw0 h2 h3 h6=>hl w0 h2 (λk h7 h8=>h3 k (QQ h.e.size h7) h8 (by omega)) ⟨A.lift w0 h2 (λk h7 h8=>h3 k (by omega) h8 (by omega)) h6,BR (T:=T) (fz:=fz) ?_⟩);rw[h3 g (by omega) (Nat.lt_of_lt_of_le o hb.size) (by omega),hb.block g o];exact hX
theorem CJ (st:Fs.St) (V:RV) (s:ByteArray) (w:World) (h:RF w st V) (ho:ROk st) (hsz:s.size≤1000000) :
  Calls Tryz.prog 31 #[.agg (AG st V),.string s] w (ROp st V (Fs.remove st s.data.toList) w):=by
 have h0:=RAt.start h;obtain⟨W0,G⟩:∃q,q=(w.alloc (.cells (AG st V) 33)).alloc (.cells fs0 33):=⟨_,rfl⟩
 rw[← G]at h0;have ao:(AG st V).size=8:=rfl;have E:=QA (CS st V s W0 h0.rf (QQ ho.dir (by decide)) ho.pos);have H0:=QA h0;have X:=QA ho;have ah:=QA G.symm;obtain⟨T,H⟩:∃q,q=Fs.openE st s.data.toList:=⟨_,rfl⟩
 have J:=QA H;unfold Dj at E;rw[← H]at E;clear h0 h G ho H;go_enter Tryz.func31,Tryz.ntmps31;go_wp2_with (first|(rw[ah.out];(refine AD rfl _ rfl _ _ _ rfl H0.out.a ?_))|fail);refine E.out.mono ?_;rintro e w1 ⟨rfl,hb1⟩;have L:=QA (H0.out.below hb1);clear hb1 E;by_cases hc:T=0;rotate_left
 ·have N:Hid (Fs.remove st s.data.toList=(st,T)):=QA (by unfold Fs.remove;rw[← J.out,if_pos hc]);have ab:(T != 0)=true:=by rw[bne_iff_ne];exact hc
  have ad:decide (T=0)=false:=decide_eq_false hc;go_wp2_with (first|(refine AD rfl _ rfl _ _ _ rfl L.out.a ?_)|(refine AB rfl _ _ rfl _ st V L.out.one fs0 rfl rfl rfl L.out.b ?_)|fail);rw[N.out];exact L.out.fin Tryz.results31 T rfl rfl rfl
 subst hc;have U:=QA (Bg st V w1 L.out.rf X.out.left X.out.plan);go_wp2_with (first|(refine AD rfl _ rfl _ _ _ rfl L.out.a ?_)|fail);refine U.out.mono ?_;rintro e w3 ⟨hb3,V1,rfl,hl3⟩;have C:=Fs.step_dir st;have B:=Fs.step_changes st;obtain⟨⟨o,ar,A⟩,hE⟩:∃x,x=Fs.step st:=⟨_,rfl⟩
 rw[← hE]at hl3 C B ⊢;simp only at hl3 C B ⊢;have h3:=L.out.below hb3;have h4:=h3.put o V1 hl3;obtain⟨I,K⟩:∃q,q=rput w3 w.heap.size o V1:=⟨_,rfl⟩
 rw[← K]at h4;have HE:=QA hE;have H3:=QA h3;have D:=QA h4;have Q:=QA K.symm;have S:=QA C;have O:=QA B;clear hb3 hl3 hE h3 h4 K C B U;by_cases hc:A=0;rotate_left
 ·have N:Hid (Fs.remove st s.data.toList=(o,A)):=QA (by unfold Fs.remove;rw[← J.out,if_neg (by simp),← HE.out,if_pos hc]);have ab:(A != 0)=true:=by rw[bne_iff_ne];exact hc
  have ad:decide (A=0)=false:=decide_eq_false hc;clear hc;go_wp2_with (first|(refine AB rfl _ _ rfl _ o V1 D.out.one _ rfl rfl rfl H3.out.a ?_;rw[Q.out])|(refine AD rfl _ rfl _ _ _ rfl D.out.a ?_)|(refine AB rfl _ _ rfl _ o V1 D.out.one fs0 rfl rfl rfl D.out.b ?_)|fail);rw[N.out];exact D.out.fin Tryz.results31 A rfl rfl rfl
 subst hc;have N:Hid (Fs.remove st s.data.toList=(Fs.turned o [(s.data.toList,-1)],0)):=QA (by unfold Fs.remove;rw[← J.out,if_neg (by simp),← HE.out,if_neg (by simp)]);have P:Below I.heap.size I (I.alloc (.cells #[.string s,.int .i64 (-1)] 95)):=(Below.refl _ _).alloc (QM _) _;have h5:=D.out.below P;have M:(I.alloc (.cells #[.string s,.int .i64 (-1)] 95)).heap[I.heap.size]?=some (.cells (AP [(s.data.toList,-1)]).toArray 95 (0,0)):=AH I _;have R:=QA (DW o V1 (.slice (some ⟨I.heap.size,0,none⟩) 1 1) [(s.data.toList,-1)] _ h5.rf (BR M) (by simp) (by simp) (by rw[S.out];exact X.out.dir) (by rw[O.out];exact X.out.chg) (λp hp=>by
  obtain rfl:=List.mem_singleton.1 hp;show s.data.toList.length≤1000000
  simpa using hsz))
 have H5:=QA h5;have W:=QA M;have ai:=QA D.out.s;clear P h5 M;go_wp2_with (first|(refine AB rfl _ _ rfl _ o V1 D.out.one _ rfl rfl rfl H3.out.a ?_;rw[Q.out])|(refine AD rfl _ rfl _ _ _ rfl D.out.a ?_)|fail);refine R.out.mono ?_;rintro e w6 ⟨hb6,V6,rfl,hl6⟩;have h6:=H5.out.below hb6;have F:V6.one:=(hl6 w6 (QM _) (λ_ _ _=>rfl) ⟨h6.rf,Ab.below (BR W.out) hb6⟩).one;have H6:=QA h6;have Y:=QA hl6;have Z:=QA hb6;have aa:=QA F;clear hb6 hl6 h6 F R;go_wp2_with (first|(refine AB rfl _ _ rfl _ (Fs.turned o [(s.data.toList,-1)]) V6 aa.out fs0 rfl rfl rfl H6.out.b ?_)|fail);rw[N.out];exact H5.out.turned ai.out W.out Z.out Y.out Tryz.results31 0 rfl rfl rfl
open Go.Maps Go.WideMaps
theorem CH (st:Fs.St) (V:RV) (s d:ByteArray) (w:World) (h:RF w st V) (ho:ROk st) (hsz:s.size≤1000000) (hdz:d.size≤1000000) :
  Calls Tryz.prog 29 #[.agg (AG st V),.string s,.string d] w (ROp st V (Fs.rename st s.data.toList d.data.toList) w):=by
 have h0:=RAt.start h;obtain⟨W0,K⟩:∃q,q=(w.alloc (.cells (AG st V) 33)).alloc (.cells fs0 33):=⟨_,rfl⟩
 rw[← K]at h0;have az:(AG st V).size=8:=rfl;have W:=QA (B2 s W0);have aa:=QA (B2 d W0);have T:=QA (DV V.dv st.dir s W0 h0.rf.dir (QQ ho.dir (by decide)));have c2:W0.cell? ⟨w.heap.size,2,none⟩=some V.dv:=AA h0.a 2 _ rfl;have ae:=QA (Bg st V W0 h0.rf ho.left ho.plan);have C:=QA h0;have HO:=QA ho;have ap:=QA K.symm;obtain⟨g1,P⟩:∃q,q=Fs.good s.data.toList:=⟨_,rfl⟩
 obtain⟨g2,R⟩:∃q,q=Fs.good d.data.toList:=⟨_,rfl⟩
 rw[← P]at W;rw[← R]at aa;have E:=QA P;have I:=QA R;obtain⟨F,L⟩:∃q,q=Fs.find st.dir s.data.toList:=⟨_,rfl⟩
 rw[← L]at T;have U:=QA L;clear h0 h ho K P R L;go_enter Tryz.func29,Tryz.ntmps29;go_wp2_with fail;rw[ap.out];refine W.out.mono ?_;rintro e w1 ⟨rfl,hw1⟩;rw[hw1];clear hw1;cases g1
 ·have G:Hid (Fs.rename st s.data.toList d.data.toList=(st,7)):=QA (by unfold Fs.rename;rw[← E.out];exact if_pos rfl);go_wp2_with (first|(refine AD rfl _ rfl _ _ _ rfl C.out.a ?_)|(refine AB rfl _ _ rfl _ st V C.out.one fs0 rfl rfl rfl C.out.b ?_)|fail);rw[G.out];exact C.out.fin Tryz.results29 7 rfl rfl rfl
 go_wp2_with fail;refine aa.out.mono ?_;rintro e w1 ⟨rfl,hw1⟩;rw[hw1];clear hw1;cases g2
 ·have G:Hid (Fs.rename st s.data.toList d.data.toList=(st,7)):=QA (by unfold Fs.rename;rw[← E.out,← I.out];exact if_pos rfl);go_wp2_with (first|(refine AD rfl _ rfl _ _ _ rfl C.out.a ?_)|(refine AB rfl _ _ rfl _ st V C.out.one fs0 rfl rfl rfl C.out.b ?_)|fail);rw[G.out];exact C.out.fin Tryz.results29 7 rfl rfl rfl
 go_wp2_with fail;refine T.out.mono ?_;rintro e w1 ⟨rfl,hw1⟩;rw[hw1];clear hw1 c2;by_cases hm:Fs.mhas st.dir s.data.toList=true;rotate_left
 ·have ad:Fs.mhas st.dir s.data.toList=false:=by simpa using hm
  have G:Hid (Fs.rename st s.data.toList d.data.toList=(st,3)):=QA (by unfold Fs.rename;rw[← E.out,← I.out,if_neg (by simp),if_pos ad]);have hf:F=-1:=by rw[U.out];unfold Fs.find;rw[if_neg hm]
  subst hf;clear hm ad;go_wp2_with (first|(refine AD rfl _ rfl _ _ _ rfl C.out.a ?_)|(refine AB rfl _ _ rfl _ st V C.out.one fs0 rfl rfl rfl C.out.b ?_)|fail);rw[G.out];exact C.out.fin Tryz.results29 3 rfl rfl rfl
 have N:F=Fs.mget st.dir s.data.toList:=by rw[U.out];unfold Fs.find;rw[if_pos hm]
 have al:0≤F:=by
  obtain⟨q,hq,h1,h2⟩:=Fs.mget_mem hm;rw[N,← h2];exact HO.out.pos q hq
 have e7:decide (F<0)=false:=decide_eq_false (by omega);have HM:=QA hm;have aj:=QA N;clear hm N al;go_wp2_with (first|(refine AD rfl _ rfl _ _ _ rfl C.out.a ?_)|fail);refine ae.out.mono ?_;rintro e w3 ⟨hb3,V1,rfl,hl3⟩;have D:=Fs.step_dir st;have B:=Fs.step_changes st;obtain⟨⟨o,aI,A⟩,hE⟩:∃x,x=Fs.step st:=⟨_,rfl⟩
 rw[← hE]at hl3 D B ⊢;simp only at hl3 D B ⊢;have h3:=C.out.below hb3;have h4:=h3.put o V1 hl3;obtain⟨M,O⟩:∃q,q=rput w3 w.heap.size o V1:=⟨_,rfl⟩
 rw[← O]at h4;have HE:=QA hE;have H3:=QA h3;have H:=QA h4;have Y:=QA O.symm;have ab:=QA D;have S:=QA B;clear hb3 hl3 hE h3 h4 O D B ae;by_cases hc:A=0;rotate_left
 ·have G:Hid (Fs.rename st s.data.toList d.data.toList=(o,A)):=QA (by unfold Fs.rename;rw[← E.out,← I.out,if_neg (by simp),if_neg (by rw[HM.out];simp),← HE.out,if_pos hc]);have aB:(A != 0)=true:=by rw[bne_iff_ne];exact hc
  have aC:decide (A=0)=false:=decide_eq_false hc;clear hc;go_wp2_with (first|(refine AB rfl _ _ rfl _ o V1 H.out.one _ rfl rfl rfl H3.out.a ?_;rw[Y.out])|(refine AD rfl _ rfl _ _ _ rfl H.out.a ?_)|(refine AB rfl _ _ rfl _ o V1 H.out.one fs0 rfl rfl rfl H.out.b ?_)|fail);rw[G.out];exact H.out.fin Tryz.results29 A rfl rfl rfl
 subst hc;have G:Hid (Fs.rename st s.data.toList d.data.toList=(Fs.turned o [(s.data.toList,-1),(d.data.toList,F)],0)):=QA (by unfold Fs.rename;rw[← E.out,← I.out,if_neg (by simp),if_neg (by rw[HM.out];simp),← HE.out,if_neg (by simp),aj.out]);have X:Below M.heap.size M (M.alloc (.cells #[.string s,.int .i64 (-1),.string d,.int .i64 F] 95)):=(Below.refl _ _).alloc (QM _) _;have h5:=H.out.below X;have Q:(M.alloc (.cells #[.string s,.int .i64 (-1),.string d,.int .i64 F] 95)).heap[M.heap.size]?=some (.cells (AP [(s.data.toList,-1),(d.data.toList,F)]).toArray 95 (0,0)):=AH M _;have Z:=QA (DW o V1 (.slice (some ⟨M.heap.size,0,none⟩) 2 2) [(s.data.toList,-1),(d.data.toList,F)] _ h5.rf (BR Q) (by simp) (by simp) (by rw[ab.out];exact HO.out.dir) (by rw[S.out];exact HO.out.chg) (λp hp=>by
  simp only[List.mem_cons,List.not_mem_nil,or_false]at hp;rcases hp with rfl|rfl
  ·show s.data.toList.length≤1000000
   simpa using hsz
  ·show d.data.toList.length≤1000000
   simpa using hdz))
 have H5:=QA h5;have af:=QA Q;have aq:=QA H.out.s;clear X h5 Q;go_wp2_with (first|(refine AB rfl _ _ rfl _ o V1 H.out.one _ rfl rfl rfl H3.out.a ?_;rw[Y.out])|(refine AD rfl _ rfl _ _ _ rfl H.out.a ?_)|fail);refine Z.out.mono ?_;rintro e w6 ⟨hb6,V6,rfl,hl6⟩;have h6:=H5.out.below hb6;have J:V6.one:=(hl6 w6 (QM _) (λ_ _ _=>rfl) ⟨h6.rf,Ab.below (BR af.out) hb6⟩).one;have H6:=QA h6;have ag:=QA hl6;have ah:=QA hb6;have ai:=QA J;clear hb6 hl6 h6 J Z;go_wp2_with (first|(refine AB rfl _ _ rfl _ (Fs.turned o [(s.data.toList,-1),(d.data.toList,F)]) V6 ai.out fs0 rfl rfl rfl H6.out.b ?_)|fail);rw[G.out];exact H5.out.turned aq.out af.out ah.out ag.out Tryz.results29 0 rfl rfl rfl
open Go.Maps Go.WideMaps
structure RFl (st:Fs.St):Prop where
 lt:∀p∈st.dir,p.2<(st.files.length:Int)
 len:st.files.length≤1000000
theorem RFl.at {st:Fs.St} (h:RFl st) (ho:ROk st) {n:List UInt8} (hm:Fs.openE st n=0):∃i:Nat,Fs.mget st.dir n=(i:Int)∧Fs.idx st n=i∧i<st.files.length:=by
 have B:Fs.mhas st.dir n=true:=by
  unfold Fs.openE at hm;by_cases o:Fs.good n=false
  ·rw[if_pos o]at hm;cases hm
  ·rw[if_neg o]at hm;by_cases A:Fs.mhas st.dir n=false
   ·rw[if_pos A]at hm;cases hm
   ·simpa using A
 obtain⟨q,C,o,A⟩:=Fs.mget_mem B;have D:=h.lt q C;have E:=ho.pos q C;refine⟨(Fs.mget st.dir n).toNat,by omega,rfl,by omega⟩
theorem RAt.called {w X X':World} {st0 st st':Fs.St} {V0 V V':RV} (h:RAt w st0 V0 st V X) (hb:Below X.heap.size X X') (hl:Bz X X' (λw0=>RF w0 st V) (λw0=>RF w0 st' V')) {fn:Func} {a:Act} {I J:Nat} (hr:fn.results=#[.cell I 33,.tmp J]) (x:Int)
  (h4:a.tmps[I]?=some (.pointer (some ⟨w.heap.size+1,0,none⟩))) (h5:a.tmps[J]?=some (.int .i64 x)) (hd:a.defers=[]) :
  bodyPost Tryz.prog fn (ROp st0 V0 (st',x) w) .ret a (rput X' (w.heap.size+1) st' V'):=by
 have o:=h.below hb;have A:=h.s;exact Ct hr st0 st' V0 V' x h4 h5 hd o.e o.b (λw0 h2 h3 h6=>hl w0 h2 (λk h7 h8=>h3 k (QQ h.e.size h7) h8 (by omega)) (o.lift w0 h2 (λk h7 h8=>h3 k (by omega) h8 (by omega)) h6))
theorem DU (st:Fs.St) (V:RV) (s:ByteArray) (w:World) (h:RF w st V) (ho:ROk st) (hfl:RFl st) :
  Calls Tryz.prog 25 #[.agg (AG st V),.string s] w (ROp st V (Fs.sync st s.data.toList) w):=by
 have af:=QA hfl;clear hfl;have h0:=RAt.start h;obtain⟨W0,K⟩:∃q,q=(w.alloc (.cells (AG st V) 33)).alloc (.cells fs0 33):=⟨_,rfl⟩
 rw[← K]at h0;have aE:(AG st V).size=8:=rfl;have I:=QA (CS st V s W0 h0.rf (QQ ho.dir (by decide)) ho.pos);have H0:=QA h0;have HO:=QA ho;have aw:=QA K.symm;obtain⟨Y,L⟩:∃q,q=Fs.openE st s.data.toList:=⟨_,rfl⟩
 have H:=QA L;unfold Dj at I;rw[← L]at I;clear h0 h K ho L;go_enter Tryz.func25,Tryz.ntmps25;go_wp2_with (first|(rw[aw.out];(refine AD rfl _ rfl _ _ _ rfl H0.out.a ?_))|fail);refine I.out.mono ?_;rintro e w1 ⟨rfl,hb1⟩;have P:=QA (H0.out.below hb1);clear hb1 I;by_cases hc:Y=0;rotate_left
 ·have Q:Hid (Fs.sync st s.data.toList=(st,Y)):=QA (by unfold Fs.sync;rw[← H.out,if_pos hc]);have ak:(Y != 0)=true:=by rw[bne_iff_ne];exact hc
  have an:decide (Y=0)=false:=decide_eq_false hc;go_wp2_with (first|(refine AD rfl _ rfl _ _ _ rfl P.out.a ?_)|(refine AB rfl _ _ rfl _ st V P.out.one fs0 rfl rfl rfl P.out.b ?_)|fail);rw[Q.out];exact P.out.fin Tryz.results25 Y rfl rfl rfl
 subst hc;have ad:=QA (Bg st V w1 P.out.rf HO.out.left HO.out.plan);go_wp2_with (first|(refine AD rfl _ rfl _ _ _ rfl P.out.a ?_)|fail);refine ad.out.mono ?_;rintro e w3 ⟨hb3,V1,rfl,hl3⟩;have C:=Fs.step_dir st;have B:=Fs.step_changes st;obtain⟨⟨o,aJ,A⟩,hE⟩:∃x,x=Fs.step st:=⟨_,rfl⟩
 rw[← hE]at hl3 C B ⊢;simp only at hl3 C B ⊢;have h3:=P.out.below hb3;have h4:=h3.put o V1 hl3;obtain⟨W4,O⟩:∃q,q=rput w3 w.heap.size o V1:=⟨_,rfl⟩
 rw[← O]at h4;have HE:=QA hE;have H3:=QA h3;have G:=QA h4;have W:=QA O.symm;have aB:=QA C;have az:=QA B;clear hb3 hl3 hE h3 h4 O C B ad;by_cases hc:A=0;rotate_left
 ·have Q:Hid (Fs.sync st s.data.toList=(o,A)):=QA (by unfold Fs.sync;rw[← H.out,if_neg (by simp),← HE.out,if_pos hc]);have ak:(A != 0)=true:=by rw[bne_iff_ne];exact hc
  have an:decide (A=0)=false:=decide_eq_false hc;clear hc;go_wp2_with (first|(refine AB rfl _ _ rfl _ o V1 G.out.one _ rfl rfl rfl H3.out.a ?_;rw[W.out])|(refine AD rfl _ rfl _ _ _ rfl G.out.a ?_)|(refine AB rfl _ _ rfl _ o V1 G.out.one fs0 rfl rfl rfl G.out.b ?_)|fail);rw[Q.out];exact G.out.fin Tryz.results25 A rfl rfl rfl
 subst hc;obtain⟨i,ac,S,N⟩:=af.out.at HO.out H.out.symm;obtain⟨f,hf⟩:∃f,st.files[i]?=some f:=⟨_,ZG N⟩
 have F:o.files=st.files:=by have:=Fs.step_files st;rw[← HE.out]at this;exact this
 have Q:Hid (Fs.sync st s.data.toList=({ o with files:=o.files.set i (f.1,f.1.length) },0)):=QA (by
  unfold Fs.sync Fs.flush;rw[← H.out,if_neg (by simp),← HE.out,if_neg (by simp),S,hf,F])
 rw[ac];have D:=G.out.rf.files;rw[F]at D;obtain⟨fa,fc,M⟩:=D.form;obtain⟨ab,U⟩:=Ax _ _ _ hf;rw[M]at D;obtain⟨b,aa,ae,ao,k0⟩:=D.at ab;obtain⟨b',X,E,Z,k1⟩:=D.at U;rw[ae]at E;obtain⟨rfl,rfl⟩:b=b'∧aa=X:=by simpa using E
 subst ae;rw[← Nat.add_assoc]at k1;have kf:W4.cell? ⟨w.heap.size,1,none⟩=some (.slice (some ⟨b,aa,none⟩) st.files.length fc):=AA G.out.a 1 _ (by show some V1.fv=_;rw[M]);have e8:decide (i<st.files.length)=true:=decide_eq_true N;have T:Below W4.heap.size W4 (W4.alloc (.cells #[.string ⟨f.1.toArray⟩,.int .i64 (f.1.length:Nat)] 105)):=(Below.refl _ _).alloc (QM _) _;have h5:=G.out.below T;have R:=QA (Bw o V1 i (f.1,f.1.length) _ h5.rf (by rw[F];exact N) (by rw[F];exact af.out.len));have H5:=QA h5;clear T h5 F D ab U ao Z E hf ac S M;go_wp2_with (first|(refine AB rfl _ _ rfl _ o V1 G.out.one _ rfl rfl rfl H3.out.a ?_;rw[W.out])|(refine AD rfl _ rfl _ _ _ rfl H5.out.a ?_)|fail);refine R.out.mono ?_;rintro e w6 ⟨hb6,V6,rfl,hl6⟩;have h6:=H5.out.below hb6;have J:V6.one:=(hl6 w6 (QM _) (λ_ _ _=>rfl) h6.rf).one;have H6:=QA h6;have ah:=QA hl6;have ai:=QA hb6;have aj:=QA J;clear hb6 hl6 h6 J R;go_wp2_with (first|(refine AB rfl _ _ rfl _ { o with files:=o.files.set i (f.1,f.1.length) } V6 aj.out fs0 rfl rfl rfl H6.out.b ?_)|fail);rw[Q.out];exact H5.out.called ai.out ah.out Tryz.results25 0 rfl rfl rfl
open Go.Maps Go.WideMaps
def Fs.bytesOf (st:Fs.St) (n:List UInt8):List UInt8:=match st.files[Fs.idx st n]? with|some f=>f.1|none=>[]
theorem Hj (st:Fs.St) (V:RV) (s:ByteArray) (w:World) (h:RF w st V) (ho:ROk st) (hfl:RFl st) :
  Calls Tryz.prog 54 #[.agg (AG st V),.string s] w λe w'=>e=.returned (.tuple #[.string ⟨(if Fs.openE st s.data.toList=0 then Fs.bytesOf st s.data.toList else []).toArray⟩,.int .i64 (Fs.openE st s.data.toList)])∧Below w.heap.size w w':=by
 have C:Below w.heap.size w (w.alloc (.cells (AG st V) 33)):=(Below.refl _ _).alloc (QM _) _;have G:A9 (w.alloc (.cells (AG st V) 33)) w.heap.size st V:=AH _ _;obtain⟨W0,D⟩:∃q,q=w.alloc (.cells (AG st V) 33):=⟨_,rfl⟩
 rw[← D]at C G;have Z:(AG st V).size=8:=rfl;have A:=QA (CS st V s W0 (h.below C) (QQ ho.dir (by decide)) ho.pos);have I:=QA G;have K:=QA C;have HO:=QA ho;have X:=QA hfl;have H:=QA h;have T:=QA D.symm;obtain⟨O,o⟩:∃q,q=Fs.openE st s.data.toList:=⟨_,rfl⟩
 have S:=QA o;unfold Dj at A;rw[← o]at A;rw[← o];clear h C G D ho o hfl;go_enter Tryz.func54,Tryz.ntmps54;go_wp2_with (first|(rw[T.out];refine AD rfl _ rfl _ _ _ rfl I.out ?_)|fail);refine A.out.mono ?_;rintro e w1 ⟨rfl,hb1⟩;have E:=QA (K.out.trans (hb1.mono K.out.size));have P:Hid (A9 w1 w.heap.size st V):=QA ((hb1.block _ (AE I.out)).trans I.out);clear hb1 A;by_cases hc:O=0;rotate_left
 ·have aa:(O != 0)=true:=by rw[bne_iff_ne];exact hc
  have ab:decide (O=0)=false:=decide_eq_false hc;go_wp2_with fail;refine bodyPost_ret (v:=.tuple #[.string ⟨#[]⟩,.int .i64 O]) (by simp[results,Tryz.results54,go_sem]) rfl ?_;exact⟨rfl,E.out⟩
 subst hc;obtain⟨i,N,J,L⟩:=X.out.at HO.out S.out.symm;obtain⟨f,R⟩:∃f,st.files[i]?=some f:=⟨_,ZG L⟩
 have Y:Hid (Fs.bytesOf st s.data.toList=f.1):=QA (by unfold Fs.bytesOf;rw[J,R]);rw[N];have B:=(H.out.below E.out).files;obtain⟨fa,fc,F⟩:=B.form;obtain⟨M,-⟩:=Ax _ _ _ R;rw[F]at B;obtain⟨b,U,W,Q,k0⟩:=B.at M;subst W;have kf:w1.cell? ⟨w.heap.size,1,none⟩=some (.slice (some ⟨b,U,none⟩) st.files.length fc):=AA P.out 1 _ (by show some V.fv=_;rw[F]);have e8:decide (i<st.files.length)=true:=decide_eq_true L;clear B M Q R N J F;go_wp2_with fail;refine bodyPost_ret (v:=.tuple #[.string ⟨f.1.toArray⟩,.int .i64 0]) (by simp[results,Tryz.results54,go_sem]) rfl ?_;exact⟨by rw[Y.out],E.out⟩
open Go.Maps Go.WideMaps
theorem RAt.files {w X X7:World} {st0 st:Fs.St} {V0 V:RV} (h:RAt w st0 V0 st V X) (hb:Below X.heap.size X X7) {v7:Value} {l7:List (List UInt8×Nat)} (ho:A5 X7 X.heap.size v7 l7) :
  RAt w st0 V0 { st with files:=l7 } { V with fv:=v7 } (X7.setCell ⟨w.heap.size,1,none⟩ v7):=by
 have A:=h.below hb;have D:=h.s;refine⟨heap_set A.a _,?_,A.e.setCell (QM _) _,by simp[World.setCell];exact A.s,h.rf0,λw0 h1 h2 h3=>?_⟩
 ·rw[Below.heap_setCell _ _ _ _ (by show w.heap.size+1≠w.heap.size;omega)];exact A.b
 have C:(X7.setCell ⟨w.heap.size,1,none⟩ v7).heap.size=X7.heap.size:=by simp[World.setCell]
 rw[C]at h1;have B:∀g,w.heap.size+2≤g→g<X7.heap.size→w0.heap[g]?=X7.heap[g]?:=λg o h5=>by
  rw[h2 g o (by rw[C];exact h5),Below.heap_setCell _ _ _ _ (by show g≠w.heap.size;omega)]
 have o:=A.lift w0 h1 B h3;exact⟨(A5.keepOff ho (λg h5 h6=>B g (by omega) h6)).row,o.dir,o.sure,o.chg,o.plan⟩
theorem IR {w:World} {g:Nat} {T:TypeId} {fz:Nat×Nat} (h:w.heap[g]?=some (.cells #[.string ⟨#[]⟩,.int .i64 0] T fz)):AY w (.slice (some ⟨g,0,none⟩) 1 1) 2 1 (AU [([],0)]) :=
 ⟨_,_,rfl,QM _,λe=>by simp at e,rfl,λj u hj=>⟨g,0,rfl,AE h,by
  unfold World.cell?;rw[Nat.zero_add];simp only[h]
  simpa [AU] using hj⟩⟩
theorem CB (st:Fs.St) (V:RV) (s:ByteArray) (w:World) (h:RF w st V) (ho:ROk st) (hfz:st.files.length≤900000) (hsz:s.size≤1000000) :
  Calls Tryz.prog 21 #[.agg (AG st V),.string s] w (ROp st V (Fs.create st s.data.toList) w):=by
 obtain⟨da,dc,ac⟩:=AY.form h.dir;have h0:=RAt.start h;obtain⟨W0,Y⟩:∃q,q=(w.alloc (.cells (AG st V) 33)).alloc (.cells fs0 33):=⟨_,rfl⟩
 rw[← Y]at h0;have a7:(AG st V).size=8:=rfl;have al:=QA (B2 s W0);have aj:=QA (DV (.slice da st.dir.length dc) st.dir s W0 (by rw[← ac];exact h0.rf.dir) (QQ ho.dir (by decide)));have c2:W0.cell? ⟨w.heap.size,2,none⟩=some (.slice da st.dir.length dc):=AA h0.a 2 _ (by show some V.dv=_;rw[ac]);have az:=QA (Bg st V W0 h0.rf ho.left ho.plan);have G:=QA h0;have HO:=QA ho;have aL:=QA Y.symm;obtain⟨g1,ag⟩:∃q,q=Fs.good s.data.toList:=⟨_,rfl⟩
 rw[← ag]at al;have K:=QA ag;obtain⟨fi,ae⟩:∃q,q=Fs.find st.dir s.data.toList:=⟨_,rfl⟩
 rw[← ae]at aj;have ai:=QA ae;clear h0 h ho Y ag ae ac;go_enter Tryz.func21,Tryz.ntmps21;go_wp2_with fail;rw[aL.out];refine al.out.mono ?_;rintro e w1 ⟨rfl,hw1⟩;rw[hw1];clear hw1;cases g1
 ·have O:Hid (Fs.create st s.data.toList=(st,7)):=QA (by unfold Fs.create;rw[← K.out];exact if_pos rfl);go_wp2_with (first|(refine AD rfl _ rfl _ _ _ rfl G.out.a ?_)|(refine AB rfl _ _ rfl _ st V G.out.one fs0 rfl rfl rfl G.out.b ?_)|fail);rw[O.out];exact G.out.fin Tryz.results21 7 rfl rfl rfl
 go_wp2_with fail;refine aj.out.mono ?_;rintro e w1 ⟨rfl,hw1⟩;rw[hw1];clear hw1;by_cases hm:Fs.mhas st.dir s.data.toList=true
 ·have O:Hid (Fs.create st s.data.toList=(st,4)):=QA (by unfold Fs.create;rw[← K.out,if_neg (by simp),if_pos hm]);have an:0≤fi:=by
   obtain⟨q,hq,h1,h2⟩:=Fs.mget_mem hm;rw[ai.out];unfold Fs.find;rw[if_pos hm,← h2];exact HO.out.pos q hq
  have e7:decide (0≤fi)=true:=decide_eq_true an;clear hm an;go_wp2_with (first|(refine AD rfl _ rfl _ _ _ rfl G.out.a ?_)|(refine AB rfl _ _ rfl _ st V G.out.one fs0 rfl rfl rfl G.out.b ?_)|fail);rw[O.out];exact G.out.fin Tryz.results21 4 rfl rfl rfl
 have hf:fi=-1:=by rw[ai.out];unfold Fs.find;rw[if_neg hm]
 subst hf;have HM:=QA hm;clear hm;by_cases h64:64≤st.dir.length
 ·have O:Hid (Fs.create st s.data.toList=(st,8)):=QA (by unfold Fs.create;rw[← K.out,if_neg (by simp),if_neg HM.out,if_pos h64]);have e7:decide ((64:Int)≤(st.dir.length:Int))=true:=decide_eq_true (by omega);have e8:decide (64≤st.dir.length)=true:=decide_eq_true h64;clear h64;go_wp2_with (first|(refine AD rfl _ rfl _ _ _ rfl G.out.a ?_)|(refine AB rfl _ _ rfl _ st V G.out.one fs0 rfl rfl rfl G.out.b ?_)|fail);rw[O.out];exact G.out.fin Tryz.results21 8 rfl rfl rfl
 have e7:decide ((64:Int)≤(st.dir.length:Int))=false:=decide_eq_false (by omega);have e8:decide (64≤st.dir.length)=false:=decide_eq_false h64;have ak:=QA h64;clear h64;go_wp2_with (first|(refine AD rfl _ rfl _ _ _ rfl G.out.a ?_)|fail);refine az.out.mono ?_;rintro e w3 ⟨hb3,V1,rfl,hl3⟩;have E:=Fs.step_dir st;have F:=Fs.step_changes st;obtain⟨⟨A,bm,B⟩,hE⟩:∃x,x=Fs.step st:=⟨_,rfl⟩
 rw[← hE]at hl3 E F ⊢;simp only at hl3 E F ⊢;have h3:=G.out.below hb3;have h4:=h3.put A V1 hl3;obtain⟨D,af⟩:∃q,q=rput w3 w.heap.size A V1:=⟨_,rfl⟩
 rw[← af]at h4;have HE:=QA hE;have H3:=QA h3;have H:=QA h4;have ao:=QA af.symm;have T:=QA E;have Q:=QA F;clear hb3 hl3 hE h3 h4 af E F az;by_cases hc:B=0;rotate_left
 ·have O:Hid (Fs.create st s.data.toList=(A,B)):=QA (by unfold Fs.create;rw[← K.out,if_neg (by simp),if_neg HM.out,if_neg ak.out,← HE.out,if_pos hc]);have Z:(B != 0)=true:=by rw[bne_iff_ne];exact hc
  have a8:decide (B=0)=false:=decide_eq_false hc;clear hc;go_wp2_with (first|(refine AB rfl _ _ rfl _ A V1 H.out.one _ rfl rfl rfl H3.out.a ?_;rw[ao.out])|(refine AD rfl _ rfl _ _ _ rfl H.out.a ?_)|(refine AB rfl _ _ rfl _ A V1 H.out.one fs0 rfl rfl rfl H.out.b ?_)|fail);rw[O.out];exact H.out.fin Tryz.results21 B rfl rfl rfl
 subst hc;have ab:A.files=st.files:=by have:=Fs.step_files st;rw[← HE.out]at this;exact this
 have bd:=QA ab;have I:=H.out.rf.files;rw[ab]at I;obtain⟨fa,fc,ad⟩:=I.form;have kf:D.cell? ⟨w.heap.size,1,none⟩=some (.slice fa st.files.length fc):=AA H.out.a 1 _ (by show some V1.fv=_;rw[ad]);rw[ad]at I;have kg:(D.alloc (.cells #[] 105)).cell? ⟨w.heap.size,1,none⟩=some (.slice fa st.files.length fc):=(((Below.refl D.heap.size D).alloc (QM _) _).cell (by show w.heap.size<_;exact AE H.out.a)).trans kf;have X:Below D.heap.size D (D.alloc (.cells #[] 105)):=(Below.refl _ _).alloc (QM _) _;have aJ:=QA X;have aU:=QA (I.below X);have ap:Hid (A5 (D.alloc (.cells #[] 105)) D.heap.size (.slice (some ⟨D.heap.size,0,none⟩) 0 0) []):=QA (World.ownsRow_lit D #[] 0 (QM _) (by unfold maxLen;omega) rfl);have aZ:Hid (([]:List (List UInt8×Nat)).length+st.files.length≤1000000000):=QA (by simp;omega);have aw:Hid (D.heap.size≤(D.alloc (.cells #[] 105)).heap.size):=QA (by simp);have aN:Hid (st.files.length+([([],0)]:List (List UInt8×Nat)).length≤1000000000):=QA (by simp;omega);clear X ab I ad;go_wp2_with (first|(refine AB rfl _ _ rfl _ A V1 H.out.one _ rfl rfl rfl H3.out.a ?_;rw[ao.out])|(at_builtin;refine BE rfl _ _ rfl D.heap.size _ [] rfl ap.out _ st.files rfl aU.out aZ.out aw.out ?_;intro v6 w6 hown hgrow;rw[List.nil_append]at hown;have o:=below_grown aJ.out aw.out ap.out hgrow;have be:=QA o;have bk:=QA hown;obtain⟨x6,y6,aI⟩:=AY.form hown.row;subst aI;have bi:w6.cell? ⟨w.heap.size,1,none⟩=some (.slice fa st.files.length fc):=(o.cell (AE H.out.a)).trans kf;have W:=o.alloc (QQ (QM _) o.size) (.cells #[.string ⟨#[]⟩,.int .i64 0] 105);have aV:=QA W;have av:=QA (A5.keepOff hown (λg _ hg=>Lib.alloc_old w6 (.cells #[.string ⟨#[]⟩,.int .i64 0] 105) g hg));have a0:=QA (IR (AH w6 (.cells #[.string ⟨#[]⟩,.int .i64 0] 105)));have U:=QA W.size;clear hown hgrow o W)|(at_builtin;refine BE rfl _ _ rfl D.heap.size _ st.files rfl av.out _ [([],0)] rfl a0.out aN.out U.out ?_;intro v8 w8 hown hgrow;have N:=below_grown aV.out U.out av.out hgrow;have bf:=QA N;have bg:=QA hown;obtain⟨x8,y8,ar⟩:=AY.form hown.row;rw[List.length_append,List.length_cons,List.length_nil,Nat.zero_add]at ar;subst ar;have k8:w8.cell? ⟨w.heap.size,1,none⟩=some (.slice fa st.files.length fc):=(N.cell (AE H.out.a)).trans kf;have g8:w8.frozen? ⟨w.heap.size,1,none⟩=false:=AC (H.out.below N).a 1;have H9:=QA (H.out.files N hown);have k9:(w8.setCell ⟨w.heap.size,1,none⟩ (.slice x8 (st.files.length+1) y8)).cell? ⟨w.heap.size,1,none⟩=some (.slice x8 (st.files.length+1) y8):=AA H9.out.a 1 _ rfl;clear hown hgrow N)|(refine AD rfl _ rfl _ _ _ rfl H9.out.a ?_)|fail);obtain⟨L,C⟩:∃q:Fs.St,q={ A with files:=st.files++[([],0)] }:=⟨_,rfl⟩
 obtain⟨V2,am⟩:∃q:RV,q={ V1 with fv:=.slice x8 (st.files.length+1) y8 }:=⟨_,rfl⟩
 have M:=H9;rw[← C,← am]at M ⊢;have ay:L.dir=A.dir:=by rw[C]
 have Z:L.changes=A.changes:=by rw[C]
 obtain⟨R,au⟩:∃q,q=w8.setCell ⟨w.heap.size,1,none⟩ (.slice x8 (st.files.length+1) y8):=⟨_,rfl⟩
 rw[← au]at M ⊢;have ax:w8.heap.size=R.heap.size:=by rw[au];simp[World.setCell]
 rw[ax];have P:Below R.heap.size R (R.alloc (.cells #[.string s,.int .i64 (st.files.length:Nat)] 95)):=(Below.refl _ _).alloc (QM _) _;have aa:=M.out.below P;have J:(R.alloc (.cells #[.string s,.int .i64 (st.files.length:Nat)] 95)).heap[R.heap.size]?=some (.cells (AP [(s.data.toList,(st.files.length:Int))]).toArray 95 (0,0)):=AH R _;have aq:=DW L V2 (.slice (some ⟨R.heap.size,0,none⟩) 1 1) [(s.data.toList,(st.files.length:Int))] _ aa.rf (BR J) (by simp) (by simp) (by rw[ay,T.out];exact HO.out.dir) (by rw[Z,Q.out];exact HO.out.chg) (λp hp=>by
  obtain rfl:=List.mem_singleton.1 hp;show s.data.toList.length≤1000000
  simpa using hsz)
 have hR:Fs.create st s.data.toList=(Fs.turned L [(s.data.toList,(st.files.length:Int))],0):=by
  unfold Fs.create;rw[← K.out,if_neg (by simp),if_neg HM.out,if_neg ak.out,← HE.out,if_neg (by simp),C,← T.out,← Q.out];rfl
 have O:=QA hR;have H5:=QA aa;have aA:=QA J;have aM:=QA M.out.s;clear P aa J hR C am H9 M ay Z ax;refine aq.mono ?_;rintro e w11 ⟨o,V6,rfl,hl6⟩;have h6:=H5.out.below o;have S:V6.one:=(hl6 w11 (QM _) (λ_ _ _=>rfl) ⟨h6.rf,Ab.below (BR aA.out) o⟩).one;have H6:=QA h6;have aP:=QA hl6;have ah:=QA o;have aS:=QA S;clear o hl6 h6 S aq;go_wp2_with (first|(refine AB rfl _ _ rfl _ (Fs.turned L [(s.data.toList,(st.files.length:Int))]) V6 aS.out fs0 rfl rfl rfl H6.out.b ?_)|fail);rw[O.out];exact H5.out.turned aM.out aA.out ah.out aP.out Tryz.results21 0 rfl rfl rfl
open Go.Maps Go.WideMaps
def rv0:RV:=⟨.slice none 0 0,.slice none 0 0,.slice none 0 0,.slice none 0 0,.slice none 0 0,[]⟩
theorem JY (w:World) (room:Int):RF w (Fs.new room) rv0 :=
 ⟨AY.nil _ _,AY.nil _ _,AY.nil _ _,⟨AY.nil _ _,λi x y hx=>by simp[rv0]at hx⟩,AY.nil _ _⟩
theorem Iq (room:Int) (w:World) (h1:1≤room) (h2:room≤1048576) :
  Calls Tryz.prog 6 #[.int .i64 room] w λe w'=>e=.returned (.tuple #[.agg (AG (Fs.new room) rv0),.int .i64 0])∧Below w.heap.size w w':=by
 have o:Below w.heap.size w (w.alloc (.cells (AG (Fs.new room) rv0) 33)):=(Below.refl _ _).alloc (QM _) _;have A:A9 (w.alloc (.cells (AG (Fs.new room) rv0) 33)) w.heap.size (Fs.new room) rv0:=AH _ _;have E:decide (room<1)=false:=decide_eq_false (by omega);have D:decide (1048576<room)=false:=decide_eq_false (by omega);have C:=QA A;have B:=QA o;clear h1 h2 A o;go_enter Tryz.func6,Tryz.ntmps6;go_wp2_with fail;exact FF Tryz.results6 w.heap.size (Fs.new room) rv0 0 rfl rfl rfl C.out ⟨rfl,B.out⟩
end Go.Proofs.YtmlekglfdiacpaaGreatDoor
