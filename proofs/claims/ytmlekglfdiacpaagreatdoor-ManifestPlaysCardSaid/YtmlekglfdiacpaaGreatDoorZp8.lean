/-
  The document's file system: a directory change, walked. The document's file system: a file told anew, walked. The document's file system: Used, walked. Frames: Decode, walked.
-/
import Derived.Test.YtmlekglfdiacpaaGreatDoorZp7
import Derived.Test.YtmlekglfdiacpaaGreatDoorZp5
import Derived.Test.YtmlekglfdiacpaaGreatDoorZp2
import Derived.Test.YtmlekglfdiacpaaGreatDoorZp6
import Derived.Deep.RegionHeld3
open Array renaming getInternal_eq_getElem → QD
open Go.Lib renaming hid → QA
open List renaming setIfInBounds_toArray → QC, drop_succ_cons → QE, take_succ_cons → QF, set_cons_succ → QG, set_cons_zero → QH, getElem_cons_zero → QI, getElem_cons_succ → QJ, getElem_toArray → QK, drop_zero → QL, take_zero → QN, length_append → QS, mem_of_getElem? → QZ, getElem?_eq_getElem → ZG, getElem?_append_left → ZL, nil_append → ZN
open Nat renaming le_refl → QM
namespace Go.Proofs.YtmlekglfdiacpaaGreatDoor
set_option maxRecDepth 100000
set_option maxHeartbeats 4000000
set_option linter.unusedSimpArgs false
set_option linter.unusedVariables false
open Go Go.RowKit
open Go.Maps Go.WideMaps
theorem IJ:(Tryz.prog.info? 29).map (λi=>(i.zero,i.size,i.bytes))=some (some (.slice none 0 0),1,24):=by kernel_rfl
theorem Cn {ops:Array Oper} {rest:List Oper} {o:Oper} {a:Act} {w:World} {Q:Exit→Act→World→Prop} (hgd:o.guard=none) (s x:Operand)
  (ho:o.op=.call { callee:=.builtin .append,args:=#[s,x],argTypes:=#[30,30] })
  (base:Nat) (v:Value) (n:Nat) (xs:List Value) (hs:a.eval s=v) (hown:w.ownsRow base 29 1 v n xs) (xv:Value) (m:Nat) (ys:List Value) (hx:a.eval x=xv) (hB:AY w xv 1 m ys) (h1:∀u∈ys,u.oneCell'=true)
  (h63:n+m≤1000000000) (hbase:base≤w.heap.size)
  (h:∀v' w',w'.ownsRow base 29 1 v' (n+m) (xs++ys)→w.grownBy w' v.ownBlock→wpList Tryz.prog ops Q rest (a.put o.dst v') w') :
  wpList Tryz.prog ops Q (o::rest) a w:=by
 obtain⟨H,G,D,C,F⟩:=info_parts IJ;have E:=hB;obtain⟨K,J,rfl,I,B,A,_⟩:=hB;cases K with
 | none =>
  have h0:m=0:=by have:=B rfl;omega
  subst h0;rw[B rfl]at hx;obtain rfl:ys=[]:=List.eq_nil_of_length_eq_zero (by simpa using A);refine wpList_append_own_none hgd s x _ ho base 29 H 1 Tryz.underlying30 G v _ _ hs hown hx ?_;exact h v w (by rw[List.append_nil];exact hown) ⟨rfl,rfl,rfl,QM _,λ_ _ _=>rfl⟩
 | some ad =>
  refine wpList_append_own_at w hgd s x _ ho base 29 H (.slice none 0 0) 1 24 Tryz.underlying30 G D C F rfl (by decide) v n xs hs hown ad m J ys hx A E.src h1 (by unfold maxLen;omega) (by omega) hbase ?_;intro v' w' g1 g2 _ _;exact h v' w' g1 g2
theorem Gy {w:World} {v:Value} {l:Fs.Names} (h:Ab w v l):v.oneCell'=true:=by
 obtain⟨a,c,rfl⟩:=AY.form h;rfl
theorem I4 {w:World} {vs:List Value} {l:List Fs.Names} (hl:vs.length=l.length) (h:∀(i:Nat) x y,vs[i]?=some x→l[i]?=some y→Ab w x y):∀u∈vs,u.oneCell'=true:=λu hu=>by
 obtain⟨i,o⟩:=List.getElem?_of_mem hu;have A:=(List.getElem?_eq_some_iff.1 o).1;exact Gy (h i u _ o (ZG (by omega)))
def C5 (w:World) (g:Nat) (x0 x1 x2 x3 x4 x5 x6 x7:Value):World:=(((((((w.setCell ⟨g,0,none⟩ x0).setCell ⟨g,1,none⟩ x1).setCell ⟨g,2,none⟩ x2).setCell ⟨g,3,none⟩ x3).setCell ⟨g,4,none⟩ x4).setCell ⟨g,5,none⟩ x5).setCell ⟨g,6,none⟩ x6).setCell ⟨g,7,none⟩ x7
theorem EE (w:World) (g:Nat) (x0 x1 x2 x3 x4 x5 x6 x7:Value) {k:Nat} (hk:k≠g):(C5 w g x0 x1 x2 x3 x4 x5 x6 x7).heap[k]?=w.heap[k]?:=by
 unfold C5;rw[Below.heap_setCell _ _ _ _ hk,Below.heap_setCell _ _ _ _ hk,Below.heap_setCell _ _ _ _ hk,Below.heap_setCell _ _ _ _ hk,Below.heap_setCell _ _ _ _ hk,Below.heap_setCell _ _ _ _ hk,Below.heap_setCell _ _ _ _ hk,Below.heap_setCell _ _ _ _ hk]
theorem Cj {n g:Nat} {w0 w:World} (h:Below n w0 w) (hg:n≤g) (x0 x1 x2 x3 x4 x5 x6 x7:Value):Below n w0 (C5 w g x0 x1 x2 x3 x4 x5 x6 x7) :=
 ((((((((h.setCell (p:=⟨g,0,none⟩) hg x0).setCell (p:=⟨g,1,none⟩) hg x1).setCell (p:=⟨g,2,none⟩) hg x2).setCell (p:=⟨g,3,none⟩) hg x3).setCell (p:=⟨g,4,none⟩) hg x4).setCell (p:=⟨g,5,none⟩) hg x5).setCell (p:=⟨g,6,none⟩) hg x6).setCell (p:=⟨g,7,none⟩) hg x7)
theorem Ex (w:World) (g:Nat) (x0 x1 x2 x3 x4 x5 x6 x7:Value):(C5 w g x0 x1 x2 x3 x4 x5 x6 x7).heap.size=w.heap.size:=by simp[C5,World.setCell]
theorem Gp {Q:Ending→World→Prop} {a:Act} {W:World} (g:Nat) (st:Fs.St) (V:RV) (h4:a.tmps[4]?=some (.pointer (some ⟨g,0,none⟩))) (hd:a.defers=[])
  (hW:W.heap[g]?=some (.cells (AG st V) 33 (0,0))) (hQ:Q (.returned (.agg (AG st V))) W):bodyPost Tryz.prog Tryz.f67 Q .ret a W:=by
 have B:W.cell? ⟨g,0,none⟩=some (.int .i64 st.room):=AA hW 0 _ rfl;have C:W.cell? ⟨g,1,none⟩=some V.fv:=AA hW 1 _ rfl;have D:W.cell? ⟨g,2,none⟩=some V.dv:=AA hW 2 _ rfl;have o:W.cell? ⟨g,3,none⟩=some V.sv:=AA hW 3 _ rfl;have G:W.cell? ⟨g,4,none⟩=some V.cv:=AA hW 4 _ rfl;have E:W.cell? ⟨g,5,none⟩=some (.int .i64 st.steps):=AA hW 5 _ rfl;have A:W.cell? ⟨g,6,none⟩=some (.int .i64 st.left):=AA hW 6 _ rfl;have F:W.cell? ⟨g,7,none⟩=some V.pv:=AA hW 7 _ rfl;exact bodyPost_ret (v:=.agg (AG st V)) (by simp[results,Tryz.results67,go_sem,h4,B,C,D,o,G,E,A,F,AG]) hd hQ
def JR (st:Fs.St) (V:RV) (lv:Value) (l:Fs.Names) (w:World) (e:Ending) (w':World):Prop :=
 Below w.heap.size w w'∧∃V',e=.returned (.agg (AG (Fs.turned st l) V'))∧Bz w w' (λw0=>RF w0 st V∧Ab w0 lv l) (λw0=>RF w0 (Fs.turned st l) V')
theorem Hn (st:Fs.St) (l:Fs.Names) (w:World) {wr w6:World} {a:Act} {D:Fs.Names} {fa va ua ga a6 pa la da:Option Addr} {fc vc uc gc c6 pc lc dc:Nat} {vs:List Value} {o:Obj} (hbr:Below w.heap.size w wr) (hb6:Below wr.heap.size wr w6) (hsz:wr.heap[w.heap.size+1]?=some o)
  (hdv:Ay wr (w.heap.size+2) (.slice va D.length vc) D) (hD:D=Fs.doAll st.dir l) (hv:vs.length=st.changes.length)
  (ho:w6.ownsRow wr.heap.size 29 1 (.slice a6 (st.changes.length+1) c6) (st.changes.length+1) (vs++[.slice la l.length lc]))
  (h4:a.tmps[4]?=some (.pointer (some ⟨w.heap.size+1,0,none⟩))) (hd:a.defers=[])
  (hW:(C5 (w6.setCell ⟨w.heap.size,4,none⟩ (.slice a6 (st.changes.length+1) c6)) (w.heap.size+1) (.int .i64 st.room) (.slice fa st.files.length fc) (.slice va D.length vc) (.slice ua st.sure.length uc) (.slice a6 (st.changes.length+1) c6) (.int .i64 st.steps) (.int .i64 st.left) (.slice pa st.plan.length pc)).heap[w.heap.size+1]?=some (.cells (AG (Fs.turned st l) ⟨.slice fa st.files.length fc,.slice va D.length vc,.slice ua st.sure.length uc,.slice a6 (st.changes.length+1) c6,.slice pa st.plan.length pc,vs++[.slice la l.length lc]⟩) 33 (0,0))) :
  bodyPost Tryz.prog Tryz.f67 (JR st ⟨.slice fa st.files.length fc,.slice da st.dir.length dc,.slice ua st.sure.length uc,.slice ga st.changes.length gc,.slice pa st.plan.length pc,vs⟩ (.slice la l.length lc) l w) .ret a (C5 (w6.setCell ⟨w.heap.size,4,none⟩ (.slice a6 (st.changes.length+1) c6)) (w.heap.size+1) (.int .i64 st.room) (.slice fa st.files.length fc) (.slice va D.length vc) (.slice ua st.sure.length uc) (.slice a6 (st.changes.length+1) c6) (.int .i64 st.steps) (.int .i64 st.left) (.slice pa st.plan.length pc)):=by
 have J:w.heap.size+1<wr.heap.size:=AE hsz;have F:Below w.heap.size w w6:=hbr.trans (hb6.mono (by omega))
 generalize hWe:C5 (w6.setCell ⟨w.heap.size,4,none⟩ (.slice a6 (st.changes.length+1) c6)) (w.heap.size+1) (.int .i64 st.room) (.slice fa st.files.length fc) (.slice va D.length vc) (.slice ua st.sure.length uc) (.slice a6 (st.changes.length+1) c6) (.int .i64 st.steps) (.int .i64 st.left) (.slice pa st.plan.length pc)=W at hW ⊢
 have hb:Below w.heap.size w W:=by rw[← hWe];exact Cj (F.setCell (p:=⟨w.heap.size,4,none⟩) (QM _) _) (by omega) _ _ _ _ _ _ _ _
 have A:∀g,g≠w.heap.size→g≠w.heap.size+1→W.heap[g]?=w6.heap[g]?:=λg C h2=>by rw[← hWe,EE _ _ _ _ _ _ _ _ _ _ h2];exact Below.heap_setCell _ _ _ _ C
 have I:w6.heap.size=W.heap.size:=by rw[← hWe,Ex];simp[World.setCell]
 have H:=hb6.size;refine Gp (w.heap.size+1) (Fs.turned st l) ⟨.slice fa st.files.length fc,.slice va D.length vc,.slice ua st.sure.length uc,.slice a6 (st.changes.length+1) c6,.slice pa st.plan.length pc,vs++[.slice la l.length lc]⟩ h4 hd hW ⟨hb,_,rfl,?_⟩;intro w0 hs0 hk0 h0;obtain⟨h0,E⟩:=h0;have B:=AY.of_own (AQ (w':=w0) ho λg hg=>by
  have C:=World.ownsRow.lt ho g hg;exact (hk0 g (by omega) (by omega)).trans (A g (by omega) (by omega))) (by rw[QS,hv];simp)
 refine⟨h0.files,?_,h0.sure,⟨?_,?_⟩,h0.plan⟩
 ·show Ab w0 _ (Fs.doAll st.dir l);rw[← hD];exact Ay.names (base:=w.heap.size+2) (AQ hdv λg hg=>by
   have C:=World.ownsRow.lt hdv g hg;exact (hk0 g (by omega) (by omega)).trans ((A g (by omega) (by omega)).trans (hb6.block g C.2)))
 ·rw[show (Fs.turned st l).changes.length=st.changes.length+1 by unfold Fs.turned;simp];exact B
 ·intro i x y hx hy;rw[show (Fs.turned st l).changes=st.changes++[l] from rfl]at hy;simp only at hx;by_cases hi:i<st.changes.length
  ·rw[ZL (by omega)]at hx;rw[ZL hi]at hy;exact h0.chg.2 i x y hx hy
  ·have G:i=st.changes.length:=by
    have:=(List.getElem?_eq_some_iff.1 hy).1;rw[QS,List.length_singleton]at this;omega
   subst G;rw[← hv,List.getElem?_concat_length]at hx;rw[List.getElem?_concat_length]at hy;cases hx;cases hy;exact E
theorem DW (st:Fs.St) (V:RV) (lv:Value) (l:Fs.Names) (w:World) (h:RF w st V) (hL:Ab w lv l) (hl:l.length≤2) (hne:0<l.length) (hd:st.dir.length≤900000) (hc:st.changes.length≤900000) (hn:∀p∈l,p.1.length≤1000000) :
  Calls Tryz.prog 67 #[.agg (AG st V),lv] w (JR st V lv l w):=by
 obtain⟨T,fc,da,dc,U,Y,ga,gc,Z,W,vs,rfl⟩:=h.forms;obtain⟨la,lc,rfl⟩:=AY.form hL;have H:=QA h;have HL:=QA hL;have HN:=QA hn;clear h hL hn;unfold AG;go_enter Tryz.func67,Tryz.ntmps67;go_wp2_with fail;have aB:Below w.heap.size w ((w.alloc (.cells #[.int .i64 st.room,.slice T st.files.length fc,.slice da st.dir.length dc,.slice U st.sure.length Y,.slice ga st.changes.length gc,.int .i64 st.steps,.int .i64 st.left,.slice Z st.plan.length W] 33)).alloc (.cells #[.int .i64 0,.slice none 0 0,.slice none 0 0,.slice none 0 0,.slice none 0 0,.int .i64 0,.int .i64 0,.slice none 0 0] 33)):=((Below.refl _ _).alloc (QM _) _).alloc (by simp) _;have ac:=AH (w.alloc (.cells #[.int .i64 st.room,.slice T st.files.length fc,.slice da st.dir.length dc,.slice U st.sure.length Y,.slice ga st.changes.length gc,.int .i64 st.steps,.int .i64 st.left,.slice Z st.plan.length W] 33)) (.cells #[.int .i64 0,.slice none 0 0,.slice none 0 0,.slice none 0 0,.slice none 0 0,.int .i64 0,.int .i64 0,.slice none 0 0] 33);rw[show (w.alloc (.cells #[.int .i64 st.room,.slice T st.files.length fc,.slice da st.dir.length dc,.slice U st.sure.length Y,.slice ga st.changes.length gc,.int .i64 st.steps,.int .i64 st.left,.slice Z st.plan.length W] 33)).heap.size=w.heap.size+1 by simp]at ac;have aF:=(Lib.alloc_old (w.alloc (.cells #[.int .i64 st.room,.slice T st.files.length fc,.slice da st.dir.length dc,.slice U st.sure.length Y,.slice ga st.changes.length gc,.int .i64 st.steps,.int .i64 st.left,.slice Z st.plan.length W] 33)) (.cells #[.int .i64 0,.slice none 0 0,.slice none 0 0,.slice none 0 0,.slice none 0 0,.int .i64 0,.int .i64 0,.slice none 0 0] 33) _ (show w.heap.size<_ by simp)).trans (AH w (.cells #[.int .i64 st.room,.slice T st.files.length fc,.slice da st.dir.length dc,.slice U st.sure.length Y,.slice ga st.changes.length gc,.int .i64 st.steps,.int .i64 st.left,.slice Z st.plan.length W] 33));have ao:=QA aB;have aC:=QA ac;have an:=QA aF;clear aB ac aF
 go_loopg [5,8] l.length (λk s5 s8 wq=>∃(i:Nat) (D:Fs.Names) (dv:Value),i≤l.length∧k=l.length-i∧s8=.int .i64 (i:Nat)∧D=Fs.doAll st.dir (l.take i)∧D.length≤st.dir.length+i∧Ab wq dv D∧(i=0∨Ay wq (w.heap.size+2) dv D)∧Below w.heap.size w wq ∧
  wq.heap[w.heap.size]?=some (.cells #[.int .i64 st.room,.slice T st.files.length fc,dv,.slice U st.sure.length Y,.slice ga st.changes.length gc,.int .i64 st.steps,.int .i64 st.left,.slice Z st.plan.length W] 33 (0,0)) ∧
  wq.heap[w.heap.size+1]?=some (.cells #[.int .i64 0,.slice none 0 0,.slice none 0 0,.slice none 0 0,.slice none 0 0,.int .i64 0,.int .i64 0,.slice none 0 0] 33 (0,0)))
 case atStart=>exact⟨0,st.dir,_,Nat.zero_le _,rfl,rfl,rfl,QM _,(H.out.below ao.out).dir,.inl rfl,ao.out,an.out,aC.out⟩
 case round =>
  obtain⟨i,D,dv,hi,hk,rfl,hD,bd,af,aI,ap,hA,hB⟩:=hrel;obtain⟨va,vc,rfl⟩:=AY.form af;have HK:=QA hk;have HD:=QA hD;have aR:=QA af;have a3:=QA aI;have Q:=QA ap;have HA:=QA hA;have HB:=QA hB;have aq:(0:Int)≤(i:Int):=Int.natCast_nonneg _;clear hk hD af aI ap hB;by_cases hin:i<l.length
  ·have ar:(i:Int)<(l.length:Int):=by omega
   obtain⟨p,hp⟩:∃p,l[i]?=some p:=⟨_,ZG hin⟩
   obtain⟨b,o,rfl,hb,e0,e1⟩:=(HL.out.below Q.out).at2 hp;have aW:=HN.out p (QZ hp);have y2:=AA hA 2 _ rfl;have HT:Hid (Fs.doAll st.dir (l.take (i+1))=Fs.doOne D p):=by
    rw[List.take_add_one,hp,HD.out];unfold Fs.doAll;rw[List.foldl_append];exact QA rfl
   clear hA hp;go_wp2_with fail;refine AK (λw'=>w'.cell? ⟨w.heap.size,2,none⟩=some (.slice va D.length vc)∧w'.cell? ⟨b,o+i*2,none⟩=some (.string ⟨p.1.toArray⟩)∧w'.cell? ⟨b,o+i*2+1,none⟩=some (.int .i64 p.2)) 8 (by kernel_rfl) ?_;have L:wr.drew.cell? ⟨w.heap.size,2,none⟩=some (.slice va D.length vc)∧wr.drew.cell? ⟨b,o+i*2,none⟩=some (.string ⟨p.1.toArray⟩)∧wr.drew.cell? ⟨b,o+i*2+1,none⟩=some (.int .i64 p.2):=⟨y2,e0,e1⟩
   refine TK (i:=0) (v:=(.pointer (some ⟨w.heap.size,2,none⟩))) rfl (Or.inl ⟨by rfl,λw hSw=>by go_simp⟩) L ?_;simp only[Act.put,QD,QK,QI,QJ,QC,QH,QG];refine TK (i:=1) (v:=(.slice va D.length vc)) rfl (Or.inl ⟨by rfl,λw hSw=>by go_simp⟩) L ?_;simp only[Act.put,QD,QK,QI,QJ,QC,QH,QG];refine TK (i:=2) (v:=(.slice (some ⟨b,o,none⟩) l.length lc)) rfl (Or.inl ⟨by rfl,λw hSw=>by go_simp⟩) L ?_;simp only[Act.put,QD,QK,QI,QJ,QC,QH,QG];refine TK (i:=3) (v:=(.int .i64 (i:Nat))) rfl (Or.inl ⟨by rfl,λw hSw=>by go_simp⟩) L ?_;simp only[Act.put,QD,QK,QI,QJ,QC,QH,QG];refine TK (i:=4) (v:=(.pointer (some ⟨b,o+i*2,none⟩))) rfl (Or.inl ⟨by rfl,λw hSw=>by go_simp⟩) L ?_;simp only[Act.put,QD,QK,QI,QJ,QC,QH,QG];refine TK (i:=5) (v:=(.agg #[.string ⟨p.1.toArray⟩,.int .i64 p.2])) rfl (Or.inl ⟨by rfl,λw hSw=>by go_simp⟩) L ?_;simp only[Act.put,QD,QK,QI,QJ,QC,QH,QG];refine TO (i:=6) ?_;refine AF (by decide) (λK5 HK5=>?_);simp only[QE,QL,QF,QN];go_wp2_with fail;have ad:Below wr.heap.size wr wr.drew:=Below.drew (Below.refl _ _);have aD:D.length≤1000000:=by omega
   refine (Em _ D p wr.drew (aR.out.below ad) aD aW).mono ?_;rintro e w5 ⟨v',rfl,hown,hb5⟩;obtain⟨az,aH,aG,rfl,ax⟩:=Ay.form3 hown;have ah:w.heap.size+1<wr.heap.size:=AE HB.out;have A:Hid (Below wr.heap.size wr w5):=QA (ad.trans hb5);have O:Hid (w5.heap[w.heap.size]?=some (.cells #[.int .i64 st.room,.slice T st.files.length fc,.slice va D.length vc,.slice U st.sure.length Y,.slice ga st.changes.length gc,.int .i64 st.steps,.int .i64 st.left,.slice Z st.plan.length W] 33 (0,0))):=QA ((A.out.block _ (by omega)).trans HA.out);have C:Hid (Ay (w5.setCell ⟨w.heap.size,2,none⟩ (.slice az aH aG)) wr.heap.size (.slice az aH aG) (Fs.doOne D p)):=QA (AQ hown (λg hg=>Below.heap_setCell _ _ _ _ (λe=>by have h1:=(World.ownsRow.lt hown g hg).1;have h2:wr.heap.size≤g:=h1;simp only at e;omega)));have aA:w5.cell? ⟨w.heap.size,2,none⟩=some (.slice va D.length vc)∧w5.cell? ⟨b,o+i*2,none⟩=some (.string ⟨p.1.toArray⟩)∧w5.cell? ⟨b,o+i*2+1,none⟩=some (.int .i64 p.2):=⟨AA O.out 2 _ rfl,by rw[A.out.cell (AN e0)];exact e0,by rw[A.out.cell (AN e1)];exact e1⟩
   clear hown hb5 ad L;have L:=aA;clear aA;have aQ:=AA O.out 2 _ rfl;have f2:=AC O.out 2;go_wp2_with fail;refine HK5.out _ _ ⟨λ_=>L,?_⟩;clear HK5;refine TK (i:=7) (v:=(.pointer (some ⟨w.heap.size,2,none⟩))) rfl (Or.inl ⟨by rfl,λw hSw=>by go_simp⟩) L ?_;simp only[Act.put,QD,QK,QI,QJ,QC,QH,QG];refine TO (i:=8) ?_;refine AF (by decide) (λK6 HK6=>?_);simp only[QE,QL,QF,QN];go_wp2_with fail;refine HK6.out _ _ ⟨λh=>absurd h (by decide),?_⟩;clear HK6;refine AM (by kernel_rfl) ?_ _;clear L y2 e0 e1 aQ f2;go_wp2_with fail;go_roundg (l.length-(i+1))
   case measure=>rw[HK.out];omega
   case rel =>
    have bk:=Fs.doOne_len D p;exact⟨i+1,Fs.doOne D p,_,by omega,rfl,by simp,HT.out.symm,by omega,by rw[ax.out]at C ⊢;exact C.out.names,by rw[ax.out]at C ⊢;exact .inr (Ay.mono C.out (by omega)),(Q.out.trans (A.out.mono (by omega))).setCell (p:=⟨w.heap.size,2,none⟩) (QM _) _,heap_set O.out _,by rw[Below.heap_setCell _ _ _ _ (by simp)];exact (A.out.block _ ah).trans HB.out⟩
  ·have ar:(l.length:Int)≤(i:Int):=by omega
   obtain rfl:i=l.length:=by omega
   have bl:Hid (0<l.length):=QA hne;have aS:Hid (D=Fs.doAll st.dir l):=by rw[HD.out,List.take_length];exact QA rfl
   obtain⟨I,aj⟩:=H.out.chg;simp only at I aj;have ae:vs.length=st.changes.length:=by have:=I;obtain⟨_,_,_,_,_,h,_⟩:=this;rw[h,Nat.mul_one]
   have a1:=QA (I4 ae aj);have M:Below wr.heap.size wr (wr.alloc (.cells #[] 29)):=(Below.refl _ _).alloc (QM _) _;have av:=QA ((I.below Q.out).below M);have aO:=QA ae;have a0:=QA M;have X:Hid ((wr.alloc (.cells #[] 29)).ownsRow wr.heap.size 29 1 (.slice (some ⟨wr.heap.size,0,none⟩) 0 0) 0 []):=QA (World.ownsRow_lit wr #[] 0 (QM _) (by unfold maxLen;omega) rfl);have a2:Hid (0+st.changes.length≤1000000000):=QA (by omega);have ah:w.heap.size+1<wr.heap.size:=AE HB.out;have HA:=QA hA;have aE:(wr.alloc (.cells #[] 29)).heap[w.heap.size]?=_:=(M.block _ (by omega)).trans hA;have z4:=AA aE 4 _ rfl;obtain⟨i0,aq,aX,aT,aP⟩:=info_parts IJ;clear I aj M hA ae aE;go_wp2_with (first
    | (at_builtin;refine Cn rfl _ _ rfl wr.heap.size _ 0 [] rfl X.out _ _ vs rfl av.out a1.out a2.out (by simp) ?_;intro v' w5 hown hgrow;rw[Nat.zero_add,ZN]at hown;obtain⟨a5,c5,aY⟩:=BV hown;subst aY;have A:=QA (below_grown a0.out (by simp) X.out hgrow);have C:=QA hown;clear hown hgrow)
    | (at_builtin;refine wpList_append_own_at _ rfl _ _ 30 rfl wr.heap.size 29 i0 (.slice none 0 0) 1 24 Tryz.underlying30 aq aX aT aP rfl (by decide) (.slice a5 st.changes.length c5) st.changes.length vs rfl (World.ownsRow.alloc C.out _) ⟨w5.heap.size,0,none⟩ 1 1 [.slice la l.length lc] rfl rfl (cell_one_new _ _ _) (λu hu=>by simp at hu;subst hu;rfl) (by unfold maxLen;omega) (by omega) (by have:=A.out.size;simp;omega) ?_;intro v' w6 hown hgrow _ _;obtain⟨a6,c6,aN⟩:=BV hown;subst aN;have ab:=QA (below_grown (A.out.alloc (by have:=A.out.size;omega) _) (by have:=A.out.size;simp;omega) (World.ownsRow.alloc C.out _) hgrow);have aZ:=QA hown;clear hown hgrow;have N:=(ab.out.block _ (show w.heap.size<wr.heap.size by omega)).trans HA.out;have x4:=AA N 4 _ rfl;have f4:=AC N 4;have B:=heap_set (k:=4) N (.slice a6 (st.changes.length+1) c6);have q0:=AA B 0 _ rfl;have q1:=AA B 1 _ rfl;have q2:=AA B 2 _ rfl;have q3:=AA B 3 _ rfl;have q4:=AA B 4 _ rfl;have q5:=AA B 5 _ rfl;have q6:=AA B 6 _ rfl;have q7:=AA B 7 _ rfl;have bj:=QA B;have R:(w6.setCell ⟨w.heap.size,4,none⟩ (.slice a6 (st.changes.length+1) c6)).heap[w.heap.size+1]?=_:=(Below.heap_setCell _ _ _ _ (by simp)).trans ((ab.out.block _ ah).trans HB.out);have g0:=AA R 0 _ rfl;have k0:=AC R 0;have P:=heap_set (k:=0) R (.int .i64 st.room);have g1:=AA P 1 _ rfl;have k1:=AC P 1;have S:=heap_set (k:=1) P (.slice T st.files.length fc);have g2:=AA S 2 _ rfl;have k2:=AC S 2;have K:=heap_set (k:=2) S (.slice va D.length vc);have g3:=AA K 3 _ rfl;have k3:=AC K 3;have J:=heap_set (k:=3) K (.slice U st.sure.length Y);have g4:=AA J 4 _ rfl;have k4:=AC J 4;have F:=heap_set (k:=4) J (.slice a6 (st.changes.length+1) c6);have g5:=AA F 5 _ rfl;have k5:=AC F 5;have G:=heap_set (k:=5) F (.int .i64 st.steps);have g6:=AA G 6 _ rfl;have k6:=AC G 6;have E:=heap_set (k:=6) G (.int .i64 st.left);have g7:=AA E 7 _ rfl;have k7:=AC E 7;have aJ:=QA (heap_set (k:=7) E (.slice Z st.plan.length W));clear N B R P S K J F G E)
    | fail)
   exact Hn st l w Q.out ab.out HB.out (a3.out.resolve_left (by omega)) aS.out aO.out aZ.out rfl rfl aJ.out
open Go.Maps Go.WideMaps
theorem Is:(Tryz.prog.info? 105).map (λi=>(i.zero,i.size,i.bytes))=some (some (.agg #[.string ⟨#[]⟩,.int .i64 0]),2,24):=by kernel_rfl
theorem Ch (l:List (List UInt8×Nat)):∀u∈AU l,u.oneCell'=true:=λu hu=>by
 unfold AU at hu;obtain⟨c,_,o⟩:=List.mem_flatMap.1 hu;simp at o;rcases o with rfl|rfl<;>rfl
theorem Cf (a b:List (List UInt8×Nat)):AU (a++b)=AU a++AU b:=by unfold AU;rw[List.flatMap_append]
def A5 (w:World) (base:Nat) (v:Value) (l:List (List UInt8×Nat)):Prop:=w.ownsRow base 105 2 v l.length (AU l)
theorem A5.row {w:World} {base:Nat} {v:Value} {l:List (List UInt8×Nat)} (h:A5 w base v l):AY w v 2 l.length (AU l):=AY.of_own h (Ei l)
theorem A5.keepOff {w w':World} {base:Nat} {v:Value} {l:List (List UInt8×Nat)} (h:A5 w base v l) (hk:∀g,base≤g→g<w.heap.size→w'.heap[g]?=w.heap[g]?):A5 w' base v l :=
 AQ h λg hg=>hk g (World.ownsRow.lt h g hg).1 (World.ownsRow.lt h g hg).2
theorem BE {ops:Array Oper} {rest:List Oper} {o:Oper} {a:Act} {w:World} {Q:Exit→Act→World→Prop} (hgd:o.guard=none) (s x:Operand)
  (ho:o.op=.call { callee:=.builtin .append,args:=#[s,x],argTypes:=#[28,28] })
  (base:Nat) (v:Value) (l:List (List UInt8×Nat)) (hs:a.eval s=v) (hown:A5 w base v l) (xv:Value) (k:List (List UInt8×Nat)) (hx:a.eval x=xv) (hB:AY w xv 2 k.length (AU k))
  (h63:l.length+k.length≤1000000000) (hbase:base≤w.heap.size)
  (h:∀v' w',A5 w' base v' (l++k)→w.grownBy w' v.ownBlock→wpList Tryz.prog ops Q rest (a.put o.dst v') w') :
  wpList Tryz.prog ops Q (o::rest) a w:=by
 obtain⟨H,G,D,C,F⟩:=info_parts Is;have E:=hB;obtain⟨K,J,rfl,I,B,A,_⟩:=hB;cases K with
 | none =>
  have h0:k.length=0:=by have:=B rfl;omega
  obtain rfl:=List.length_eq_zero_iff.1 h0;rw[B rfl]at hx;refine wpList_append_own_none hgd s x _ ho base 105 H 2 Tryz.underlying28 G v _ _ hs hown hx ?_;exact h v w (by rw[List.append_nil];exact hown) ⟨rfl,rfl,rfl,QM _,λ_ _ _=>rfl⟩
 | some ad =>
  refine wpList_append_own_at w hgd s x _ ho base 105 H (.agg #[.string ⟨#[]⟩,.int .i64 0]) 2 24 Tryz.underlying28 G D C F rfl (by decide) v l.length (AU l) hs hown ad k.length J (AU k) hx A E.src (Ch k) (by unfold maxLen;omega) (by omega) hbase ?_;intro v' w' g1 g2 _ _;exact h v' w' (by unfold A5;rw[QS,Cf];exact g1) g2
theorem Ed (l:List (List UInt8×Nat)):∀(i:Nat) (f:List UInt8×Nat),((AU l).set (i*2) (.string ⟨f.1.toArray⟩)).set (i*2+1) (.int .i64 (f.2:Nat))=AU (l.set i f):=by
 induction l with
 | nil=>intro i f;rfl
 | cons c l ih =>
  intro i f;cases i with
  | zero=>rfl
  | succ i =>
   rw[show (i+1)*2=i*2+1+1 by omega,show i*2+1+1+1=(i*2+1)+1+1 by omega];have:=ih i f;unfold AU at *;simp only[List.flatMap_cons,List.cons_append,ZN,QG];rw[this]
theorem A5.set {w:World} {base g c:Nat} {l:List (List UInt8×Nat)} (h:A5 w base (.slice (some ⟨g,0,none⟩) l.length c) l) (i:Nat) (f:List UInt8×Nat) :
  A5 ((w.setCell ⟨g,i*2,none⟩ (.string ⟨f.1.toArray⟩)).setCell ⟨g,i*2+1,none⟩ (.int .i64 (f.2:Nat))) base (.slice (some ⟨g,0,none⟩) l.length c) (l.set i f):=by
 have o:=(World.ownsRow.stored (World.ownsRow.stored h (i*2) (.string ⟨f.1.toArray⟩)).1 (i*2+1) (.int .i64 (f.2:Nat))).1;unfold A5;rw[List.length_set,← Ed];exact o
theorem II {w:World} {base:Nat} {v:Value} {l:List (List UInt8×Nat)} (h:A5 w base v l) {i:Nat} (hi:i<l.length):∃g c,v=.slice (some ⟨g,0,none⟩) l.length c∧base≤g∧l.length≤c:=by
 rcases h.2 with⟨_,h2⟩|⟨g,cap,cur,hv,hg,_,hc,_⟩
 ·omega
 ·exact⟨g,cap,hv,hg,hc⟩
theorem JI {w:World} {base g c:Nat} {l:List (List UInt8×Nat)} (h:A5 w base (.slice (some ⟨g,0,none⟩) l.length c) l) {i:Nat} (hi:i<l.length) :
  w.cell? ⟨g,i*2,none⟩=some (.string ⟨(l[i]).1.toArray⟩)∧w.cell? ⟨g,i*2+1,none⟩=some (.int .i64 ((l[i]).2:Nat)):=by
 obtain⟨h0,o⟩:=Ax l i _ (ZG hi);exact⟨(World.ownsRow.cellAt h (i*2) (by omega)).trans h0,(World.ownsRow.cellAt h (i*2+1) (by omega)).trans o⟩
theorem Ig {w:World} {base g c:Nat} {l:List (List UInt8×Nat)} (h:A5 w base (.slice (some ⟨g,0,none⟩) l.length c) l) {i:Nat} (hi:i<l.length) (x:Value) :
  (w.setCell ⟨g,i*2,none⟩ x).cell? ⟨g,i*2+1,none⟩=some (.int .i64 ((l[i]).2:Nat)):=by
 obtain⟨h0,o⟩:=Ax l i _ (ZG hi);rw[World.ownsRow.cellAt (World.ownsRow.stored h (i*2) x).1 (i*2+1) (by omega),List.getElem?_set_ne (by omega)];exact o
theorem IL {Q:Ending→World→Prop} {a:Act} {W:World} (g:Nat) (st:Fs.St) (V:RV) (h6:a.tmps[6]?=some (.pointer (some ⟨g,0,none⟩))) (hd:a.defers=[])
  (hW:W.heap[g]?=some (.cells (AG st V) 33 (0,0))) (hQ:Q (.returned (.agg (AG st V))) W):bodyPost Tryz.prog Tryz.f69 Q .ret a W:=by
 have B:W.cell? ⟨g,0,none⟩=some (.int .i64 st.room):=AA hW 0 _ rfl;have C:W.cell? ⟨g,1,none⟩=some V.fv:=AA hW 1 _ rfl;have D:W.cell? ⟨g,2,none⟩=some V.dv:=AA hW 2 _ rfl;have o:W.cell? ⟨g,3,none⟩=some V.sv:=AA hW 3 _ rfl;have G:W.cell? ⟨g,4,none⟩=some V.cv:=AA hW 4 _ rfl;have E:W.cell? ⟨g,5,none⟩=some (.int .i64 st.steps):=AA hW 5 _ rfl;have A:W.cell? ⟨g,6,none⟩=some (.int .i64 st.left):=AA hW 6 _ rfl;have F:W.cell? ⟨g,7,none⟩=some V.pv:=AA hW 7 _ rfl;exact bodyPost_ret (v:=.agg (AG st V)) (by simp[results,Tryz.results69,go_sem,h6,B,C,D,o,G,E,A,F,AG]) hd hQ
def Jq (st:Fs.St) (V:RV) (i:Nat) (f:List UInt8×Nat) (w:World) (e:Ending) (w':World):Prop :=
 Below w.heap.size w w'∧∃V',e=.returned (.agg (AG { st with files:=st.files.set i f } V'))∧Bz w w' (λw0=>RF w0 st V) (λw0=>RF w0 { st with files:=st.files.set i f } V')
theorem Ij (st:Fs.St) (i:Nat) (f:List UInt8×Nat) (w:World) {W3 w5:World} {a:Act} {s:ByteArray} {fa da ua ga pa:Option Addr} {fc dc uc gc pc g c:Nat} {vs:List Value} (hbw:Below w.heap.size w W3) (hb5:Below (w.heap.size+3) W3 w5) (hg:w.heap.size+3≤g)
  (ho:A5 (((w5.setCell ⟨w.heap.size,1,none⟩ (.slice (some ⟨g,0,none⟩) st.files.length c)).setCell ⟨g,i*2,none⟩ (.string s)).setCell ⟨g,i*2+1,none⟩ (.int .i64 (f.2:Nat))) (w.heap.size+3) (.slice (some ⟨g,0,none⟩) st.files.length c) (st.files.set i f))
  (h6:a.tmps[6]?=some (.pointer (some ⟨w.heap.size+2,0,none⟩))) (hd:a.defers=[])
  (hW:(C5 (((w5.setCell ⟨w.heap.size,1,none⟩ (.slice (some ⟨g,0,none⟩) st.files.length c)).setCell ⟨g,i*2,none⟩ (.string s)).setCell ⟨g,i*2+1,none⟩ (.int .i64 (f.2:Nat))) (w.heap.size+2) (.int .i64 st.room) (.slice (some ⟨g,0,none⟩) st.files.length c) (.slice da st.dir.length dc) (.slice ua st.sure.length uc) (.slice ga st.changes.length gc) (.int .i64 st.steps) (.int .i64 st.left) (.slice pa st.plan.length pc)).heap[w.heap.size+2]?=some (.cells (AG { st with files:=st.files.set i f } ⟨.slice (some ⟨g,0,none⟩) st.files.length c,.slice da st.dir.length dc,.slice ua st.sure.length uc,.slice ga st.changes.length gc,.slice pa st.plan.length pc,vs⟩) 33 (0,0))) :
  bodyPost Tryz.prog Tryz.f69 (Jq st ⟨.slice fa st.files.length fc,.slice da st.dir.length dc,.slice ua st.sure.length uc,.slice ga st.changes.length gc,.slice pa st.plan.length pc,vs⟩ i f w) .ret a (C5 (((w5.setCell ⟨w.heap.size,1,none⟩ (.slice (some ⟨g,0,none⟩) st.files.length c)).setCell ⟨g,i*2,none⟩ (.string s)).setCell ⟨g,i*2+1,none⟩ (.int .i64 (f.2:Nat))) (w.heap.size+2) (.int .i64 st.room) (.slice (some ⟨g,0,none⟩) st.files.length c) (.slice da st.dir.length dc) (.slice ua st.sure.length uc) (.slice ga st.changes.length gc) (.int .i64 st.steps) (.int .i64 st.left) (.slice pa st.plan.length pc)):=by
 have o:Below w.heap.size w w5:=hbw.trans (hb5.mono (by omega));have hb:Below w.heap.size w (C5 (((w5.setCell ⟨w.heap.size,1,none⟩ (.slice (some ⟨g,0,none⟩) st.files.length c)).setCell ⟨g,i*2,none⟩ (.string s)).setCell ⟨g,i*2+1,none⟩ (.int .i64 (f.2:Nat))) (w.heap.size+2) (.int .i64 st.room) (.slice (some ⟨g,0,none⟩) st.files.length c) (.slice da st.dir.length dc) (.slice ua st.sure.length uc) (.slice ga st.changes.length gc) (.int .i64 st.steps) (.int .i64 st.left) (.slice pa st.plan.length pc)):=Cj (((o.setCell (p:=⟨w.heap.size,1,none⟩) (QM _) _).setCell (p:=⟨g,i*2,none⟩) (by show w.heap.size≤g;omega) _).setCell (p:=⟨g,i*2+1,none⟩) (by show w.heap.size≤g;omega) _) (by omega) _ _ _ _ _ _ _ _;have A:=ho.keepOff (w':=C5 (((w5.setCell ⟨w.heap.size,1,none⟩ (.slice (some ⟨g,0,none⟩) st.files.length c)).setCell ⟨g,i*2,none⟩ (.string s)).setCell ⟨g,i*2+1,none⟩ (.int .i64 (f.2:Nat))) (w.heap.size+2) (.int .i64 st.room) (.slice (some ⟨g,0,none⟩) st.files.length c) (.slice da st.dir.length dc) (.slice ua st.sure.length uc) (.slice ga st.changes.length gc) (.int .i64 st.steps) (.int .i64 st.left) (.slice pa st.plan.length pc)) (λk hk _=>EE _ _ _ _ _ _ _ _ _ _ (by omega));refine IL (w.heap.size+2) { st with files:=st.files.set i f } ⟨.slice (some ⟨g,0,none⟩) st.files.length c,.slice da st.dir.length dc,.slice ua st.sure.length uc,.slice ga st.changes.length gc,.slice pa st.plan.length pc,vs⟩ h6 hd hW ⟨hb,_,rfl,?_⟩;intro w0 hs0 hk0 h0;exact⟨(A.keepOff λk h1 h2=>hk0 k (by omega) h2).row,h0.dir,h0.sure,h0.chg,h0.plan⟩
theorem Bw (st:Fs.St) (V:RV) (i:Nat) (f:List UInt8×Nat) (w:World) (h:RF w st V) (hi:i<st.files.length) (hf:st.files.length≤1000000) :
  Calls Tryz.prog 69 #[.agg (AG st V),.int .i64 (i:Nat),.agg #[.string ⟨f.1.toArray⟩,.int .i64 (f.2:Nat)]] w (Jq st V i f w):=by
 obtain⟨fa,fc,da,dc,ua,uc,ga,gc,pa,pc,vs,rfl⟩:=h.forms;obtain⟨s,hs⟩:∃t:ByteArray,t=⟨f.1.toArray⟩:=⟨_,rfl⟩
 have aP:(i:Int)<(st.files.length:Int):=by omega
 have aL:(0:Int)≤(i:Int):=Int.natCast_nonneg _;obtain⟨W1,R⟩:∃W:World,W=w.alloc (.cells #[.int .i64 st.room,.slice fa st.files.length fc,.slice da st.dir.length dc,.slice ua st.sure.length uc,.slice ga st.changes.length gc,.int .i64 st.steps,.int .i64 st.left,.slice pa st.plan.length pc] 33):=⟨_,rfl⟩
 obtain⟨W2,I⟩:∃W:World,W=W1.alloc (.cells #[.string s,.int .i64 (f.2:Nat)] 105):=⟨_,rfl⟩
 obtain⟨S,P⟩:∃W:World,W=W2.alloc (.cells #[.int .i64 0,.slice none 0 0,.slice none 0 0,.slice none 0 0,.slice none 0 0,.int .i64 0,.int .i64 0,.slice none 0 0] 33):=⟨_,rfl⟩
 have s1:W1.heap.size=w.heap.size+1:=by rw[R];simp
 have s2:W2.heap.size=w.heap.size+2:=by rw[I];simp[s1]
 have s3:S.heap.size=w.heap.size+3:=by rw[P];simp[s2]
 have ak:Below w.heap.size w W1:=by rw[R];exact (Below.refl _ _).alloc (QM _) _
 have Y:Below W1.heap.size W1 W2:=by rw[I];exact (Below.refl _ _).alloc (QM _) _
 have N:Below W2.heap.size W2 S:=by rw[P];exact (Below.refl _ _).alloc (QM _) _
 have ab:=AH w (.cells #[.int .i64 st.room,.slice fa st.files.length fc,.slice da st.dir.length dc,.slice ua st.sure.length uc,.slice ga st.changes.length gc,.int .i64 st.steps,.int .i64 st.left,.slice pa st.plan.length pc] 33);rw[← R]at ab;have aa:=AH W1 (.cells #[.string s,.int .i64 (f.2:Nat)] 105);rw[← I,s1]at aa;have ac:=AH W2 (.cells #[.int .i64 0,.slice none 0 0,.slice none 0 0,.slice none 0 0,.slice none 0 0,.int .i64 0,.int .i64 0,.slice none 0 0] 33);rw[← P,s2]at ac;have aC:=QA ac;have aH:=QA ((N.block _ (by omega)).trans aa);have ag:=QA ((N.block _ (by omega)).trans ((Y.block _ (by omega)).trans ab));have al:=QA (ak.trans ((Y.mono (by omega)).trans (N.mono (by omega))));have aN:=QA s3;have Q:Below (w.heap.size+3) S (S.alloc (.cells #[] 105)):=(Below.refl _ _).alloc (by omega) _;have y1:=AA ((Q.block _ (show w.heap.size<w.heap.size+3 by omega)).trans ag.out) 1 _ rfl;have aA:=QA Q;have X:Hid (A5 (S.alloc (.cells #[] 105)) (w.heap.size+3) (.slice (some ⟨S.heap.size,0,none⟩) 0 0) []):=QA (World.ownsRow_lit S #[] 0 (by omega) (by unfold maxLen;omega) rfl);have aq:=QA (h.files.below (al.out.trans (Q.mono (by omega))));have aG:Hid (([]:List (List UInt8×Nat)).length+st.files.length≤1000000000):=QA (by simp;omega);have aj:Hid (w.heap.size+3≤(S.alloc (.cells #[] 105)).heap.size):=QA (by simp[s3]);rw[s3]at X;rw[← hs];have H:=QA h;have HS:=QA hs;clear h hs ak Y N ab aa ac Q s1 s2 s3;subst P I R;unfold AG;go_enter Tryz.func69,Tryz.ntmps69;go_wp2_with (first|(at_builtin;refine BE rfl _ _ rfl (w.heap.size+3) _ [] rfl X.out _ st.files rfl aq.out aG.out aj.out ?_;intro v' w5 hown hgrow;rw[ZN]at hown;have J:=QA (below_grown aA.out aj.out X.out hgrow);obtain⟨B,T,aF,ax,aM⟩:=II hown hi;subst aF;have az:=QA hown;clear hown hgrow;have L:=(J.out.block _ (show w.heap.size<w.heap.size+3 by omega)).trans ag.out;have x1:=AA L 1 _ rfl;have f1:=AC L 1;have U:=heap_set (k:=1) L (.slice (some ⟨B,0,none⟩) st.files.length T);have ai:((w5.setCell ⟨w.heap.size,1,none⟩ (.slice (some ⟨B,0,none⟩) st.files.length T)).setCell ⟨B,i*2,none⟩ (.string s)).heap[w.heap.size]?=_:=(Below.heap_setCell _ _ _ _ (by simp only;omega)).trans U;have o:(((w5.setCell ⟨w.heap.size,1,none⟩ (.slice (some ⟨B,0,none⟩) st.files.length T)).setCell ⟨B,i*2,none⟩ (.string s)).setCell ⟨B,i*2+1,none⟩ (.int .i64 (f.2:Nat))).heap[w.heap.size]?=_:=(Below.heap_setCell _ _ _ _ (by simp only;omega)).trans ai;have z1:=AA U 1 _ rfl;have q0:=AA o 0 _ rfl;have q1:=AA o 1 _ rfl;have q2:=AA o 2 _ rfl;have q3:=AA o 3 _ rfl;have q4:=AA o 4 _ rfl;have q5:=AA o 5 _ rfl;have q6:=AA o 6 _ rfl;have q7:=AA o 7 _ rfl;have Z:(w5.setCell ⟨w.heap.size,1,none⟩ (.slice (some ⟨B,0,none⟩) st.files.length T)).heap[w.heap.size+1]?=_:=(Below.heap_setCell _ _ _ _ (by simp only;omega)).trans ((J.out.block _ (show w.heap.size+1<w.heap.size+3 by omega)).trans aH.out);have e0:=AA Z 0 _ rfl;have e1:=AA Z 1 _ rfl;have G:A5 (w5.setCell ⟨w.heap.size,1,none⟩ (.slice (some ⟨B,0,none⟩) st.files.length T)) (w.heap.size+3) (.slice (some ⟨B,0,none⟩) st.files.length T) st.files:=az.out.keepOff (λg h1 _=>Below.heap_setCell _ _ _ _ (by simp only;omega));obtain⟨u0,u1⟩:=JI G hi;have u2:=World.ownsRow.frozenAt G (i*2);have af:=(World.ownsRow.stored G (i*2) (.string s)).1;have u3:=Ig G hi (.string s);have u4:=World.ownsRow.frozenAt af (i*2+1);have ah:=QA (A5.set G i f);rw[← HS.out]at ah;have M:(((w5.setCell ⟨w.heap.size,1,none⟩ (.slice (some ⟨B,0,none⟩) st.files.length T)).setCell ⟨B,i*2,none⟩ (.string s)).setCell ⟨B,i*2+1,none⟩ (.int .i64 (f.2:Nat))).heap[w.heap.size+2]?=_:=(Below.heap_setCell _ _ _ _ (by simp only;omega)).trans ((Below.heap_setCell _ _ _ _ (by simp only;omega)).trans ((Below.heap_setCell _ _ _ _ (by simp only;omega)).trans ((J.out.block _ (show w.heap.size+2<w.heap.size+3 by omega)).trans aC.out)));have g0:=AA M 0 _ rfl;have k0:=AC M 0;have K:=heap_set (k:=0) M (.int .i64 st.room);have g1:=AA K 1 _ rfl;have k1:=AC K 1;have O:=heap_set (k:=1) K ((.slice (some ⟨B,0,none⟩) st.files.length T));have g2:=AA O 2 _ rfl;have k2:=AC O 2;have F:=heap_set (k:=2) O (.slice da st.dir.length dc);have g3:=AA F 3 _ rfl;have k3:=AC F 3;have E:=heap_set (k:=3) F (.slice ua st.sure.length uc);have g4:=AA E 4 _ rfl;have k4:=AC E 4;have C:=heap_set (k:=4) E (.slice ga st.changes.length gc);have B:=AA C 5 _ rfl;have k5:=AC C 5;have D:=heap_set (k:=5) C (.int .i64 st.steps);have g6:=AA D 6 _ rfl;have k6:=AC D 6;have A:=heap_set (k:=6) D (.int .i64 st.left);have g7:=AA A 7 _ rfl;have k7:=AC A 7;have am:=QA (heap_set (k:=7) A (.slice pa st.plan.length pc));clear L U ai o Z G af M K O F E C D A)|fail);exact Ij st i f w al.out J.out ax ah.out rfl rfl am.out
open Go.Maps Go.WideMaps
theorem GO (st:Fs.St) (l:Fs.Names) (i:Nat) (p:List UInt8×Int) (h:l[i]?=some p):Fs.usedL st (l.take (i+1))=Fs.usedL st (l.take i)+Fs.lenAt st p.2:=by
 unfold Fs.usedL;rw[List.take_add_one,h,List.map_append,List.sum_append_nat];simp
theorem FR (st:Fs.St) (hF:∀f∈st.files,f.1.length≤1000000):∀l:Fs.Names,Fs.usedL st l≤l.length*1000000
 | []=>QM _
 | p::l=>by
  have A:=FR st hF l;have o:Fs.lenAt st p.2≤1000000:=by
   unfold Fs.lenAt;split
   ·rename_i f hf;exact hF f (QZ hf)
   ·omega
  unfold Fs.usedL at *;rw[List.map_cons,List.sum_cons,List.length_cons];omega
theorem Ep (st:Fs.St) (V:RV) (w:World) (h:RF w st V) (hd:st.dir.length≤1000000) (hk:∀p∈st.dir,0≤p.2∧p.2<st.files.length) (hF:∀f∈st.files,f.1.length≤1000000) :
  Calls Tryz.prog 57 #[.agg (AG st V)] w λe w'=>e=.returned (.int .i64 (Fs.used st:Nat))∧Below w.heap.size w w':=by
 obtain⟨L,T,I,G,O,Z,U,P,R,S,vs,rfl⟩:=h.forms;have A:=(Below.refl w.heap.size w).alloc (QM _) (.cells #[.int .i64 st.room,.slice L st.files.length T,.slice I st.dir.length G,.slice O st.sure.length Z,.slice U st.changes.length P,.int .i64 st.steps,.int .i64 st.left,.slice R st.plan.length S] 33);have Y:=AH w (.cells #[.int .i64 st.room,.slice L st.files.length T,.slice I st.dir.length G,.slice O st.sure.length Z,.slice U st.changes.length P,.int .i64 st.steps,.int .i64 st.left,.slice R st.plan.length S] 33);have y1:=AA Y 1 _ rfl;have y2:=AA Y 2 _ rfl;have H:=QA (h.below A);have N:=QA hk;have W:=QA hF;have F:=QA A;clear h hk hF A Y;unfold AG;go_enter Tryz.func57,Tryz.ntmps57;go_wp2_with fail;obtain⟨W0,C⟩:∃x,x=w.alloc (.cells #[.int .i64 st.room,.slice L st.files.length T,.slice I st.dir.length G,.slice O st.sure.length Z,.slice U st.changes.length P,.int .i64 st.steps,.int .i64 st.left,.slice R st.plan.length S] 33):=⟨_,rfl⟩
 rw[← C]at y1 y2 H F ⊢;clear C
 go_loopg [3,4,8] st.dir.length (λk s3 s4 s8 wq=>∃i n:Nat,i≤st.dir.length∧k=st.dir.length-i∧s8=.int .i64 (i:Nat)∧s3=.int .i64 (n:Nat)∧n=Fs.usedL st (st.dir.take i)∧n≤i*1000000∧∃d,wq=W0.drewN d)
 case atStart=>exact⟨0,0,Nat.zero_le _,rfl,rfl,rfl,rfl,QM _,0,rfl⟩
 case round =>
  obtain⟨i,n,hi,hk,rfl,rfl,hn,an,nd,rfl⟩:=hrel;have HK:=QA hk;have HN:=QA hn;clear hk hn;have af:(0:Int)≤(i:Int):=Int.natCast_nonneg _;have ai:(0:Int)≤(n:Int):=Int.natCast_nonneg _;by_cases hin:i<st.dir.length
  ·have B:(i:Int)<(st.dir.length:Int):=by omega
   obtain⟨p,J⟩:∃p,st.dir[i]?=some p:=⟨_,ZG hin⟩
   obtain⟨E,M⟩:=N.out p (QZ J);obtain⟨q,X⟩:=Int.eq_ofNat_of_zero_le E;obtain⟨f,K⟩:∃f,st.files[q]?=some f:=⟨_,ZG (by omega)⟩
   have aq:=W.out f (QZ K);obtain⟨b,o,rfl,hb,c0,c1⟩:=(show Ab W0 (.slice I st.dir.length G) st.dir from H.out.dir).at2 J;obtain⟨fb,fo,ad,D,ag,d0,_⟩:=H.out.file K;simp only[Value.slice.injEq,true_and]at D;obtain⟨rfl,rfl⟩:=D;have HT:Hid (Fs.usedL st (st.dir.take (i+1))=n+f.1.length):=by
    rw[GO st st.dir i p J,← HN.out];unfold Fs.lenAt;rw[X,Int.toNat_natCast,K];exact QA rfl
   rw[X]at c1;obtain⟨u,Q⟩:∃t:ByteArray,t=⟨f.1.toArray⟩:=⟨_,rfl⟩
   rw[← Q]at d0;have ap:(u.size:Int)=(f.1.length:Int):=by rw[Q];show (f.1.toArray.size:Int)=_;simp
   have ar:(0:Int)≤(q:Int):=Int.natCast_nonneg _;have am:(q:Int)<(st.files.length:Int):=by omega
   clear J E M X K Q;go_wp2_with fail;refine AO [] (by kernel_rfl) (by kernel_rfl) ?_;simp only[Ap,QF,QN,QE,QL,Nat.sub_zero,Nat.reduceSub,Nat.reduceAdd]
   repeat (go_big_quiet_step (fail))
   refine wpQuiet_nil ?_;rintro _ ⟨nq,rfl⟩;go_wp2_with fail;go_roundg (st.dir.length-(i+1))
   case measure=>rw[HK.out];omega
   case rel=>exact⟨i+1,n+f.1.length,by omega,rfl,by simp,by simp,HT.out.symm,by omega,nd+nq,by simp[World.drewN,Nat.add_assoc]⟩
  ·have B:(st.dir.length:Int)≤(i:Int):=by omega
   have HF:Hid (Fs.used st=n):=by unfold Fs.used;rw[HN.out,List.take_of_length_le (by omega)];exact QA rfl
   go_wp2_with fail;go_ret;exact⟨by rw[HF.out];rfl,Below.drewN F.out nd⟩
open Go.Maps Go.WideMaps
namespace Fr
def pay (l:List UInt8):List UInt8:=(l.drop 5).take (l.length-9)
def body (l:List UInt8):List UInt8:=(l.drop 4).take (l.length-8)
def kind (l:List UInt8):Int:=((l.getD 4 0).toNat:Int)
def decE (l:List UInt8):Int :=
 if l.length<9∨8192<l.length-9∨num l≠l.length-9 then 2
 else if kind l<1∨9<kind l then 1
 else if sum (body l)≠num (l.drop (l.length-4)) then 6
 else 0
end Fr
theorem Al.part {w:World} {g o n cap:Nat} {l:List UInt8} (h:Al w (.slice (some ⟨g,o,none⟩) n cap) l) (lo hi cap2:Nat) (hlo:lo≤hi) (hhi:hi≤l.length) (hc:hi-lo≤cap2) (a:Option Addr) (ha:a=some ⟨g,o+lo,none⟩∨(hi=lo∧a≠none)) :
  Al w (.slice a (hi-lo) cap2) ((l.drop lo).take (hi-lo)):=by
 have A:((l.drop lo).take (hi-lo)).length=hi-lo:=by simp;omega
 refine⟨a,cap2,by rw[A],by rw[A];exact hc,λe=>?_,λi x hx=>?_⟩
 ·rcases ha with ha|ha
  ·rw[ha]at e;cases e
  ·exact absurd e ha.2
 ·have B:i<hi-lo:=by have:=(List.getElem?_eq_some_iff.1 hx).1;omega
  rw[List.getElem?_take,if_pos B,List.getElem?_drop]at hx;obtain⟨b,E,F,C,D⟩:=h.at hx;cases F;rcases ha with ha|ha
  ·exact⟨g,o+lo,ha,C,by rw[Nat.add_assoc];exact D⟩
  ·omega
def Iy (l:List UInt8) (w:World) (e:Ending) (w':World):Prop :=
 Below w.heap.size w w'∧((Fr.decE l=0∧∃v,e=.returned (.tuple #[.agg #[.int .i64 (Fr.kind l),v],.int .i64 0])∧Au w' w.heap.size v (Fr.pay l)) ∨
  (Fr.decE l≠0∧e=.returned (.tuple #[.agg #[.int .i64 0,.slice none 0 0],.int .i64 (Fr.decE l)])))
theorem Iu (g o n c:Nat) (l:List UInt8) (w:World) (h:Al w (.slice (some ⟨g,o,none⟩) n c) l) (hn:n=l.length) (hl:l.length≤1000000000) :
  Calls Tryz.prog 60 #[.slice (some ⟨g,o,none⟩) n c] w λe w'=>∃v',e=.returned v'∧Au w' w.heap.size v' l∧Below w.heap.size w w':=by
 subst hn;obtain⟨G,F,B,A,C⟩:=info_parts EC;refine (AnyE.slices_Clone BZ G (.int .u8 0) 1 1 F B A C rfl (by decide) (λw=>Tryz.sizeOf5 w) g o l.length c (AR l) w (by rw[BL];omega) (by unfold maxLen;omega) (by omega) ?_ (BK l)).mono ?_
 ·intro j u hj;unfold AR at hj;rw[List.getElem?_map]at hj;cases hx:l[j]? with
  | none=>rw[hx]at hj;cases hj
  | some y =>
   rw[hx]at hj;simp at hj;obtain⟨b,E,H,I,D⟩:=h.at hx;cases H;rw[← hj];exact D
 ·rintro e w' ⟨v',rfl,h3,_,h4⟩;exact⟨v',rfl,h3,h4⟩
theorem Jw {w w':World} (h:Below w.heap.size w w') (o:Obj):Below w.heap.size w (w'.alloc o):=h.alloc h.size o
theorem GF (v:Value) (l:List UInt8) (w:World) (hV:Al w v l) (hl:l.length≤1000000000) :
  Calls Tryz.prog 85 #[v] w (Iy l w):=by
 obtain⟨va,G,rfl,D⟩:=hV.form;have aw:(0:Int)≤(l.length:Int):=Int.natCast_nonneg _;have ax:(l.length:Int)≤1000000000:=by omega
 by_cases h9:l.length<9
 ·have A:Hid (Fr.decE l=2):=by unfold Fr.decE;rw[if_pos (.inl h9)];exact QA rfl
  have h1:(l.length:Int)-9<0:=by omega
  clear D hV;go_enter Tryz.func85,Tryz.ntmps85;go_wp2_with fail;refine bodyPost_ret (v:=.tuple #[.agg #[.int .i64 0,.slice none 0 0],.int .i64 2]) (by simp[results,Tryz.results85,go_sem]) rfl ?_;exact⟨(Below.refl _ _).alloc (QM _) _,.inr ⟨by rw[A.out];decide,by rw[A.out]⟩⟩
 ·obtain⟨m,hm⟩:∃m,l.length=m+9:=⟨l.length-9,by omega⟩
  have aX:(0:Int)≤(m:Int):=Int.natCast_nonneg _;have aU:(m:Int)≤1000000000:=by omega
  have C:=QA hm;rw[hm]at hV D ⊢;clear h9 aw ax hm;by_cases hbig:8192<m
  ·have A:Hid (Fr.decE l=2):=by
    unfold Fr.decE;have:=C.out;rw[if_pos (.inr (.inl (by omega)))];exact QA rfl
   have h2:8192<(m:Int):=by omega
   clear D hV;go_enter Tryz.func85,Tryz.ntmps85;go_wp2_with fail;refine bodyPost_ret (v:=.tuple #[.agg #[.int .i64 0,.slice none 0 0],.int .i64 2]) (by simp[results,Tryz.results85,go_sem]) rfl ?_;exact⟨(Below.refl _ _).alloc (QM _) _,.inr ⟨by rw[A.out];decide,by rw[A.out]⟩⟩
  ·have h2:(m:Int)≤8192:=by omega
   have h3:(m:Int) % 4294967296=(m:Int):=by omega
   have HV:=QA (hV.below ((Below.refl w.heap.size w).alloc (QM _) (.cells #[.int .i64 0,.slice none 0 0] 150)));have S:=QA D;clear D hV hbig;go_enter Tryz.func85,Tryz.ntmps85;go_wp2_with fail;refine (EG _ l _ HV.out (by have:=C.out;omega) (by have:=C.out;omega)).mono ?_;rintro e w1 ⟨rfl,n1,rfl⟩;have hr:=AH w (.cells #[.int .i64 0,.slice none 0 0] 150);have E:((w.alloc (.cells #[.int .i64 0,.slice none 0 0] 150)).drewN n1).heap[w.heap.size]?=some (.cells #[.int .i64 0,.slice none 0 0] 150 (0,0)):=hr;have B:Below w.heap.size w ((w.alloc (.cells #[.int .i64 0,.slice none 0 0] 150)).drewN n1):=Below.drewN ((Below.refl _ _).alloc (QM _) _) n1;have L:Al ((w.alloc (.cells #[.int .i64 0,.slice none 0 0] 150)).drewN n1) (.slice va (m+9) G) l:=HV.out.keep (QM _) (λ_ _=>rfl)
   generalize ((w.alloc (.cells #[.int .i64 0,.slice none 0 0] 150)).drewN n1)=w1 at E B L ⊢
   obtain⟨J,O⟩:∃x,l[4]?=some x:=⟨_,ZG (by have:=C.out;omega)⟩
   obtain⟨g,o,rfl,hg,ar⟩:=L.at O;have HK:Hid (Fr.kind l=(J.toNat:Int)):=by
    unfold Fr.kind;rw[List.getD_eq_getElem?_getD,O];exact QA rfl
   have V:=QA L;have am:=QA E;have T:w1.cell? ⟨w.heap.size,0,none⟩=some (.int .i64 0):=AA E 0 _ rfl;have R:w1.cell? ⟨w.heap.size,1,none⟩=some (.slice none 0 0):=AA E 1 _ rfl;have U:=AC E 0;have N:=AC E 1;clear hr E L O HV;by_cases hnum:(Fr.num l:Int)=(m:Int)
   ·have ht:((Fr.num l:Int) != (m:Int))=false:=by rw[hnum];simp
    have ab:(Fr.num l != m)=false:=by rw[Int.ofNat_inj.1 hnum];simp
    have I:=QA hnum;clear hnum;have aW:(0:Int)≤(J.toNat:Int):=Int.natCast_nonneg _;have aR:(J.toNat:Int)≤255:=by have:J.toNat<256:=UInt8.toNat_lt _;omega
    by_cases hkind:(J.toNat:Int)<1∨9<(J.toNat:Int)
    ·have A:Hid (Fr.decE l=1):=by
      unfold Fr.decE;have e1:=I.out;have e2:=C.out;rw[HK.out,if_neg (by omega),if_pos hkind];exact QA rfl
     rcases hkind with hk|hk
     ·go_wp2_with fail;refine bodyPost_ret (v:=.tuple #[.agg #[.int .i64 0,.slice none 0 0],.int .i64 1]) (by simp[results,Tryz.results85,go_sem,T,R,U,N]) rfl ?_;exact⟨(B.setCell (p:=⟨w.heap.size,0,none⟩) (QM _) _).setCell (p:=⟨w.heap.size,1,none⟩) (QM _) _,.inr ⟨by rw[A.out];decide,by rw[A.out]⟩⟩
     ·have az:(1:Int)≤(J.toNat:Int):=by omega
      go_wp2_with fail;refine bodyPost_ret (v:=.tuple #[.agg #[.int .i64 0,.slice none 0 0],.int .i64 1]) (by simp[results,Tryz.results85,go_sem,T,R,U,N]) rfl ?_;exact⟨(B.setCell (p:=⟨w.heap.size,0,none⟩) (QM _) _).setCell (p:=⟨w.heap.size,1,none⟩) (QM _) _,.inr ⟨by rw[A.out];decide,by rw[A.out]⟩⟩
    ·have a3:1≤(J.toNat:Int):=by omega
     have az:(J.toNat:Int)≤9:=by omega
     have aj:=QA hkind;clear hkind;go_wp2_with fail;have D:=S.out;have aS:(5:Int)+(m:Int)≤(G:Int):=by omega
     have aL:(0:Int)≤(5:Int)+(m:Int):=by omega
     have aO:(4:Int)≤(5:Int)+(m:Int):=by omega
     have aT:((5:Int)+(m:Int)).toNat=5+m:=by omega
     have aV:G≠4:=by omega
     have a4:G≠5+m:=by omega
     have aQ:(5:Int)+(m:Int)≤(m:Int)+9:=by omega
     have aZ:IntKind.i64.wrap ((5:Int)+(m:Int))=5+(m:Int):=by rw[IntKind.wrap_i64];omega
     have aN:(4:Int).toNat=4:=rfl;clear D;have hS:Below w1.heap.size w1 w1.drew:=⟨rfl,rfl,rfl,QM _,λ_ _=>rfl⟩
     have W:Hid ((l.drop 4).take (5+m-4)=Fr.body l):=by
      unfold Fr.body;have:=C.out;rw[show l.length-8=5+m-4 by omega];exact QA rfl
     have X:Hid ((l.drop (5+m)).take (m+9-(5+m))=l.drop (l.length-4)):=by
      have:=C.out;rw[List.take_of_length_le (by rw[List.length_drop];omega),show l.length-4=5+m by omega];exact QA rfl
     have M:Al w1 (.slice (some ⟨g,o+4,none⟩) (5+m-4) (G-4)) (Fr.body l):=by
      rw[← W.out];exact V.out.part 4 (5+m) (G-4) (by omega) (by have:=C.out;omega) (by omega) _ (.inl rfl)
     have ay:Hid (Al w1 (.slice (some ⟨g,o+(5+m),none⟩) (m+9-(5+m)) (G-(5+m))) (l.drop (l.length-4))):=by
      rw[← X.out];exact QA (V.out.part (5+m) (m+9) (G-(5+m)) (by omega) (by have:=C.out;omega) (by have:=S.out;omega) _ (.inl rfl))
     have au:Hid (CM (w1.alloc (.cells #[.slice (some ⟨g,o+4,none⟩) (5+m-4) (G-4)] 38)).drew (.slice (some ⟨w1.heap.size,0,none⟩) 1 1) [Fr.body l]) :=
      QA ((En 38 M).keep (QM _) (λ_ _=>rfl))
     have aP:=QA M;have aC:Hid (∀q∈[Fr.body l],q.length≤1000000000):=by
      refine QA λq hq=>?_
      simp at hq;subst hq;unfold Fr.body;simp;omega
     have ak:Hid (Below w1.heap.size w1 (w1.alloc (.cells #[.slice (some ⟨g,o+4,none⟩) (5+m-4) (G-4)] 38)).drew) :=
      QA (((Below.refl _ _).alloc (QM _) _).trans ⟨rfl,rfl,rfl,QM _,λ_ _=>rfl⟩)
     have af:Hid (4≤(l.drop (l.length-4)).length∧(l.drop (l.length-4)).length≤1000000000):=by
      have:=C.out;refine QA ?_;simp;omega
     clear M
     go_region_held3 (λw'=>Below w1.heap.size w1 w') (first|assumption|exact Jw (by assumption) _)
      (first
       | (go_at_call 97;refine (GU _ [Fr.body l] _ au.out (by simp) aC.out).mono ?_;rintro e w2 ⟨rfl,hb2⟩;have aq:=ak.out.trans (hb2.mono ak.out.size);clear hb2)
       | (go_at_call 103;refine (EG _ (l.drop (l.length-4)) _ (ay.out.below (by assumption)) af.out.1 af.out.2).mono ?_;rintro e w3 ⟨rfl,n3,rfl⟩;have Q:=Below.drewN aq n3))
     have F:(w2.drewN n3).heap[w.heap.size]?=some (.cells #[.int .i64 0,.slice none 0 0] 150 (0,0)):=by
      rw[Q.block _ (AE am.out)];exact am.out
     have K:Below w.heap.size w (w2.drewN n3):=B.trans (Q.mono B.size);have Y:=QA Q;clear T R U N ar ht ab h3
     generalize w2.drewN n3=w4 at F K Y ⊢
     have P:=QA F;have T:w4.cell? ⟨w.heap.size,0,none⟩=some (.int .i64 0):=AA F 0 _ rfl;have R:w4.cell? ⟨w.heap.size,1,none⟩=some (.slice none 0 0):=AA F 1 _ rfl;have U:=AC F 0;have N:=AC F 1;have B:=K;clear F;by_cases hsum:Fr.sum (Fr.body l)=Fr.num (l.drop (l.length-4))
     ·have ht:(Fr.sum (Fr.body l) != (Fr.num (l.drop (l.length-4)):Int))=false:=by rw[hsum];simp
      have A:Hid (Fr.decE l=0):=by
       unfold Fr.decE;have e1:=I.out;have e2:=C.out;rw[HK.out,if_neg (by omega),if_neg aj.out,if_neg (by simp[hsum])];exact QA rfl
      clear hsum;have Z:Hid (Fr.pay l=(l.drop 5).take (5+m-5)):=by
       unfold Fr.pay;have:=C.out;rw[show l.length-9=5+m-5 by omega];exact QA rfl
      have aA:Hid (Al w4 (.slice (some ⟨g,o+5,none⟩) m (G-5)) (Fr.pay l)):=by
       rw[Z.out];have e5:5+m-5=m:=by omega
       have hq:=(V.out.part 5 (5+m) (G-5) (by omega) (by have:=C.out;omega) (by omega) (some ⟨g,o+5,none⟩) (.inl rfl)).below Y.out;rw[e5]at hq ⊢;exact QA hq
      have ag:Hid ((Fr.pay l).length=m):=by
       have:=C.out;unfold Fr.pay;rw[List.length_take,List.length_drop];exact QA (by omega)
      have a2:G≠5:=by have:=S.out;omega
      have aG:(5:Int)≤5+(m:Int):=by omega
      have aF:(5:Int).toNat=5:=rfl;go_wp2_with fail;refine (Iu g (o+5) m (G-5) (Fr.pay l) w4 aA.out ag.out.symm (by have:=ag.out;omega)).mono ?_;rintro e w5 ⟨v5,rfl,ho5,hb5⟩;obtain⟨ac,ah,ad,ap,a0⟩:=Au.form3 ho5;subst ap;have ai:=QA ho5;have H:w5.heap[w.heap.size]?=some (.cells #[.int .i64 0,.slice none 0 0] 150 (0,0)):=by
       rw[hb5.block _ (AE P.out)];exact P.out
      have ae:Below w.heap.size w w5:=K.trans (hb5.mono K.size);have z0:w5.cell? ⟨w.heap.size,0,none⟩=some (.int .i64 0):=AA H 0 _ rfl;have z1:w5.cell? ⟨w.heap.size,1,none⟩=some (.slice none 0 0):=AA H 1 _ rfl;have g0:=AC H 0;have g1:=AC H 1;have al:w.heap.size<w4.heap.size:=AE P.out;clear H ho5 T R U N;go_wp2_with fail;refine bodyPost_ret (v:=.tuple #[.agg #[.int .i64 J.toNat,.slice ac ah ad],.int .i64 0]) (by simp[results,Tryz.results85,go_sem,z0,z1,g0,g1]) rfl ?_;refine⟨(ae.setCell (p:=⟨w.heap.size,0,none⟩) (QM _) _).setCell (p:=⟨w.heap.size,1,none⟩) (QM _) _,.inl ⟨A.out,.slice ac ah ad,by rw[HK.out],?_⟩⟩;refine AQ (ai.out.mono (Nat.le_of_lt al)) (λg hg=>?_);have:=(ai.out.lt g hg).1;rw[Below.heap_setCell _ _ _ _ (by show g≠w.heap.size;omega),Below.heap_setCell _ _ _ _ (by show g≠w.heap.size;omega)]
     ·have ht:(Fr.sum (Fr.body l) != (Fr.num (l.drop (l.length-4)):Int))=true:=by rw[bne_iff_ne];exact hsum
      have A:Hid (Fr.decE l=6):=by
       unfold Fr.decE;have e1:=I.out;have e2:=C.out;rw[HK.out,if_neg (by omega),if_neg aj.out,if_pos hsum];exact QA rfl
      clear hsum;go_wp2_with fail;refine bodyPost_ret (v:=.tuple #[.agg #[.int .i64 0,.slice none 0 0],.int .i64 6]) (by simp[results,Tryz.results85,go_sem,T,R,U,N]) rfl ?_;exact⟨(B.setCell (p:=⟨w.heap.size,0,none⟩) (QM _) _).setCell (p:=⟨w.heap.size,1,none⟩) (QM _) _,.inr ⟨by rw[A.out];decide,by rw[A.out]⟩⟩
   ·have ht:((Fr.num l:Int) != (m:Int))=true:=by rw[bne_iff_ne];exact hnum
    have ab:(Fr.num l != m)=true:=by rw[bne_iff_ne];omega
    have A:Hid (Fr.decE l=2):=by
     unfold Fr.decE;have:=C.out;rw[if_pos (.inr (.inr (by omega)))];exact QA rfl
    clear hnum;go_wp2_with fail;refine bodyPost_ret (v:=.tuple #[.agg #[.int .i64 0,.slice none 0 0],.int .i64 2]) (by simp[results,Tryz.results85,go_sem,T,R,U,N]) rfl ?_;exact⟨(B.setCell (p:=⟨w.heap.size,0,none⟩) (QM _) _).setCell (p:=⟨w.heap.size,1,none⟩) (QM _) _,.inr ⟨by rw[A.out];decide,by rw[A.out]⟩⟩
end Go.Proofs.YtmlekglfdiacpaaGreatDoor
