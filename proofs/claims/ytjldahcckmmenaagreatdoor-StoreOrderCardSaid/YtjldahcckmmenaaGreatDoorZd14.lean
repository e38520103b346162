/-
  The store: maps.Clone of entries; room (a fresh BL segment), walked. (Printed by mkroom.py.) Changes, and batches of them, that came in. What the listed variables give; a world for the witnesses (layers 5 and 6).
-/
import Derived.Test.YtjldahcckmmenaaGreatDoorZd13
import Derived.Test.YtjldahcckmmenaaGreatDoorZd11
import Derived.Test.YtjldahcckmmenaaGreatDoorZd12
import Derived.Test.YtjldahcckmmenaaGreatDoorZd10
import Derived.Test.YtjldahcckmmenaaGreatDoorZd7
import Derived.Laws.IdiomArrays
import Derived.Test.YtjldahcckmmenaaGreatDoorCards
import Derived.Test.YtjldahcckmmenaaGreatDoorTie
import Derived.WalkKit
import Derived.ProofKit
import Derived.OpenShut
import Derived.Deep.DeepHandedRow
import Derived.Lib.LaidTab
import Derived.Lib.LaidIn
import Derived.Lib.LaidU8
import Derived.Stop.LaidErr
import Derived.LaidLaws
import Derived.Carry
open Array renaming getInternal_eq_getElem → QD
open Go.Lib renaming hid → QA
open List renaming setIfInBounds_toArray → QC, drop_succ_cons → QE, take_succ_cons → QF, set_cons_succ → QG, set_cons_zero → QH, getElem_cons_zero → QI, getElem_cons_succ → QJ, getElem_toArray → QK, drop_zero → QL, take_zero → QN, length_map → QV, getElem?_eq_getElem → ZG
open Nat renaming le_trans → QQ
namespace Go.Proofs.YtjldahcckmmenaaGreatDoor
set_option maxRecDepth 100000
set_option maxHeartbeats 4000000
set_option linter.unusedSimpArgs false
set_option linter.unusedVariables false
open Go Go.RowKit
open Go.Maps Go.WideMaps
def G1:Go.Shelf.Ren:=⟨fun|5=>31|7=>57|n=>n,fun|4=>4|20=>20|23=>49|25=>40|3=>85|n=>n,fun|n=>n⟩
theorem Gm:Go.Proofs.SlLaysW.n5 Tryz.prog G1:={
 mixed:=by kernel_rfl
 f5:=⟨Tryz.f31.name,by decide,Tryz.func31.trans (congrArg some (by kernel_rfl))⟩
 f7:=Tryz.func57.trans (congrArg some (by kernel_rfl))
 t4:=Tryz.underlying4
 a4:=Tryz.isAgg4
 z4:=Tryz.sizeOf4
 v4:=Tryz.zeroValue4
 t20:=Tryz.underlying20
 a20:=Tryz.isAgg20
 z20:=Tryz.sizeOf20
 v20:=Tryz.zeroValue20
 t23:=Tryz.underlying49
 a23:=Tryz.isAgg49
 z23:=Tryz.sizeOf49
 v23:=Tryz.zeroValue49 }
theorem JH (b n:Nat) (l:Sto.ME) (w:World) (h:w.ownsMap Tryz.prog 40 Sto.elemR b n (Sto.datum l)) :
  Calls Tryz.prog 31 #[.map (some b)] w λe w'=>e=.returned (.map (some w.heap.size))∧w'.ownsMap Tryz.prog 40 Sto.elemR w.heap.size n (Sto.datum l)∧Below w.heap.size w w':=by
 refine (AnyW.maps_Clone_owns Gm 40 Sto.elemR b n (Sto.datum l) w h).mono ?_;rintro e w' ⟨rfl,h1,_,h2⟩;exact⟨rfl,h1,h2⟩
theorem CB.mv {F F':Nat→Prop} {w w':World} {v:Value} {l:List Int} (h:CB w F v l) (m:MV F F' w w'):CB w' F' v l:=by
 obtain⟨⟨a,cap,rfl,C⟩,B⟩:=h;refine⟨⟨_,_,rfl,λi x hi=>?_⟩,λp n c2 e hl=>?_⟩
 ·obtain⟨b,o,e,A,H⟩:=C i x hi;subst e;obtain⟨I,D⟩:=m.2 b A (B ⟨b,o,none⟩ _ _ rfl (by have:=(List.getElem?_eq_some_iff.1 hi).1;omega));exact⟨b,o,rfl,Nat.lt_of_lt_of_le A m.1,by rw[World.cell?_of_block D];exact H⟩
 ·obtain⟨b,o,E,A,_⟩:=C 0 _ (ZG hl);subst E;have G:p=⟨b,o,none⟩:=by simp only[Value.slice.injEq,Option.some.injEq]at e;exact e.1.symm
  subst G;exact (m.2 b A (B ⟨b,o,none⟩ _ _ rfl hl)).1
theorem Kn {c:Code} {R:Act→Exit→Act→World→Prop} {Q':Exit→Act→World→Prop} {a:Act} {w:World} (h1:c.wp Tryz.prog (R a) a w) (h2:∀e a' w',R a e a' w'→Q' e a' w'):c.wp Tryz.prog Q' a w:=Code.wp_mono h2 h1
theorem FO {P:Program} {ops:Array Oper} {Q:Exit→Act→World→Prop} {md:Region.Mode} {S:World→Prop} {n i k m:Nat} {fuel:Nat} {listed:Array Bool} {a:Act} {w:World} (hr:Region.ready md ops listed=[i,k,m])
  (h:wpOp P ops Q i (λa' w'=>(i<n→S w')∧Af P md ops Q S n fuel (listed.setIfInBounds i true) a' w') a w)
  (h':wpOp P ops Q k (λa' w'=>(k<n→S w')∧Af P md ops Q S n fuel (listed.setIfInBounds k true) a' w') a w)
  (h'':wpOp P ops Q m (λa' w'=>(m<n→S w')∧Af P md ops Q S n fuel (listed.setIfInBounds m true) a' w') a w):Af P md ops Q S n (fuel+1) listed a w :=
 ⟨λh0=>(by rw[hr]at h0;cases h0),λj hj=>by
  rw[hr]at hj;have:j=i∨j=k∨j=m:=by simpa using hj
  rcases this with rfl|rfl|rfl
  ·exact h
  ·exact h'
  ·exact h''⟩
theorem A3 {X:World} {g:Nat} {x:Int} (h:X.heap[g]?=some (.cells #[.int .i64 x] 3 (0,0))):Dq X (.slice (some ⟨g,0,none⟩) 1 1) [x] :=
 ⟨some ⟨g,0,none⟩,1,rfl,λi y hi=>by
  cases i with
  | zero =>
   have o:x=y:=by simpa using hi
   subst o;exact⟨g,0,rfl,AC h,AA h 0 _ rfl⟩
  | succ i=>simp at hi⟩
structure RI (W:World) (segs:List Int) (id:Int) (d11 d13 d16 d14:Bool) (v:Value) (g p:Nat) (u:Value) (X:World):Prop where
 bel:Below W.heap.size W X
 c11:d11=true→Am X W.heap.size v segs
 b13:d13=true→W.heap.size≤g∧X.heap[g]?=some (.cells #[.int .i64 id] 3 (0,0))
 b16:d16=true→W.heap.size≤p∧X.heap[p]?=some (.cells #[.int .i64 0,.slice none 0 0] 47 (0,0))
 c14:d14=true→Am X W.heap.size u (segs++[id])
 a1:d11=true→d13=true→v.ownBlock≠some g
 a2:d11=true→d16=true→v.ownBlock≠some p
 a4:d14=true→d16=true→u.ownBlock≠some p
section
variable {W X X' : World} {segs : List Int} {id : Int} {d11 d13 d16 d14 : Bool} {v v' u u' : Value} {g p : Nat}
theorem RI.start (W:World) (segs:List Int) (id:Int):RI W segs id false false false false (.slice none 0 0) 0 0 (.slice none 0 0) W :=
 ⟨Below.refl _ _,λh=>(by cases h),λh=>(by cases h),λh=>(by cases h),λh=>(by cases h),λh=>(by cases h),λh=>(by cases h),λh=>(by cases h)⟩
theorem RI.s11 (h:RI W segs id false d13 d16 false v g p u X) (ho:Am X' X.heap.size v' segs) (hb:Below X.heap.size X X'):RI W segs id true d13 d16 false v' g p u X' :=
 ⟨h.bel.trans (hb.mono h.bel.size),λ_=>ho.mono2 h.bel.size,λhd=>⟨(h.b13 hd).1,(hb.block _ (AC (h.b13 hd).2)).trans (h.b13 hd).2⟩,λhd=>⟨(h.b16 hd).1,(hb.block _ (AC (h.b16 hd).2)).trans (h.b16 hd).2⟩,λh=>(by cases h),
  λ_ hd e=>by have o:=(ho.lt _ e).1;have A:=AC (h.b13 hd).2;omega,λ_ hd e=>by have o:=(ho.lt _ e).1;have A:=AC (h.b16 hd).2;omega,λh=>(by cases h)⟩
theorem RI.s13 (h:RI W segs id d11 false d16 false v g p u X):RI W segs id d11 true d16 false v X.heap.size p u (X.alloc (.cells #[.int .i64 id] 3)):=by
 have o:Below X.heap.size X (X.alloc (.cells #[.int .i64 id] 3)):=(Below.refl _ _).alloc (Nat.le_refl _) _;exact⟨h.bel.trans (o.mono h.bel.size),λhd=>(h.c11 hd).keep o,λ_=>⟨h.bel.size,AK X _⟩,λhd=>⟨(h.b16 hd).1,(o.block _ (AC (h.b16 hd).2)).trans (h.b16 hd).2⟩,λh=>(by cases h),
  λhd _ e=>by have A:=((h.c11 hd).lt _ e).2;omega,h.a2,λh=>(by cases h)⟩
theorem RI.s16 (h:RI W segs id d11 d13 false d14 v g p u X):RI W segs id d11 d13 true d14 v g X.heap.size u (X.alloc (.cells #[.int .i64 0,.slice none 0 0] 47)):=by
 have o:Below X.heap.size X (X.alloc (.cells #[.int .i64 0,.slice none 0 0] 47)):=(Below.refl _ _).alloc (Nat.le_refl _) _;exact⟨h.bel.trans (o.mono h.bel.size),λhd=>(h.c11 hd).keep o,λhd=>⟨(h.b13 hd).1,(o.block _ (AC (h.b13 hd).2)).trans (h.b13 hd).2⟩,λ_=>⟨h.bel.size,AK X _⟩,λhd=>(h.c14 hd).keep o,
  h.a1,λhd _ e=>by have A:=((h.c11 hd).lt _ e).2;omega,λhd _ e=>by have A:=((h.c14 hd).lt _ e).2;omega⟩
theorem RI.s14 (h:RI W segs id true true d16 false v g p u X) (ho:Am X' W.heap.size u' (segs++[id])) (hg:X.grownBy X' v.ownBlock) (hl:u'.ownBlock=v.ownBlock∨u'.ownBlock=some X.heap.size):RI W segs id false false d16 true v g p u' X' :=
 ⟨h.bel.grown hg h.bel.size (λk e=>((h.c11 rfl).lt k e).1),λh=>(by cases h),λh=>(by cases h),λhd=>⟨(h.b16 hd).1,(hg.block _ (AC (h.b16 hd).2) (λe=>h.a2 rfl hd e.symm)).trans (h.b16 hd).2⟩,λ_=>ho,
  λh=>(by cases h),λh=>(by cases h),λ_ hd e=>by
   rcases hl with e2|e2
   ·rw[e2]at e;exact h.a2 rfl hd e
   ·rw[e2]at e;have o:=AC (h.b16 hd).2;simp at e;omega⟩
theorem RI.fin (h:RI W segs id false false true true v g p u X) (ver1:Int) :
  Below W.heap.size W ((X.setCell ⟨p,0,none⟩ (.int .i64 ver1)).setCell ⟨p,1,none⟩ u)∧W.heap.size≤p∧((X.setCell ⟨p,0,none⟩ (.int .i64 ver1)).setCell ⟨p,1,none⟩ u).heap[p]?=some (.cells #[.int .i64 ver1,u] 47 (0,0)) ∧
   Am ((X.setCell ⟨p,0,none⟩ (.int .i64 ver1)).setCell ⟨p,1,none⟩ u) W.heap.size u (segs++[id]):=by
 obtain⟨A,B⟩:=h.b16 rfl;refine⟨(h.bel.setCell (p:=⟨p,0,none⟩) A _).setCell (p:=⟨p,1,none⟩) A _,A,heap_set (heap_set B _) _,AN (h.c14 rfl) λb hb=>?_⟩;have o:b≠p:=λe=>h.a4 rfl rfl (by rw[← e];exact hb)
 exact (Below.heap_setCell _ _ _ b o).trans (Below.heap_setCell _ _ _ b o)
end
def Je (W:World) (r:Nat) (ver1 id:Int) (segs:List Int) (e:Exit) (a:Act) (X:World):Prop:=match e with
 | .normal=>∃(p:Nat) (u:Value) (c1 c2 c4 c6 c7 c8 c9 c10 c11 c12 c13 c14 c15 c16 c17 c18 c19 c20 c21 c22 c23 c24 c25 c26 c27 c28 c29 c30 c31 c32 c33 c34 c35 c36 c37 c38 c39 c40 c41 c42 c43 c44 c45 c46 c47 c48 c49 c50 c51 c52 c53 c54 c55 c56:Value),a=⟨#[.pointer (some ⟨r,0,none⟩),c1,c2,.int .i64 id,c4,.pointer (some ⟨p,0,none⟩),c6,c7,c8,c9,c10,c11,c12,c13,c14,c15,c16,c17,c18,c19,c20,c21,c22,c23,c24,c25,c26,c27,c28,c29,c30,c31,c32,c33,c34,c35,c36,c37,c38,c39,c40,c41,c42,c43,c44,c45,c46,c47,c48,c49,c50,c51,c52,c53,c54,c55,c56],[]⟩∧Below W.heap.size W X∧W.heap.size≤p∧X.heap[p]?=some (.cells #[.int .i64 ver1,u] 47 (0,0))∧Am X W.heap.size u (segs++[id])
 | _=>False
theorem FH (base B r mb:Nat) (f:Fs.St) (V:FsV) (own:Nat→Tag) (ver:Int) (sv:Value) (S0:List Sto.Seg) (a:Int) (bs:List (List Sto.Op)) (M k:Nat) (ops:List Sto.Op) (dead:Bool) (w:World)
  (h:Aa base B f V own w) (hE:Aq base w) (hbase:base≤w.heap.size) (hroot:w.heap[r]?=some (.cells (AF ver sv mb B dead) 51 (0,0))) (hr0:own r=.other) (hrb:base≤r)
  (hN:CB w (SF r own) sv (Sto.ids (S0++[(a,bs)]))) (hD:Sto.Disk f k ver (S0++[(a,bs)]) M) (hC:Sto.Can f k (S0++[(a,bs)]) M ops) (hb:4096<(Sto.fileOf bs).length) :
  Calls Tryz.prog 37 #[.pointer (some ⟨r,0,none⟩)] w λe w'=>e=.returned (.int .i64 0)∧∃V' own' sv',Aa base B (Mf.save (Sg.create f (a+1)).1 (wrap64 (ver+1)) (Sto.ids (S0++[(a,bs)])++[a+1])).1 V' own' w'∧SFr r own own' w w'∧Below base w w' ∧
   w'.heap[r]?=some (.cells (AF (ver+1) sv' mb B dead) 51 (0,0))∧CB w' (SF r own') sv' (Sto.ids (S0++[(a,bs)])++[a+1]):=by
 obtain⟨d1,d2,d3,d4,d5,d6,d7⟩:=hD.grow hC hb;have aQ:=Sto.act_ids hD;have S:=Mf.good_out hD.x.good;have ah:=S.2.1;have cR:=hC.small;have bO:(Sto.ids (S0++[(a,bs)])).length<32:=by
  have h1:=hC.few;rw[Sto.put_snoc,if_pos hb]at h1;have h2:(Sto.ids (S0++[(a,bs)])).length=(S0++[(a,bs)]).length:=QV _;simp at h1 h2 ⊢;omega
 have cQ:ver≤k∧1≤a∧a≤k∧1≤ver:=by
  have h1:=hD.x.small.2 (a,bs) (by simp);have h2:=Mf.incr_pos (Int.le_refl 0) S.2.2 a (by rw[Sto.ids_app];simp[Sto.ids]);exact⟨hD.x.small.1,h2.1,h1,S.1.1⟩
 obtain⟨segs,ax⟩:∃l,Sto.ids (S0++[(a,bs)])=l:=⟨_,rfl⟩
 rw[ax]at hN d2 d6 aQ ah bO ⊢;have bq:=hD.x.sound;clear S ax d7 d6 hb hC hD;obtain⟨K,aT⟩:∃x,a+1=x:=⟨_,rfl⟩
 obtain⟨o,aA⟩:∃x,ver+1=x:=⟨_,rfl⟩
 rw[aT]at d1 d2 d4 d5 ⊢;have bL:wrap64 (ver+1)=o:=by rw[← aA];unfold wrap64;omega
 rw[bL]at d2 ⊢;rw[aA];obtain⟨sa,sc,rfl⟩:=hN.1.form;have bR:IntKind.i64.wrap o=o:=by rw[IntKind.wrap_i64];omega
 have bJ:segs≠[]:=λe=>by rw[e]at ah;simp at ah
 have bd:=QA hN;have H:=QA h;have HE:=QA hE;have HR:=QA hroot;have bW:r<w.heap.size:=AC hroot;have b4:((segs.length:Int)==32)=false:=by rw[beq_eq_false_iff_ne];omega
 have bE:segs.length≤1000000:=by omega
 have y0:=rc0 hroot;have y1:=rc1 hroot;have y2:=rc2 hroot;have y3:=rc3 hroot;have y4:=rc4 hroot;clear hN h hE hroot;go_enter Tryz.func37,Tryz.ntmps37;go_wp2_with fail;refine (A9 w r B mb ver _ dead segs HR.out bd.out.1 bJ bE).mono ?_;rintro e w1 ⟨rfl,n1,rfl⟩;rw[aQ];have ab:Below w.heap.size w (w.drewN n1):=Below.drewN (Below.refl _ w) n1;have af:=QA ab;have P:Hid ((w.drewN n1).heap[r]?=some (.cells (AF ver (.slice sa segs.length sc) mb B dead) 51 (0,0))):=QA HR.out;have bX:wrap64 (a+1)=K:=by rw[← aT];unfold wrap64;omega
 clear y0 y1 y2 y3 y4 ab;obtain⟨w1,bn⟩:∃x,w.drewN n1=x:=⟨_,rfl⟩
 rw[bn]at af P ⊢;clear bn;have y0:=rc0 P.out;have y1:=rc1 P.out;have y2:=rc2 P.out;have y3:=rc3 P.out;have y4:=rc4 P.out;go_wp2_with fail;have bt:=af.out.size;refine (Bw base B f V own K w1 (H.out.kept (AB af.out)) (HE.out.below (af.out.mono hbase)) (QQ hbase bt) (bq.small (by omega))).mono ?_;rintro e w2 ⟨rfl,V2,own2,h2,ho2,hk2⟩;rw[d1];have H2:=QA h2;have a6:Hid (SFr r own own2 w w2):=QA ((SFr.below af.out).trans (SFr.kept ho2 hk2));have Q:Hid (w2.heap[r]?=some (.cells (AF ver (.slice sa segs.length sc) mb B dead) 51 (0,0))):=QA ((hk2.block r (AC P.out) (by rw[hr0];simp)).trans P.out);have bj:own2 r=.other:=(ho2 r (AC P.out)).trans hr0;have be:Hid (Below base w w2):=QA ((af.out.mono hbase).trans (AQ.below0 (H.out.kept (AB af.out)) ⟨V2,own2,h2,ho2,hk2⟩ (QQ hbase bt)));have bH:=QA (bd.out.mv a6.out.mv);have aJ:=a6.out.size;clear y0 y1 y2 y3 y4 h2 ho2 hk2;have y0:=rc0 Q.out;have y1:=rc1 Q.out;have y2:=rc2 Q.out;have y3:=rc3 Q.out;have y4:=rc4 Q.out;go_wp2_with fail;refine Kn (R:=λa e a' X=>Je w2.drew r o K segs e a' X) ?_ ?_
 ·refine AM (λw'=>w'.heap[r]?=some (.cells (AF ver (.slice sa segs.length sc) mb B dead) 51 (0,0))) 17 (by kernel_rfl) ?_;have D:w2.drew.heap[r]?=some (.cells (AF ver (.slice sa segs.length sc) mb B dead) 51 (0,0)):=Q.out;have HN:Hid (Dq w2.drew (.slice sa segs.length sc) segs):=QA (bH.out.1.below (Below.drew (Below.refl _ _)));change Af _ _ _ _ _ _ _ _ _ w2.drew;obtain⟨W,hW⟩:∃q:World,w2.drew=q:=⟨_,rfl⟩
  rw[hW]at D HN ⊢;have hroot:=D;have C:=AC hroot;refine TK (i:=0) (v:=.pointer (some ⟨r,0,none⟩)) rfl (Or.inl ⟨by rfl,λw hSw=>by go_simp⟩) D ?_;simp only[Act.put,QD,QK,QI,QJ,QC,QH,QG];refine TK (i:=1) (v:=.pointer (some ⟨r,0,none⟩)) rfl (Or.inl ⟨by rfl,λw hSw=>by go_simp⟩) D ?_;simp only[Act.put,QD,QK,QI,QJ,QC,QH,QG];refine TK (i:=2) (v:=.pointer (some ⟨r,0,none⟩)) rfl (Or.inl ⟨by rfl,λw hSw=>by go_simp⟩) D ?_;simp only[Act.put,QD,QK,QI,QJ,QC,QH,QG];refine TK (i:=3) (v:=.pointer (some ⟨r,0,none⟩)) rfl (Or.inl ⟨by rfl,λw hSw=>by go_simp⟩) D ?_;simp only[Act.put,QD,QK,QI,QJ,QC,QH,QG];refine TK (i:=4) (v:=.int .i64 ver) rfl (Or.inl ⟨by rfl,λw hSw=>by have bP:=rc0 hSw;go_simp⟩) D ?_;simp only[Act.put,QD,QK,QI,QJ,QC,QH,QG];refine TK (i:=5) (v:=.int .i64 o) rfl (Or.inl ⟨by rfl,λw hSw=>by go_simp⟩) D ?_;simp only[Act.put,QD,QK,QI,QJ,QC,QH,QG];refine TK (i:=6) (v:=.pointer (some ⟨r,0,none⟩)) rfl (Or.inl ⟨by rfl,λw hSw=>by go_simp⟩) D ?_;simp only[Act.put,QD,QK,QI,QJ,QC,QH,QG];refine TK (i:=7) (v:=.pointer (some ⟨r,0,none⟩)) rfl (Or.inl ⟨by rfl,λw hSw=>by go_simp⟩) D ?_;simp only[Act.put,QD,QK,QI,QJ,QC,QH,QG];refine TK (i:=8) (v:=.pointer (some ⟨r,0,none⟩)) rfl (Or.inl ⟨by rfl,λw hSw=>by go_simp⟩) D ?_;simp only[Act.put,QD,QK,QI,QJ,QC,QH,QG];refine TK (i:=9) (v:=.pointer (some ⟨r,1,none⟩)) rfl (Or.inl ⟨by rfl,λw hSw=>by go_simp⟩) D ?_;simp only[Act.put,QD,QK,QI,QJ,QC,QH,QG];refine TK (i:=10) (v:=.slice sa segs.length sc) rfl (Or.inl ⟨by rfl,λw hSw=>by have bP:=rc1 hSw;go_simp⟩) D ?_;simp only[Act.put,QD,QK,QI,QJ,QC,QH,QG];refine TK (i:=12) (v:=.int .i64 K) rfl (Or.inl ⟨by rfl,λw hSw=>by go_simp⟩) D ?_;simp only[Act.put,QD,QK,QI,QJ,QC,QH,QG];have aB:=QA (RI.start W segs K);clear D hW y0 y1 y2 y3 y4;refine FO (i:=11) (k:=13) (m:=16) (by kernel_rfl) ?_ ?_ ?_
  ·skip
   refine AD (by decide) (λK11 HK11=>?_);simp only[QE,QL,QF,QN];go_wp2_with fail;refine (EU _ segs W (HN.out.below aB.out.bel) (by omega)).mono ?_;rintro e x1 ⟨v11,rfl,ho,hb⟩;obtain⟨va,vn,vc,hv,_⟩:=Am.form3 ho;subst hv;have aV:=QA (aB.out.s11 ho hb);clear ho hb;go_wp2;refine HK11.out _ _ ⟨λ_=>(aV.out.bel.block r C).trans hroot,?_⟩;clear HK11;refine Bg (i:=13) (k:=16) (by kernel_rfl) ?_ ?_
   ·skip
    refine AD (by decide) (λK13 HK13=>?_);simp only[QE,QL,QF,QN];go_wp2_with fail;have ag:=QA (aV.out.s13);refine HK13.out _ _ ⟨λ_=>(ag.out.bel.block r C).trans hroot,?_⟩;clear HK13;obtain⟨x2,E⟩:∃x,(x1).alloc (.cells #[.int .i64 K] 3)=x:=⟨_,rfl⟩
    rw[E]at ag ⊢;clear E;refine Bg (i:=14) (k:=16) (by kernel_rfl) ?_ ?_
    ·skip
     refine AD (by decide) (λK14 HK14=>?_);simp only[QE,QL,QF,QN];have F:=ag.out.bel.size;go_wp2_with (first|(at_builtin;refine AX rfl _ _ rfl W.heap.size _ segs rfl (ag.out.c11 rfl) _ [K] rfl (A3 (ag.out.b13 rfl).2) (by simp) (by simp;omega) F ?_;intro u14 x3 ho hg hl;have a4:=QA (ag.out.s14 ho hg hl);obtain⟨J,I,G,Z,_⟩:=Am.form3 ho;subst Z;clear ho hg hl)|fail);refine HK14.out _ _ ⟨λ_=>(a4.out.bel.block r C).trans hroot,?_⟩;clear HK14;have D:=(a4.out.bel.block r C).trans hroot;refine TK (i:=15) (v:=.agg #[.int .i64 o,.slice J I G]) rfl (Or.inl ⟨by rfl,λw hSw=>by go_simp⟩) D ?_;simp only[Act.put,QD,QK,QI,QJ,QC,QH,QG];clear D;refine TO (i:=16) ?_;refine AD (by decide) (λK16 HK16=>?_);simp only[QE,QL,QF,QN];go_wp2_with fail;have aD:=QA (a4.out.s16);refine HK16.out _ _ ⟨λ_=>(aD.out.bel.block r C).trans hroot,?_⟩;clear HK16;obtain⟨x4,E⟩:∃x,(x3).alloc (.cells #[.int .i64 0,.slice none 0 0] 47)=x:=⟨_,rfl⟩
     rw[E]at aD ⊢;clear E;refine TO (i:=17) ?_;refine AD (by decide) (λK17 HK17=>?_);simp only[QE,QL,QF,QN];have A:=(aD.out.b16 rfl).2;have q0:=AA A 0 _ rfl;have q1:=AA A 1 _ rfl;have g0:=AE A 0;have g1:=AE A 1;go_wp2_with fail;refine HK17.out _ _ ⟨λh=>absurd h (by decide),?_⟩;clear HK17;refine AO (by kernel_rfl) ?_ _;exact⟨_,_,_,_,_,_,_,_,_,_,_,_,_,_,_,_,_,_,_,_,_,_,_,_,_,_,_,_,_,_,_,_,_,_,_,_,_,_,_,_,_,_,_,_,_,_,_,_,_,_,_,_,_,_,_,_,rfl,aD.out.fin o⟩
    ·skip
     refine AD (by decide) (λK16 HK16=>?_);simp only[QE,QL,QF,QN];go_wp2_with fail;have av:=QA (ag.out.s16);refine HK16.out _ _ ⟨λ_=>(av.out.bel.block r C).trans hroot,?_⟩;clear HK16;obtain⟨x5,E⟩:∃x,(x2).alloc (.cells #[.int .i64 0,.slice none 0 0] 47)=x:=⟨_,rfl⟩
     rw[E]at av ⊢;clear E;refine TO (i:=14) ?_;refine AD (by decide) (λK14 HK14=>?_);simp only[QE,QL,QF,QN];have F:=av.out.bel.size;go_wp2_with (first|(at_builtin;refine AX rfl _ _ rfl W.heap.size _ segs rfl (av.out.c11 rfl) _ [K] rfl (A3 (av.out.b13 rfl).2) (by simp) (by simp;omega) F ?_;intro u14 x6 ho hg hl;have aF:=QA (av.out.s14 ho hg hl);obtain⟨J,I,G,Z,_⟩:=Am.form3 ho;subst Z;clear ho hg hl)|fail);refine HK14.out _ _ ⟨λ_=>(aF.out.bel.block r C).trans hroot,?_⟩;clear HK14;have D:=(aF.out.bel.block r C).trans hroot;refine TK (i:=15) (v:=.agg #[.int .i64 o,.slice J I G]) rfl (Or.inl ⟨by rfl,λw hSw=>by go_simp⟩) D ?_;simp only[Act.put,QD,QK,QI,QJ,QC,QH,QG];clear D;refine TO (i:=17) ?_;refine AD (by decide) (λK17 HK17=>?_);simp only[QE,QL,QF,QN];have A:=(aF.out.b16 rfl).2;have q0:=AA A 0 _ rfl;have q1:=AA A 1 _ rfl;have g0:=AE A 0;have g1:=AE A 1;go_wp2_with fail;refine HK17.out _ _ ⟨λh=>absurd h (by decide),?_⟩;clear HK17;refine AO (by kernel_rfl) ?_ _;exact⟨_,_,_,_,_,_,_,_,_,_,_,_,_,_,_,_,_,_,_,_,_,_,_,_,_,_,_,_,_,_,_,_,_,_,_,_,_,_,_,_,_,_,_,_,_,_,_,_,_,_,_,_,_,_,_,_,rfl,aF.out.fin o⟩
   ·skip
    refine AD (by decide) (λK16 HK16=>?_);simp only[QE,QL,QF,QN];go_wp2_with fail;have a8:=QA (aV.out.s16);refine HK16.out _ _ ⟨λ_=>(a8.out.bel.block r C).trans hroot,?_⟩;clear HK16;obtain⟨x7,E⟩:∃x,(x1).alloc (.cells #[.int .i64 0,.slice none 0 0] 47)=x:=⟨_,rfl⟩
    rw[E]at a8 ⊢;clear E;refine TO (i:=13) ?_;refine AD (by decide) (λK13 HK13=>?_);simp only[QE,QL,QF,QN];go_wp2_with fail;have ar:=QA (a8.out.s13);refine HK13.out _ _ ⟨λ_=>(ar.out.bel.block r C).trans hroot,?_⟩;clear HK13;obtain⟨x8,E⟩:∃x,(x7).alloc (.cells #[.int .i64 K] 3)=x:=⟨_,rfl⟩
    rw[E]at ar ⊢;clear E;refine TO (i:=14) ?_;refine AD (by decide) (λK14 HK14=>?_);simp only[QE,QL,QF,QN];have F:=ar.out.bel.size;go_wp2_with (first|(at_builtin;refine AX rfl _ _ rfl W.heap.size _ segs rfl (ar.out.c11 rfl) _ [K] rfl (A3 (ar.out.b13 rfl).2) (by simp) (by simp;omega) F ?_;intro u14 x9 ho hg hl;have aH:=QA (ar.out.s14 ho hg hl);obtain⟨J,I,G,Z,_⟩:=Am.form3 ho;subst Z;clear ho hg hl)|fail);refine HK14.out _ _ ⟨λ_=>(aH.out.bel.block r C).trans hroot,?_⟩;clear HK14;have D:=(aH.out.bel.block r C).trans hroot;refine TK (i:=15) (v:=.agg #[.int .i64 o,.slice J I G]) rfl (Or.inl ⟨by rfl,λw hSw=>by go_simp⟩) D ?_;simp only[Act.put,QD,QK,QI,QJ,QC,QH,QG];clear D;refine TO (i:=17) ?_;refine AD (by decide) (λK17 HK17=>?_);simp only[QE,QL,QF,QN];have A:=(aH.out.b16 rfl).2;have q0:=AA A 0 _ rfl;have q1:=AA A 1 _ rfl;have g0:=AE A 0;have g1:=AE A 1;go_wp2_with fail;refine HK17.out _ _ ⟨λh=>absurd h (by decide),?_⟩;clear HK17;refine AO (by kernel_rfl) ?_ _;exact⟨_,_,_,_,_,_,_,_,_,_,_,_,_,_,_,_,_,_,_,_,_,_,_,_,_,_,_,_,_,_,_,_,_,_,_,_,_,_,_,_,_,_,_,_,_,_,_,_,_,_,_,_,_,_,_,_,rfl,aH.out.fin o⟩
  ·skip
   refine AD (by decide) (λK13 HK13=>?_);simp only[QE,QL,QF,QN];go_wp2_with fail;have ad:=QA (aB.out.s13);refine HK13.out _ _ ⟨λ_=>(ad.out.bel.block r C).trans hroot,?_⟩;clear HK13;obtain⟨bo,E⟩:∃x,(W).alloc (.cells #[.int .i64 K] 3)=x:=⟨_,rfl⟩
   rw[E]at ad ⊢;clear E;refine Bg (i:=11) (k:=16) (by kernel_rfl) ?_ ?_
   ·skip
    refine AD (by decide) (λK11 HK11=>?_);simp only[QE,QL,QF,QN];go_wp2_with fail;refine (EU _ segs bo (HN.out.below ad.out.bel) (by omega)).mono ?_;rintro e x11 ⟨v11,rfl,ho,hb⟩;obtain⟨va,vn,vc,hv,_⟩:=Am.form3 ho;subst hv;have O:=QA (ad.out.s11 ho hb);clear ho hb;go_wp2;refine HK11.out _ _ ⟨λ_=>(O.out.bel.block r C).trans hroot,?_⟩;clear HK11;refine Bg (i:=14) (k:=16) (by kernel_rfl) ?_ ?_
    ·skip
     refine AD (by decide) (λK14 HK14=>?_);simp only[QE,QL,QF,QN];have F:=O.out.bel.size;go_wp2_with (first|(at_builtin;refine AX rfl _ _ rfl W.heap.size _ segs rfl (O.out.c11 rfl) _ [K] rfl (A3 (O.out.b13 rfl).2) (by simp) (by simp;omega) F ?_;intro u14 x12 ho hg hl;have ay:=QA (O.out.s14 ho hg hl);obtain⟨J,I,G,Z,_⟩:=Am.form3 ho;subst Z;clear ho hg hl)|fail);refine HK14.out _ _ ⟨λ_=>(ay.out.bel.block r C).trans hroot,?_⟩;clear HK14;have D:=(ay.out.bel.block r C).trans hroot;refine TK (i:=15) (v:=.agg #[.int .i64 o,.slice J I G]) rfl (Or.inl ⟨by rfl,λw hSw=>by go_simp⟩) D ?_;simp only[Act.put,QD,QK,QI,QJ,QC,QH,QG];clear D;refine TO (i:=16) ?_;refine AD (by decide) (λK16 HK16=>?_);simp only[QE,QL,QF,QN];go_wp2_with fail;have al:=QA (ay.out.s16);refine HK16.out _ _ ⟨λ_=>(al.out.bel.block r C).trans hroot,?_⟩;clear HK16;obtain⟨cN,E⟩:∃x,(x12).alloc (.cells #[.int .i64 0,.slice none 0 0] 47)=x:=⟨_,rfl⟩
     rw[E]at al ⊢;clear E;refine TO (i:=17) ?_;refine AD (by decide) (λK17 HK17=>?_);simp only[QE,QL,QF,QN];have A:=(al.out.b16 rfl).2;have q0:=AA A 0 _ rfl;have q1:=AA A 1 _ rfl;have g0:=AE A 0;have g1:=AE A 1;go_wp2_with fail;refine HK17.out _ _ ⟨λh=>absurd h (by decide),?_⟩;clear HK17;refine AO (by kernel_rfl) ?_ _;exact⟨_,_,_,_,_,_,_,_,_,_,_,_,_,_,_,_,_,_,_,_,_,_,_,_,_,_,_,_,_,_,_,_,_,_,_,_,_,_,_,_,_,_,_,_,_,_,_,_,_,_,_,_,_,_,_,_,rfl,al.out.fin o⟩
    ·skip
     refine AD (by decide) (λK16 HK16=>?_);simp only[QE,QL,QF,QN];go_wp2_with fail;have N:=QA (O.out.s16);refine HK16.out _ _ ⟨λ_=>(N.out.bel.block r C).trans hroot,?_⟩;clear HK16;obtain⟨cg,E⟩:∃x,(x11).alloc (.cells #[.int .i64 0,.slice none 0 0] 47)=x:=⟨_,rfl⟩
     rw[E]at N ⊢;clear E;refine TO (i:=14) ?_;refine AD (by decide) (λK14 HK14=>?_);simp only[QE,QL,QF,QN];have F:=N.out.bel.size;go_wp2_with (first|(at_builtin;refine AX rfl _ _ rfl W.heap.size _ segs rfl (N.out.c11 rfl) _ [K] rfl (A3 (N.out.b13 rfl).2) (by simp) (by simp;omega) F ?_;intro u14 x15 ho hg hl;have ao:=QA (N.out.s14 ho hg hl);obtain⟨J,I,G,Z,_⟩:=Am.form3 ho;subst Z;clear ho hg hl)|fail);refine HK14.out _ _ ⟨λ_=>(ao.out.bel.block r C).trans hroot,?_⟩;clear HK14;have D:=(ao.out.bel.block r C).trans hroot;refine TK (i:=15) (v:=.agg #[.int .i64 o,.slice J I G]) rfl (Or.inl ⟨by rfl,λw hSw=>by go_simp⟩) D ?_;simp only[Act.put,QD,QK,QI,QJ,QC,QH,QG];clear D;refine TO (i:=17) ?_;refine AD (by decide) (λK17 HK17=>?_);simp only[QE,QL,QF,QN];have A:=(ao.out.b16 rfl).2;have q0:=AA A 0 _ rfl;have q1:=AA A 1 _ rfl;have g0:=AE A 0;have g1:=AE A 1;go_wp2_with fail;refine HK17.out _ _ ⟨λh=>absurd h (by decide),?_⟩;clear HK17;refine AO (by kernel_rfl) ?_ _;exact⟨_,_,_,_,_,_,_,_,_,_,_,_,_,_,_,_,_,_,_,_,_,_,_,_,_,_,_,_,_,_,_,_,_,_,_,_,_,_,_,_,_,_,_,_,_,_,_,_,_,_,_,_,_,_,_,_,rfl,ao.out.fin o⟩
   ·skip
    refine AD (by decide) (λK16 HK16=>?_);simp only[QE,QL,QF,QN];go_wp2_with fail;have aq:=QA (ad.out.s16);refine HK16.out _ _ ⟨λ_=>(aq.out.bel.block r C).trans hroot,?_⟩;clear HK16;obtain⟨bK,E⟩:∃x,(bo).alloc (.cells #[.int .i64 0,.slice none 0 0] 47)=x:=⟨_,rfl⟩
    rw[E]at aq ⊢;clear E;refine TO (i:=11) ?_;refine AD (by decide) (λK11 HK11=>?_);simp only[QE,QL,QF,QN];go_wp2_with fail;refine (EU _ segs bK (HN.out.below aq.out.bel) (by omega)).mono ?_;rintro e x17 ⟨v11,rfl,ho,hb⟩;obtain⟨va,vn,vc,hv,_⟩:=Am.form3 ho;subst hv;have aa:=QA (aq.out.s11 ho hb);clear ho hb;go_wp2;refine HK11.out _ _ ⟨λ_=>(aa.out.bel.block r C).trans hroot,?_⟩;clear HK11;refine TO (i:=14) ?_;refine AD (by decide) (λK14 HK14=>?_);simp only[QE,QL,QF,QN];have F:=aa.out.bel.size;go_wp2_with (first|(at_builtin;refine AX rfl _ _ rfl W.heap.size _ segs rfl (aa.out.c11 rfl) _ [K] rfl (A3 (aa.out.b13 rfl).2) (by simp) (by simp;omega) F ?_;intro u14 x18 ho hg hl;have aj:=QA (aa.out.s14 ho hg hl);obtain⟨J,I,G,Z,_⟩:=Am.form3 ho;subst Z;clear ho hg hl)|fail);refine HK14.out _ _ ⟨λ_=>(aj.out.bel.block r C).trans hroot,?_⟩;clear HK14;have D:=(aj.out.bel.block r C).trans hroot;refine TK (i:=15) (v:=.agg #[.int .i64 o,.slice J I G]) rfl (Or.inl ⟨by rfl,λw hSw=>by go_simp⟩) D ?_;simp only[Act.put,QD,QK,QI,QJ,QC,QH,QG];clear D;refine TO (i:=17) ?_;refine AD (by decide) (λK17 HK17=>?_);simp only[QE,QL,QF,QN];have A:=(aj.out.b16 rfl).2;have q0:=AA A 0 _ rfl;have q1:=AA A 1 _ rfl;have g0:=AE A 0;have g1:=AE A 1;go_wp2_with fail;refine HK17.out _ _ ⟨λh=>absurd h (by decide),?_⟩;clear HK17;refine AO (by kernel_rfl) ?_ _;exact⟨_,_,_,_,_,_,_,_,_,_,_,_,_,_,_,_,_,_,_,_,_,_,_,_,_,_,_,_,_,_,_,_,_,_,_,_,_,_,_,_,_,_,_,_,_,_,_,_,_,_,_,_,_,_,_,_,rfl,aj.out.fin o⟩
  ·skip
   refine AD (by decide) (λK16 HK16=>?_);simp only[QE,QL,QF,QN];go_wp2_with fail;have U:=QA (aB.out.s16);refine HK16.out _ _ ⟨λ_=>(U.out.bel.block r C).trans hroot,?_⟩;clear HK16;obtain⟨bi,E⟩:∃x,(W).alloc (.cells #[.int .i64 0,.slice none 0 0] 47)=x:=⟨_,rfl⟩
   rw[E]at U ⊢;clear E;refine Bg (i:=11) (k:=13) (by kernel_rfl) ?_ ?_
   ·skip
    refine AD (by decide) (λK11 HK11=>?_);simp only[QE,QL,QF,QN];go_wp2_with fail;refine (EU _ segs bi (HN.out.below U.out.bel) (by omega)).mono ?_;rintro e x20 ⟨v11,rfl,ho,hb⟩;obtain⟨va,vn,vc,hv,_⟩:=Am.form3 ho;subst hv;have aU:=QA (U.out.s11 ho hb);clear ho hb;go_wp2;refine HK11.out _ _ ⟨λ_=>(aU.out.bel.block r C).trans hroot,?_⟩;clear HK11;refine TO (i:=13) ?_;refine AD (by decide) (λK13 HK13=>?_);simp only[QE,QL,QF,QN];go_wp2_with fail;have L:=QA (aU.out.s13);refine HK13.out _ _ ⟨λ_=>(L.out.bel.block r C).trans hroot,?_⟩;clear HK13;obtain⟨cd,E⟩:∃x,(x20).alloc (.cells #[.int .i64 K] 3)=x:=⟨_,rfl⟩
    rw[E]at L ⊢;clear E;refine TO (i:=14) ?_;refine AD (by decide) (λK14 HK14=>?_);simp only[QE,QL,QF,QN];have F:=L.out.bel.size;go_wp2_with (first|(at_builtin;refine AX rfl _ _ rfl W.heap.size _ segs rfl (L.out.c11 rfl) _ [K] rfl (A3 (L.out.b13 rfl).2) (by simp) (by simp;omega) F ?_;intro u14 x22 ho hg hl;have ap:=QA (L.out.s14 ho hg hl);obtain⟨J,I,G,Z,_⟩:=Am.form3 ho;subst Z;clear ho hg hl)|fail);refine HK14.out _ _ ⟨λ_=>(ap.out.bel.block r C).trans hroot,?_⟩;clear HK14;have D:=(ap.out.bel.block r C).trans hroot;refine TK (i:=15) (v:=.agg #[.int .i64 o,.slice J I G]) rfl (Or.inl ⟨by rfl,λw hSw=>by go_simp⟩) D ?_;simp only[Act.put,QD,QK,QI,QJ,QC,QH,QG];clear D;refine TO (i:=17) ?_;refine AD (by decide) (λK17 HK17=>?_);simp only[QE,QL,QF,QN];have A:=(ap.out.b16 rfl).2;have q0:=AA A 0 _ rfl;have q1:=AA A 1 _ rfl;have g0:=AE A 0;have g1:=AE A 1;go_wp2_with fail;refine HK17.out _ _ ⟨λh=>absurd h (by decide),?_⟩;clear HK17;refine AO (by kernel_rfl) ?_ _;exact⟨_,_,_,_,_,_,_,_,_,_,_,_,_,_,_,_,_,_,_,_,_,_,_,_,_,_,_,_,_,_,_,_,_,_,_,_,_,_,_,_,_,_,_,_,_,_,_,_,_,_,_,_,_,_,_,_,rfl,ap.out.fin o⟩
   ·skip
    refine AD (by decide) (λK13 HK13=>?_);simp only[QE,QL,QF,QN];go_wp2_with fail;have ak:=QA (U.out.s13);refine HK13.out _ _ ⟨λ_=>(ak.out.bel.block r C).trans hroot,?_⟩;clear HK13;obtain⟨bG,E⟩:∃x,(bi).alloc (.cells #[.int .i64 K] 3)=x:=⟨_,rfl⟩
    rw[E]at ak ⊢;clear E;refine TO (i:=11) ?_;refine AD (by decide) (λK11 HK11=>?_);simp only[QE,QL,QF,QN];go_wp2_with fail;refine (EU _ segs bG (HN.out.below ak.out.bel) (by omega)).mono ?_;rintro e x24 ⟨v11,rfl,ho,hb⟩;obtain⟨va,vn,vc,hv,_⟩:=Am.form3 ho;subst hv;have ac:=QA (ak.out.s11 ho hb);clear ho hb;go_wp2;refine HK11.out _ _ ⟨λ_=>(ac.out.bel.block r C).trans hroot,?_⟩;clear HK11;refine TO (i:=14) ?_;refine AD (by decide) (λK14 HK14=>?_);simp only[QE,QL,QF,QN];have F:=ac.out.bel.size;go_wp2_with (first|(at_builtin;refine AX rfl _ _ rfl W.heap.size _ segs rfl (ac.out.c11 rfl) _ [K] rfl (A3 (ac.out.b13 rfl).2) (by simp) (by simp;omega) F ?_;intro u14 x25 ho hg hl;have am:=QA (ac.out.s14 ho hg hl);obtain⟨J,I,G,Z,_⟩:=Am.form3 ho;subst Z;clear ho hg hl)|fail);refine HK14.out _ _ ⟨λ_=>(am.out.bel.block r C).trans hroot,?_⟩;clear HK14;have D:=(am.out.bel.block r C).trans hroot;refine TK (i:=15) (v:=.agg #[.int .i64 o,.slice J I G]) rfl (Or.inl ⟨by rfl,λw hSw=>by go_simp⟩) D ?_;simp only[Act.put,QD,QK,QI,QJ,QC,QH,QG];clear D;refine TO (i:=17) ?_;refine AD (by decide) (λK17 HK17=>?_);simp only[QE,QL,QF,QN];have A:=(am.out.b16 rfl).2;have q0:=AA A 0 _ rfl;have q1:=AA A 1 _ rfl;have g0:=AE A 0;have g1:=AE A 1;go_wp2_with fail;refine HK17.out _ _ ⟨λh=>absurd h (by decide),?_⟩;clear HK17;refine AO (by kernel_rfl) ?_ _;exact⟨_,_,_,_,_,_,_,_,_,_,_,_,_,_,_,_,_,_,_,_,_,_,_,_,_,_,_,_,_,_,_,_,_,_,_,_,_,_,_,_,_,_,_,_,_,_,_,_,_,_,_,_,_,_,_,_,rfl,am.out.fin o⟩
 ·intro e a' X hin;cases e with
  | normal =>
   obtain⟨p,u,c1,c2,c4,c6,c7,c8,c9,cI,c11,b8,cj,c14,cw,cf,cA,cV,cy,cB,cJ,cH,cC,cc,cL,cG,cS,cX,ct,cT,cs,cq,cu,ch,b7,cp,cU,cm,cO,cE,cx,cb,cY,cn,ci,ca,cF,cl,ck,cr,cz,ce,cD,cM,cK,b9,rfl,bx,hp,an,ai⟩:=hin;have aL:Below w2.heap.size w2 X:=(Below.drew (Below.refl _ w2)).trans bx;have bF:w2.heap.size≤p:=hp;obtain⟨J,I,G,Z,_⟩:=Am.form3 ai;subst Z;have bw:=ai.nums;have HU:=QA ai;have bb:=QA bw;have bm:=QA an;have aZ:=QA aL;have HX:=QA (H2.out.kept (AB aL));have ae:Hid (X.heap[r]?=some (.cells (AF ver (.slice sa segs.length sc) mb B dead) 51 (0,0))):=QA ((aL.block r (AC Q.out)).trans Q.out);have z0:=AA an 0 _ rfl;have z1:=AA an 1 _ rfl;clear bx an ai bw aL y0 y1 y2 y3 y4;have y0:=rc0 ae.out;have y1:=rc1 ae.out;have y2:=rc2 ae.out;have y3:=rc3 ae.out;have y4:=rc4 ae.out;have a2:w2.heap.size≤X.heap.size:=aZ.out.size;have bc:Hid (SFr r own own2 w X):=QA (a6.out.trans (SFr.below aZ.out));have aR:Hid (Below base w X):=QA (be.out.trans (aZ.out.mono (QQ hbase aJ)))
   dsimp only
   go_wp2_with fail;refine Ai [5] (by kernel_rfl) (by kernel_rfl) ?_;simp only[Bo,QF,QN,QE,QL,Nat.sub_zero,Nat.reduceSub,Nat.reduceAdd]
   repeat (go_big_quiet_step (fail))
   refine wpQuiet_nil ?_;rintro _ ⟨nq,rfl⟩;have a7:=HX.out.kept (AB (Below.drewN (Below.refl _ X) nq));have ab:Below X.heap.size X (X.drewN nq):=Below.drewN (Below.refl _ X) nq;have aY:Hid ((X.drewN nq).heap[r]?=some (.cells (AF ver (.slice sa segs.length sc) mb B dead) 51 (0,0))):=QA ae.out;have aX:Hid ((X.drewN nq).heap[p]?=some (.cells #[.int .i64 o,.slice J I G] 47 (0,0))):=QA bm.out;have au:Hid (Am (X.drewN nq) w2.drew.heap.size (.slice J I G) (segs++[K])):=QA (HU.out.keep ab);have aS:Hid (Dq (X.drewN nq) (.slice J I G) (segs++[K])):=QA (bb.out.below ab);have bv:Hid (SFr r own own2 w (X.drewN nq)):=QA (bc.out.trans (SFr.below ab));have az:Hid (Below base w (X.drewN nq)):=QA (aR.out.trans (ab.mono (QQ hbase (QQ aJ a2))));have a9:w2.heap.size≤(X.drewN nq).heap.size:=a2;clear z0 z1 y0 y1 y2 y3 y4 HX ae bm HU bb bc aR a2 ab;obtain⟨Y,E⟩:∃x,X.drewN nq=x:=⟨_,rfl⟩
   rw[E]at a7 aY aX au aS bv az a9 ⊢;have bl:=QA a7;clear a7 E;go_wp2_with fail;refine (EM base B _ V2 own2 o _ (segs++[K]) Y bl.out (HE.out.below az.out) (QQ hbase (QQ aJ a9)) (k+2) d4 (by omega) (λz hz=>by rw[d5.2]at hz;cases hz) aS.out (by simp;omega)).mono ?_;rintro e w5 ⟨rfl,V5,own5,h5,ho5,hk5⟩;rw[d2];have H5:=QA h5;have bh:Hid (SFr r own own5 w w5):=QA (bv.out.trans (SFr.kept ho5 hk5));have bu:=AC aY.out;have T:Hid (w5.heap[r]?=some (.cells (AF ver (.slice sa segs.length sc) mb B dead) 51 (0,0))):=QA ((hk5.block r bu (by rw[bj];simp)).trans aY.out);have bI:own2 p=.other:=H2.out.fresh p bF;have bf:Hid (w5.heap[p]?=some (.cells #[.int .i64 o,.slice J I G] 47 (0,0))):=QA ((hk5.block p (AC aX.out) (by rw[bI];simp)).trans aX.out);have bg:Am w5 w2.drew.heap.size (.slice J I G) (segs++[K]):=AN au.out λg hg=>hk5.block g (au.out.lt g hg).2 (by
    have h1:w2.heap.size≤g:=(au.out.lt g hg).1;rw[H2.out.fresh g h1];simp)
   have bQ:=QA bg;have bk:Hid (Below base w w5):=QA (az.out.trans (AQ.below0 bl.out ⟨V5,own5,h5,ho5,hk5⟩ (QQ hbase (QQ aJ a9))));have br:own5 r=.other:=(ho5 r bu).trans bj;have bp:Hid (∀g,(Value.slice J I G).ownBlock=some g→own5 g=.other∧g≠r):=QA λg hg=>by
    have h1:w2.heap.size≤g:=(au.out.lt g hg).1;have h2:=(au.out.lt g hg).2;have h3:=AC Q.out;exact⟨(ho5 g h2).trans (H2.out.fresh g h1),by omega⟩
   clear h5 ho5 hk5 bg;have z0:=AA bf.out 0 _ rfl;have z1:=AA bf.out 1 _ rfl;have f0:=AE T.out 0;have f1:=AE T.out 1;have y0:=rc0 T.out;have y1:=rc1 T.out;have y2:=rc2 T.out;have y3:=rc3 T.out;have y4:=rc4 T.out;go_wp2_with fail
   repeat (go_big_quiet_step (fail))
   refine wpQuiet_nil ?_;rintro _ ⟨n7,rfl⟩;go_wp2_with fail;refine bodyPost_ret (v:=.int .i64 0) (by simp[results,Tryz.results37,go_sem]) rfl ?_;have a1:Below w5.heap.size w5 (w5.drewN n7):=Below.drewN (Below.refl _ w5) n7;have bM:Kept own5 (·=.other) w5 (((w5.drewN n7).setCell ⟨r,0,none⟩ (.int .i64 o)).setCell ⟨r,1,none⟩ (.slice J I G)):=((AB a1).setCell ⟨r,0,none⟩ br _).setCell ⟨r,1,none⟩ br _;have bN:Am (((w5.drewN n7).setCell ⟨r,0,none⟩ (.int .i64 o)).setCell ⟨r,1,none⟩ (.slice J I G)) w2.drew.heap.size (.slice J I G) (segs++[K]):=AN bQ.out λg hg=>by
    have h1:=(bp.out g hg).2;exact (Below.heap_setCell _ _ _ g h1).trans (Below.heap_setCell _ _ _ g h1)
   refine⟨rfl,V5,own5,.slice J I G,H5.out.kept bM,((bh.out.trans (SFr.below a1)).trans (SFr.set _ 0 _)).trans (SFr.set _ 1 _),((bk.out.trans (a1.mono (QQ hbase bh.out.size))).setCell (p:=⟨r,0,none⟩) hrb _).setCell (p:=⟨r,1,none⟩) hrb _,?_,bN.nums,λq n c e _=>bp.out q.block (by rw[e];rfl)⟩;exact heap_set (heap_set (w:=w5.drewN n7) T.out _) _
  | _=>exact hin.elim
open Go.ChangeShapes Go.WideShapes Go.ChangeAt
theorem Du:Tryz.prog.cellsOf 40=32:=by kernel_rfl
theorem Is:Tryz.prog.cellsOf 3=1:=by kernel_rfl
theorem JR:Tryz.prog.cellsOf 41=1:=by kernel_rfl
theorem Fq:Tryz.prog.cellsOf 43=34:=by kernel_rfl
theorem Hm {α:Type} {n:Nat} {Q:Nat→α→Prop} (h:∀i,i<n→∃x,Q i x):∃ls:List α,ls.length=n∧∀(i:Nat) x,ls[i]?=some x→Q i x:=by
 refine⟨List.ofFn λi:Fin n=>(h i.1 i.2).choose,by simp,λi x hi=>?_⟩;have o:i<n:=by simpa using (List.getElem?_eq_some_iff.1 hi).1
 rw[List.getElem?_ofFn,dif_pos o]at hi;cases hi;exact (h i o).choose_spec
theorem C9 {α:Type} {xs:List α} {n i:Nat} (h:xs.length=n) (hi:i<n):∃y,xs[i]?=some y:=⟨_,ZG (by omega)⟩
def Low (W:World):Nat→Prop:=λb=>b<W.heap.size
theorem AZ.low {W:World} {v:Value} {l:List UInt8} (h:AZ W v l):Ax W (Low W) v l:=⟨h,λp n c e hl=>by
 obtain⟨a,cap,B,_,_,D⟩:=h;obtain⟨b,o,C,A,_⟩:=D 0 _ (ZG hl);rw[B,C]at e;simp only[Value.slice.injEq,Option.some.injEq]at e;rw[← e.1];exact A⟩
section
set_option maxRecDepth 100000
variable {H : Type} {enc : TypeId × Value → H} {W : World}
theorem Iu {cs:List Value} {x:DataW H×List MemPlace} {fuel:Nat} (hf:DataW.trod enc Tryz.prog W 0 (λ_=>true) true fuel 41 cs=some x):∃v l,cs=[v]∧AZ W v l∧l.length≤maxLen:=by
 rcases open_ints Tryz.underlying41 Tryz.underlying5 H7 hf with⟨rfl,hx⟩|⟨a,len,cap,ss,rfl,_,hl,hm,hz,hx,hcell,hwz⟩
 ·exact⟨_,[],rfl,⟨none,0,rfl,by simp,by simp,by simp⟩,by simp⟩
 ·skip
  simp only[if_true]at hz;obtain⟨b,D,A⟩:=a;have o:(ss.take len).length=len:=by rw[List.length_take];omega
  refine⟨_,(ss.take len).map λz=>UInt8.ofNat z.toNat,rfl,?_,by rw[QV,o];omega⟩;refine⟨some ⟨b,D,A⟩,cap,by rw[QV,o],by rw[QV,o];exact hl,(λe=>by cases e),λi s hi=>?_⟩;rw[List.getElem?_map]at hi;obtain⟨z,C,rfl⟩:=Option.map_eq_some_iff.1 hi;have E:ss[i]?=some z:=Ix C;have F:i<ss.length:=(List.getElem?_eq_some_iff.1 E).1;have I:=hcell 0 (by omega);have B:A=none:=by simpa [Addr.add] using World.cell?_spot I
  subst B;have G:0≤z∧z≤255:=by
   have M:=hwz z (List.mem_of_mem_take (List.mem_of_getElem? C));have L:IntKind.u8.min=0:=rfl;have K:IntKind.u8.max=255:=rfl
   simpa [Lit.wf,L,K] using M
  refine⟨b,D,rfl,?_,?_⟩
  ·have:=Gj I
   simpa [Addr.add] using this
  ·have:=hcell i F;rw[add_plain]at this;rw[this,List.getD_eq_getElem?_getD,E];have J:(UInt8.ofNat z.toNat).toNat=z.toNat:=UInt8.toNat_ofNat_of_lt' (by show _<256;omega);rw[J,Int.toNat_of_nonneg G.1];rfl
theorem Ks {cs:List Value} {x:DataW H×List MemPlace} {fuel:Nat} (hf:DataW.trod enc Tryz.prog W 0 (λ_=>true) true fuel 40 cs=some x):∃k:List UInt8,k.length=32∧cs=AH k:=by
 obtain⟨M,m,-,-,I,C,A⟩:=DataW.trod_array Tryz.underlying40 hf;rw[Du]at I;have key:∀i,i<32→∃c:UInt8,cs[i]?=some (.int .u8 (c.toNat:Int)):=λi hi=>by
  obtain⟨y,K⟩:=C9 C hi;have E:=A i hi;rw[K,H7]at E;obtain⟨n,e,-,L⟩:=DataW.trod_int Tryz.underlying5 E;have D:0≤n∧n≤255:=by
   have J:IntKind.u8.min=0:=rfl;have G:IntKind.u8.max=255:=rfl
   simpa [Lit.wf,J,G] using L
  rw[Nat.mul_one,List.drop_eq_getElem_cons (by omega:i<cs.length),QF,QN]at e;simp only[List.cons.injEq,and_true]at e;refine⟨UInt8.ofNat n.toNat,?_⟩;rw[ZG (by omega:i<cs.length),e,UInt8.toNat_ofNat_of_lt' (by show _<256;omega),Int.toNat_of_nonneg D.1]
 obtain⟨k,o,B⟩:=Hm key;refine⟨k,o,List.ext_getElem? λi=>?_⟩;unfold AH;rw[List.getElem?_map];by_cases hi:i<32
 ·obtain⟨c,F⟩:=C9 o hi;rw[F,B i c F];rfl
 ·rw[List.getElem?_eq_none (by omega),List.getElem?_eq_none (by omega)];rfl
def Ih (p:Sto.Op×Value):Prop:=p.1.2.2.length≤maxLen∧-9223372036854775808≤p.1.2.1∧p.1.2.1≤9223372036854775807
theorem LI {cs:List Value} {x:DataW H×List MemPlace} {fuel:Nat} (hf:DataW.trod enc Tryz.prog W 0 (λ_=>true) true fuel 43 cs=some x) :
  ∃p:Sto.Op×Value,p.1.1.length=32∧cs=AG p.1 p.2∧AZ W p.2 p.1.2.2∧Ih p:=by
 obtain⟨L,n,-,-,Q,A,o⟩:=DataW.trod_struct Tryz.underlying43 hf;rw[Fq]at Q;have G:DataW.trod enc Tryz.prog W 0 (λ_=>true) true n 40 ((cs.drop 0).take (Tryz.prog.cellsOf 40))=L[0]?:=o 0 _ rfl;have D:DataW.trod enc Tryz.prog W 0 (λ_=>true) true n 3 ((cs.drop 32).take (Tryz.prog.cellsOf 3))=L[1]?:=o 1 _ rfl;have I:DataW.trod enc Tryz.prog W 0 (λ_=>true) true n 41 ((cs.drop 33).take (Tryz.prog.cellsOf 41))=L[2]?:=o 2 _ rfl;rw[Du,QL]at G;rw[Is]at D;rw[JR]at I;obtain⟨V,T⟩:=C9 (i:=0) A (by decide);obtain⟨Y,J⟩:=C9 (i:=1) A (by decide);obtain⟨X,E⟩:=C9 (i:=2) A (by decide);rw[T]at G;rw[J]at D;rw[E]at I;obtain⟨k,P,S⟩:=Ks G;obtain⟨O,N,-,K⟩:=DataW.trod_int Tryz.underlying3 D;obtain⟨v,l,M,R,F⟩:=Iu I;refine⟨((k,O,l),v),P,?_,R,F,by
  have C:IntKind.i64.min=-9223372036854775808:=by decide
  have B:IntKind.i64.max=9223372036854775807:=by decide
  simpa [Lit.wf,C,B] using K⟩
 have J:cs=cs.take 32++cs.drop 32:=(List.take_append_drop 32 cs).symm;have E:cs.drop 32=(cs.drop 32).take 1++cs.drop 33:=by
  have:=(List.take_append_drop 1 (cs.drop 32)).symm
  rwa [List.drop_drop]at this
 have U:cs.drop 33=(cs.drop 33).take 1:=(List.take_of_length_le (by rw[List.length_drop];omega)).symm;rw[J,E,U,S,N,M];rfl
theorem Ku {cs:List Value} {x:DataW H×List MemPlace} {fuel:Nat} (hf:DataW.trod enc Tryz.prog W 0 (λ_=>true) true fuel 22 cs=some x) :
  ∃v,∃l:Sto.ME,cs=[v]∧Al W (Low W) v l∧l.length≤maxLen∧∀p∈l,Ih p:=by
 rcases DataW.trod_slice Tryz.underlying22 hf with⟨rfl,-⟩|⟨a,len,cap,elems,rest,n',e2,rfl,-,-,L,hcm,hel,hrd,-⟩
 ·exact⟨_,[],rfl,⟨none,0,rfl,Nat.le_refl _,λi l I=>by simp at I⟩,by simp,λl hl=>by simp at hl⟩
 ·rw[Fq]at hrd;obtain⟨b,D,A⟩:=a;have Q:0<len→A=none:=λh0=>by
   have M:=hrd 0 h0;rw[ZG (by omega:0<elems.length),Option.bind_eq_some_iff]at M;obtain⟨cs,B,-⟩:=M;obtain⟨_,L,C⟩:=World.cells?_some B;have E:=C 0 (by omega);rw[ZG (by omega:0<cs.length)]at E;have T:((⟨b,D,A⟩:Addr).add (0*34)).add 0=⟨b,D,A⟩:=by simp[Addr.add]
   rw[T]at E;exact World.cell?_spot E
  have key:∀i,i<len→∃p:Sto.Op×Value,A=none∧p.1.1.length=32∧AZ W p.2 p.1.2.2∧Ih p∧b<W.heap.size∧W.rangeAt b (D+i*34) (AG p.1 p.2):=λi I=>by
   have M:=hrd i I;rw[ZG (by omega:i<elems.length),Option.bind_eq_some_iff]at M;obtain⟨cs,B,X⟩:=M;obtain⟨p,K,rfl,R,O⟩:=LI X;obtain⟨_,_,C⟩:=World.cells?_some B;have E:=C 0 (by omega);have G:A=none:=Q (by omega);subst G;refine⟨p,rfl,K,R,O,?_,λj c hj=>?_⟩
   ·rw[ZG (by rw[Ac K];omega:0<(AG p.1 p.2).length),Addr.add_add]at E;have O:=Gj E;have N:((⟨b,D,none⟩:Addr).add (i*34+0)).block=b:=by unfold Addr.add;split<;>rfl
    rw[N]at O;exact O
   ·have P:j<34:=by have:=(List.getElem?_eq_some_iff.1 hj).1;rwa [Ac K]at this
    have:=C j P;rw[add_plain,add_plain,hj]at this;exact this
  obtain⟨U,F,J⟩:=Hm key;refine⟨_,U,rfl,⟨some ⟨b,D,A⟩,cap,by rw[F],by rw[F];exact L,λi p I=>?_⟩,by rw[F];omega,λo ho=>?_⟩
  ·obtain⟨S,K,R,-,N,V⟩:=J i p I;subst S;exact⟨K,R.low,b,D,rfl,N,N,V⟩
  ·obtain⟨i,I⟩:=List.getElem?_of_mem ho;exact (J i o I).2.2.2.1
theorem ops_of {v:Value} {d:DataW H} {p:List MemPlace} (h:DataW.Trod enc Tryz.prog W 0 (λ_=>true) true 22 v d p)
  {r:Reach} {base:Nat} (hv:Value.okWide Tryz.prog W r base 22 v):∃l:Sto.ME,Al W (Low W) v l∧l.length≤maxLen∧∀p∈l,Ih p:=by
 obtain⟨F,o,A,rfl⟩:=okWide_slice Tryz.underlying22 hv;obtain⟨B,C⟩:=h;obtain⟨v,l,D,E⟩:=Ku C;have e:[Value.slice F o A]=[v]:=D;simp only[List.cons.injEq,and_true]at e;subst e;exact⟨l,E⟩
def EC (w:World) (F:Nat→Prop) (v:Value) (ll:List Sto.ME):Prop :=
 ∃a cap,v=.slice a ll.length cap∧∀(i:Nat) l,ll[i]?=some l→∃b off sv,a=some ⟨b,off,none⟩∧b<w.heap.size∧F b∧w.cell? ⟨b,off+i,none⟩=some sv∧Al w F sv l
theorem EC.form {w:World} {F:Nat→Prop} {v:Value} {ll:List Sto.ME} (h:EC w F v ll):∃a cap,v=.slice a ll.length cap:=by
 obtain⟨a,cap,o,_⟩:=h;exact⟨a,cap,o⟩
theorem EC.at {w:World} {F:Nat→Prop} {a:Option Addr} {n cap:Nat} {ll:List Sto.ME} (h:EC w F (.slice a n cap) ll) {i:Nat} {l:Sto.ME} (hi:ll[i]?=some l) :
  ∃b off sv,a=some ⟨b,off,none⟩∧b<w.heap.size∧w.cell? ⟨b,off+i,none⟩=some sv∧Al w F sv l:=by
 obtain⟨G,o,A,C⟩:=h;obtain⟨b,off,sv,e,B,_,D,E⟩:=C i l hi;simp only[Value.slice.injEq]at A;exact⟨b,off,sv,by rw[A.1,e],B,D,E⟩
theorem EC.mv {F F':Nat→Prop} {w w':World} {v:Value} {ll:List Sto.ME} (h:EC w F v ll) (m:MV F F' w w'):EC w' F' v ll:=by
 obtain⟨a,cap,C,B⟩:=h;refine⟨a,cap,C,λi x hi=>?_⟩;obtain⟨b,o,sv,e,A,H,D,E⟩:=B i x hi;obtain⟨I,G⟩:=m.2 b A H;exact⟨b,o,sv,e,Nat.lt_of_lt_of_le A m.1,I,by rw[World.cell?_of_block G];exact D,E.mv m⟩
end
open Go.ChangeShapes Go.WideShapes Go.ChangeAt
theorem own:ownKnob Tryz.prog.godebug=none:=by kernel_rfl
theorem laidOut:laidOutB Tryz.prog=true:=by kernel_rfl
abbrev laidList : List (String × DataW Unit) := [("math/bits.deBruijn32tab", Rows.laid_math_bits_deBruijn32tab), ("math/bits.deBruijn64tab", Rows.laid_math_bits_deBruijn64tab), ("internal/strconv.uint64pow10", Rows.laid_internal_strconv_uint64pow10), ("unicode/utf8.acceptRanges", Rows.laid_unicode_utf8_acceptRanges), ("strconv.ErrRange", Rows.laid_strconv_ErrRange), ("strconv.ErrSyntax", Rows.laid_strconv_ErrSyntax), ("unicode/utf8.first", Rows.laid_unicode_utf8_first)]
theorem Ja : "*" ++ "errors.errorString" = "*errors.errorString" := by decide
theorem Kk (u : TypeId) (h : Tryz.prog.typeName? 3 u = some "*errors.errorString") : u = 253 :=
 typeName_ptr_named (nm := "errors.errorString") (by rw [Ja]; kernel_rfl) (by kernel_rfl) (by decide) u (by rw [Ja]; exact h)
theorem Hu:Tryz.prog.cellsOf 255=1:=by kernel_rfl
theorem Gl:Tryz.prog.cellsOf 9=1:=by kernel_rfl
theorem Jv {W:World} {n:String} {g:Nat} {cs:Array Value} (hg:Tryz.prog.globalNamed n=some g) (h:W.var? Tryz.prog n=some cs):g<W.heap.size:=by
 unfold World.var? at h;rw[hg]at h;rcases Nat.lt_or_ge g W.heap.size with h'|h'
 ·exact h'
 ·simp[Array.getElem?_eq_none h']at h
theorem env_of {W:World} (hL:laidMet Tryz.prog laidList W) (hS:W.ShapedOpen Tryz.prog):Dm W.heap.size W:=by
 have C : Lib.TabIs Tryz.prog W "internal/strconv.uint64pow10" .u64 Lib.pow10Tab :=
  Lib.tabIs_of_head (g := 1) (by kernel_rfl) (by kernel_rfl) Tryz.underlying234 Tryz.underlying206 (by kernel_rfl) (by kernel_rfl) (show laidMet Tryz.prog (("internal/strconv.uint64pow10", Lib.tabData .u64 Lib.pow10Tab) :: _) W from hL.tail.tail)
 obtain⟨F,E,B,-,-,-⟩:=laid_sentinel hL.tail.tail.tail.tail (g:=3) (by kernel_rfl) (by kernel_rfl) Tryz.underlying175 Kk Tryz.underlying253 Tryz.underlying255 rfl rfl Tryz.underlying9 Hu Gl;obtain⟨a1,G,A,-,-,-⟩:=laid_sentinel hL.tail.tail.tail.tail.tail (g:=2) (by kernel_rfl) (by kernel_rfl) Tryz.underlying175 Kk Tryz.underlying253 Tryz.underlying255 rfl rfl Tryz.underlying9 Hu Gl;have D:∃m,W.cell? ⟨0,0,none⟩=some (.int .i64 m):=cell_of_shapedOpen_int (zero:=#[.int .i64 0]) (t:=3) hS (of_decide_eq_true (by kernel_rfl)) (by kernel_rfl) rfl (by kernel_rfl) (by kernel_rfl) Tryz.underlying3;obtain⟨m,o⟩:=D;exact⟨⟨C,⟨_,_,B⟩,⟨_,_,A⟩,Jv (by kernel_rfl) C,Jv (by kernel_rfl) B,Jv (by kernel_rfl) A⟩,⟨m,o⟩,Bz o⟩
abbrev LR:ByteArray:={ data:=#[105,110,118,97,108,105,100,32,115,121,110,116,97,120] }
abbrev LS:ByteArray:={ data:=#[118,97,108,117,101,32,111,117,116,32,111,102,32,114,97,110,103,101] }
noncomputable def low:Nat:=(World.holding Tryz.prog default ⟨#[],#[],[]⟩).heap.size
def LM:List Int:=[0,1,28,2,29,14,24,3,30,22,20,15,25,17,4,8,31,27,13,23,21,19,16,7,26,12,18,6,11,5,10,9]
def LJ:List Int:=[0,1,56,2,57,49,28,3,61,58,42,50,38,29,17,4,62,47,59,36,45,43,51,22,53,39,33,30,24,18,12,5,63,55,48,27,60,41,37,16,46,35,44,21,52,32,23,11,54,26,40,15,34,20,31,10,25,14,19,9,13,8,7,6]
noncomputable def laidWorld (os:Os):World :=
 let w0:=World.holding Tryz.prog os ⟨#[.cells #[.string LR] 255,.cells #[.string LS] 255],#[],[]⟩
 let put (h:Array Obj) (g:Nat) (cs:Array Value):Array Obj:=h.modify g fun
  | .cells _ t frozen=>.cells cs t frozen
  | o=>o
 let h1:=put w0.heap 2 #[.iface 253 (.pointer (some ⟨low,0,none⟩))]
 let h2:=put h1 3 #[.iface 253 (.pointer (some ⟨low+1,0,none⟩))]
 let h3:=put h2 1 (Lib.pow10Tab.map λz=>Value.int .u64 z).toArray
 let h4:=put h3 4 (LM.map λz=>Value.int .u8 z).toArray
 let h5:=put h4 5 (LJ.map λz=>Value.int .u8 z).toArray
 let h6:=put h5 6 (Lib.firstTab.map λz=>Value.int .u8 z).toArray
 let h7:=put h6 7 ((List.range 16).flatMap λi=>[Value.int .u8 (Lib.accLo i),Value.int .u8 (Lib.accHi i)]).toArray
 { w0 with heap:=h7 }
theorem laid_met (os:Os) (args:Array Value):laidMet Tryz.prog laidList ((laidWorld os).forCall (λ_ _=>0) ⟨#[],args,[]⟩).memory :=
 (LaidIn.of_run (l:=laidList) [2,3,1,4,5,6,7,low,low+1] 8 (by kernel_rfl) (by kernel_rfl) (by kernel_rfl) (by kernel_rfl)).met
end Go.Proofs.YtjldahcckmmenaaGreatDoor
