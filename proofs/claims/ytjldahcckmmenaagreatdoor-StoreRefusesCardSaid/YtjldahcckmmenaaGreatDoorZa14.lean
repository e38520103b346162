/-
  The store: maps.Clone of entries; room (a fresh BR segment), walked. (Printed by mkroom.py.) Changes, and batches of them, that came in. What the listed variables give; a world for the witnesses (layers 5 and 6).
-/
import Derived.Test.YtjldahcckmmenaaGreatDoorZa13
import Derived.Test.YtjldahcckmmenaaGreatDoorZa11
import Derived.Test.YtjldahcckmmenaaGreatDoorZa12
import Derived.Test.YtjldahcckmmenaaGreatDoorZa10
import Derived.Test.YtjldahcckmmenaaGreatDoorZa7
import Derived.Laws.IdiomArrays
import Derived.Test.YtjldahcckmmenaaGreatDoorCards
import Derived.Test.YtjldahcckmmenaaGreatDoorTie
import Derived.WalkKit
import Derived.ProofKit
import Derived.OpenShut
import Derived.Deep.DeepHandedRow
import Derived.Lib.LaidTab
import Derived.Lib.LaidIn
import Derived.Lib.LaidU8
import Derived.Stop.LaidErr
import Derived.LaidLaws
import Derived.Carry
open Array renaming getInternal_eq_getElem → QD
open Go.Lib renaming hid → QA
open List renaming setIfInBounds_toArray → QC, drop_succ_cons → QE, take_succ_cons → QF, set_cons_succ → QG, set_cons_zero → QH, getElem_cons_zero → QI, getElem_cons_succ → QJ, getElem_toArray → QK, drop_zero → QL, take_zero → QN, length_map → QV, getElem?_eq_getElem → ZG
open Nat renaming le_trans → QQ
namespace Go.Proofs.YtjldahcckmmenaaGreatDoor
set_option maxRecDepth 100000
set_option maxHeartbeats 4000000
set_option linter.unusedSimpArgs false
set_option linter.unusedVariables false
open Go Go.RowKit
open Go.Maps Go.WideMaps
def Hn:Go.Shelf.Ren:=⟨fun|5=>31|7=>57|n=>n,fun|4=>4|20=>20|23=>49|25=>40|3=>85|n=>n,fun|n=>n⟩
theorem HY:Go.Proofs.SlLaysW.n5 Tryz.prog Hn:={
 mixed:=by kernel_rfl
 f5:=⟨Tryz.f31.name,by decide,Tryz.func31.trans (congrArg some (by kernel_rfl))⟩
 f7:=Tryz.func57.trans (congrArg some (by kernel_rfl))
 t4:=Tryz.underlying4
 a4:=Tryz.isAgg4
 z4:=Tryz.sizeOf4
 v4:=Tryz.zeroValue4
 t20:=Tryz.underlying20
 a20:=Tryz.isAgg20
 z20:=Tryz.sizeOf20
 v20:=Tryz.zeroValue20
 t23:=Tryz.underlying49
 a23:=Tryz.isAgg49
 z23:=Tryz.sizeOf49
 v23:=Tryz.zeroValue49 }
theorem LS (b n:Nat) (l:Sto.ME) (w:World) (h:w.ownsMap Tryz.prog 40 Sto.elemR b n (Sto.datum l)) :
  Calls Tryz.prog 31 #[.map (some b)] w λe w'=>e=.returned (.map (some w.heap.size))∧w'.ownsMap Tryz.prog 40 Sto.elemR w.heap.size n (Sto.datum l)∧Below w.heap.size w w':=by
 refine (AnyW.maps_Clone_owns HY 40 Sto.elemR b n (Sto.datum l) w h).mono ?_;rintro e w' ⟨rfl,h1,_,h2⟩;exact⟨rfl,h1,h2⟩
theorem Dc.mv {F F':Nat→Prop} {w w':World} {v:Value} {l:List Int} (h:Dc w F v l) (m:MV F F' w w'):Dc w' F' v l:=by
 obtain⟨⟨a,cap,rfl,C⟩,B⟩:=h;refine⟨⟨_,_,rfl,λi x hi=>?_⟩,λp n c2 e hl=>?_⟩
 ·obtain⟨b,o,e,A,E⟩:=C i x hi;subst e;obtain⟨I,H⟩:=m.2 b A (B ⟨b,o,none⟩ _ _ rfl (by have:=(List.getElem?_eq_some_iff.1 hi).1;omega));exact⟨b,o,rfl,Nat.lt_of_lt_of_le A m.1,by rw[World.cell?_of_block H];exact E⟩
 ·obtain⟨b,o,D,A,_⟩:=C 0 _ (ZG hl);subst D;have G:p=⟨b,o,none⟩:=by simp only[Value.slice.injEq,Option.some.injEq]at e;exact e.1.symm
  subst G;exact (m.2 b A (B ⟨b,o,none⟩ _ _ rfl hl)).1
theorem LH {c:Code} {R:Act→Exit→Act→World→Prop} {Q':Exit→Act→World→Prop} {a:Act} {w:World} (h1:c.wp Tryz.prog (R a) a w) (h2:∀e a' w',R a e a' w'→Q' e a' w'):c.wp Tryz.prog Q' a w:=Code.wp_mono h2 h1
theorem Fy {P:Program} {ops:Array Oper} {Q:Exit→Act→World→Prop} {md:Region.Mode} {S:World→Prop} {n i k m:Nat} {fuel:Nat} {listed:Array Bool} {a:Act} {w:World} (hr:Region.ready md ops listed=[i,k,m])
  (h:wpOp P ops Q i (λa' w'=>(i<n→S w')∧Ad P md ops Q S n fuel (listed.setIfInBounds i true) a' w') a w)
  (h':wpOp P ops Q k (λa' w'=>(k<n→S w')∧Ad P md ops Q S n fuel (listed.setIfInBounds k true) a' w') a w)
  (h'':wpOp P ops Q m (λa' w'=>(m<n→S w')∧Ad P md ops Q S n fuel (listed.setIfInBounds m true) a' w') a w):Ad P md ops Q S n (fuel+1) listed a w :=
 ⟨λh0=>(by rw[hr]at h0;cases h0),λj hj=>by
  rw[hr]at hj;have:j=i∨j=k∨j=m:=by simpa using hj
  rcases this with rfl|rfl|rfl
  ·exact h
  ·exact h'
  ·exact h''⟩
theorem BF {X:World} {g:Nat} {x:Int} (h:X.heap[g]?=some (.cells #[.int .i64 x] 3 (0,0))):C7 X (.slice (some ⟨g,0,none⟩) 1 1) [x] :=
 ⟨some ⟨g,0,none⟩,1,rfl,λi y hi=>by
  cases i with
  | zero =>
   have o:x=y:=by simpa using hi
   subst o;exact⟨g,0,rfl,AD h,AA h 0 _ rfl⟩
  | succ i=>simp at hi⟩
structure RI (W:World) (segs:List Int) (id:Int) (d11 d13 d16 d14:Bool) (v:Value) (g p:Nat) (u:Value) (X:World):Prop where
 bel:Below W.heap.size W X
 c11:d11=true→Ai X W.heap.size v segs
 b13:d13=true→W.heap.size≤g∧X.heap[g]?=some (.cells #[.int .i64 id] 3 (0,0))
 b16:d16=true→W.heap.size≤p∧X.heap[p]?=some (.cells #[.int .i64 0,.slice none 0 0] 47 (0,0))
 c14:d14=true→Ai X W.heap.size u (segs++[id])
 a1:d11=true→d13=true→v.ownBlock≠some g
 a2:d11=true→d16=true→v.ownBlock≠some p
 a4:d14=true→d16=true→u.ownBlock≠some p
section
variable {W X X' : World} {segs : List Int} {id : Int} {d11 d13 d16 d14 : Bool} {v v' u u' : Value} {g p : Nat}
theorem RI.start (W:World) (segs:List Int) (id:Int):RI W segs id false false false false (.slice none 0 0) 0 0 (.slice none 0 0) W :=
 ⟨Below.refl _ _,λh=>(by cases h),λh=>(by cases h),λh=>(by cases h),λh=>(by cases h),λh=>(by cases h),λh=>(by cases h),λh=>(by cases h)⟩
theorem RI.s11 (h:RI W segs id false d13 d16 false v g p u X) (ho:Ai X' X.heap.size v' segs) (hb:Below X.heap.size X X'):RI W segs id true d13 d16 false v' g p u X' :=
 ⟨h.bel.trans (hb.mono h.bel.size),λ_=>ho.mono2 h.bel.size,λhd=>⟨(h.b13 hd).1,(hb.block _ (AD (h.b13 hd).2)).trans (h.b13 hd).2⟩,λhd=>⟨(h.b16 hd).1,(hb.block _ (AD (h.b16 hd).2)).trans (h.b16 hd).2⟩,λh=>(by cases h),
  λ_ hd e=>by have A:=(ho.lt _ e).1;have o:=AD (h.b13 hd).2;omega,λ_ hd e=>by have A:=(ho.lt _ e).1;have o:=AD (h.b16 hd).2;omega,λh=>(by cases h)⟩
theorem RI.s13 (h:RI W segs id d11 false d16 false v g p u X):RI W segs id d11 true d16 false v X.heap.size p u (X.alloc (.cells #[.int .i64 id] 3)):=by
 have o:Below X.heap.size X (X.alloc (.cells #[.int .i64 id] 3)):=(Below.refl _ _).alloc (Nat.le_refl _) _;exact⟨h.bel.trans (o.mono h.bel.size),λhd=>(h.c11 hd).keep o,λ_=>⟨h.bel.size,AJ X _⟩,λhd=>⟨(h.b16 hd).1,(o.block _ (AD (h.b16 hd).2)).trans (h.b16 hd).2⟩,λh=>(by cases h),
  λhd _ e=>by have A:=((h.c11 hd).lt _ e).2;omega,h.a2,λh=>(by cases h)⟩
theorem RI.s16 (h:RI W segs id d11 d13 false d14 v g p u X):RI W segs id d11 d13 true d14 v g X.heap.size u (X.alloc (.cells #[.int .i64 0,.slice none 0 0] 47)):=by
 have o:Below X.heap.size X (X.alloc (.cells #[.int .i64 0,.slice none 0 0] 47)):=(Below.refl _ _).alloc (Nat.le_refl _) _;exact⟨h.bel.trans (o.mono h.bel.size),λhd=>(h.c11 hd).keep o,λhd=>⟨(h.b13 hd).1,(o.block _ (AD (h.b13 hd).2)).trans (h.b13 hd).2⟩,λ_=>⟨h.bel.size,AJ X _⟩,λhd=>(h.c14 hd).keep o,
  h.a1,λhd _ e=>by have A:=((h.c11 hd).lt _ e).2;omega,λhd _ e=>by have A:=((h.c14 hd).lt _ e).2;omega⟩
theorem RI.s14 (h:RI W segs id true true d16 false v g p u X) (ho:Ai X' W.heap.size u' (segs++[id])) (hg:X.grownBy X' v.ownBlock) (hl:u'.ownBlock=v.ownBlock∨u'.ownBlock=some X.heap.size):RI W segs id false false d16 true v g p u' X' :=
 ⟨h.bel.grown hg h.bel.size (λk e=>((h.c11 rfl).lt k e).1),λh=>(by cases h),λh=>(by cases h),λhd=>⟨(h.b16 hd).1,(hg.block _ (AD (h.b16 hd).2) (λe=>h.a2 rfl hd e.symm)).trans (h.b16 hd).2⟩,λ_=>ho,
  λh=>(by cases h),λh=>(by cases h),λ_ hd e=>by
   rcases hl with e2|e2
   ·rw[e2]at e;exact h.a2 rfl hd e
   ·rw[e2]at e;have o:=AD (h.b16 hd).2;simp at e;omega⟩
theorem RI.fin (h:RI W segs id false false true true v g p u X) (ver1:Int) :
  Below W.heap.size W ((X.setCell ⟨p,0,none⟩ (.int .i64 ver1)).setCell ⟨p,1,none⟩ u)∧W.heap.size≤p∧((X.setCell ⟨p,0,none⟩ (.int .i64 ver1)).setCell ⟨p,1,none⟩ u).heap[p]?=some (.cells #[.int .i64 ver1,u] 47 (0,0)) ∧
   Ai ((X.setCell ⟨p,0,none⟩ (.int .i64 ver1)).setCell ⟨p,1,none⟩ u) W.heap.size u (segs++[id]):=by
 obtain⟨A,B⟩:=h.b16 rfl;refine⟨(h.bel.setCell (p:=⟨p,0,none⟩) A _).setCell (p:=⟨p,1,none⟩) A _,A,heap_set (heap_set B _) _,AQ (h.c14 rfl) λb hb=>?_⟩;have o:b≠p:=λe=>h.a4 rfl rfl (by rw[← e];exact hb)
 exact (Below.heap_setCell _ _ _ b o).trans (Below.heap_setCell _ _ _ b o)
end
def J2 (W:World) (r:Nat) (ver1 id:Int) (segs:List Int) (e:Exit) (a:Act) (X:World):Prop:=match e with
 | .normal=>∃(p:Nat) (u:Value) (c1 c2 c4 c6 c7 c8 c9 c10 c11 c12 c13 c14 c15 c16 c17 c18 c19 c20 c21 c22 c23 c24 c25 c26 c27 c28 c29 c30 c31 c32 c33 c34 c35 c36 c37 c38 c39 c40 c41 c42 c43 c44 c45 c46 c47 c48 c49 c50 c51 c52 c53 c54 c55 c56:Value),a=⟨#[.pointer (some ⟨r,0,none⟩),c1,c2,.int .i64 id,c4,.pointer (some ⟨p,0,none⟩),c6,c7,c8,c9,c10,c11,c12,c13,c14,c15,c16,c17,c18,c19,c20,c21,c22,c23,c24,c25,c26,c27,c28,c29,c30,c31,c32,c33,c34,c35,c36,c37,c38,c39,c40,c41,c42,c43,c44,c45,c46,c47,c48,c49,c50,c51,c52,c53,c54,c55,c56],[]⟩∧Below W.heap.size W X∧W.heap.size≤p∧X.heap[p]?=some (.cells #[.int .i64 ver1,u] 47 (0,0))∧Ai X W.heap.size u (segs++[id])
 | _=>False
theorem JG (base B r mb:Nat) (f:Fs.St) (V:FsV) (own:Nat→Tag) (ver:Int) (sv:Value) (S0:List Sto.Seg) (a:Int) (bs:List (List Sto.Op)) (M k:Nat) (ops:List Sto.Op) (dead:Bool) (w:World)
  (h:Ae base B f V own w) (hE:A0 base w) (hbase:base≤w.heap.size) (hroot:w.heap[r]?=some (.cells (AF ver sv mb B dead) 51 (0,0))) (hr0:own r=.other) (hrb:base≤r)
  (hN:Dc w (SF r own) sv (Sto.ids (S0++[(a,bs)]))) (hD:Sto.Disk f k ver (S0++[(a,bs)]) M) (hC:Sto.Can f k (S0++[(a,bs)]) M ops) (hb:4096<(Sto.fileOf bs).length) :
  Calls Tryz.prog 37 #[.pointer (some ⟨r,0,none⟩)] w λe w'=>e=.returned (.int .i64 0)∧∃V' own' sv',Ae base B (Mf.save (Sg.create f (a+1)).1 (wrap64 (ver+1)) (Sto.ids (S0++[(a,bs)])++[a+1])).1 V' own' w'∧SFr r own own' w w'∧Below base w w' ∧
   w'.heap[r]?=some (.cells (AF (ver+1) sv' mb B dead) 51 (0,0))∧Dc w' (SF r own') sv' (Sto.ids (S0++[(a,bs)])++[a+1]):=by
 obtain⟨d1,d2,d3,d4,d5,d6,d7⟩:=hD.grow hC hb;have aT:=Sto.act_ids hD;have P:=Mf.good_out hD.x.good;have ah:=P.2.1;have cL:=hC.small;have bF:(Sto.ids (S0++[(a,bs)])).length<32:=by
  have h1:=hC.few;rw[Sto.put_snoc,if_pos hb]at h1;have h2:(Sto.ids (S0++[(a,bs)])).length=(S0++[(a,bs)]).length:=QV _;simp at h1 h2 ⊢;omega
 have cQ:ver≤k∧1≤a∧a≤k∧1≤ver:=by
  have h1:=hD.x.small.2 (a,bs) (by simp);have h2:=Mf.incr_pos (Int.le_refl 0) P.2.2 a (by rw[Sto.ids_app];simp[Sto.ids]);exact⟨hD.x.small.1,h2.1,h1,P.1.1⟩
 obtain⟨segs,ay⟩:∃l,Sto.ids (S0++[(a,bs)])=l:=⟨_,rfl⟩
 rw[ay]at hN d2 d6 aT ah bF ⊢;have bm:=hD.x.sound;clear P ay d7 d6 hb hC hD;obtain⟨K,aQ⟩:∃x,a+1=x:=⟨_,rfl⟩
 obtain⟨o,aA⟩:∃x,ver+1=x:=⟨_,rfl⟩
 rw[aQ]at d1 d2 d4 d5 ⊢;have bP:wrap64 (ver+1)=o:=by rw[← aA];unfold wrap64;omega
 rw[bP]at d2 ⊢;rw[aA];obtain⟨sa,sc,rfl⟩:=hN.1.form;have bW:IntKind.i64.wrap o=o:=by rw[IntKind.wrap_i64];omega
 have bH:segs≠[]:=λe=>by rw[e]at ah;simp at ah
 have bk:=QA hN;have H:=QA h;have HE:=QA hE;have HR:=QA hroot;have bV:r<w.heap.size:=AD hroot;have b3:((segs.length:Int)==32)=false:=by rw[beq_eq_false_iff_ne];omega
 have bI:segs.length≤1000000:=by omega
 have y0:=rc0 hroot;have y1:=rc1 hroot;have y2:=rc2 hroot;have y3:=rc3 hroot;have y4:=rc4 hroot;clear hN h hE hroot;go_enter Tryz.func37,Tryz.ntmps37;go_wp2_with fail;refine (B3 w r B mb ver _ dead segs HR.out bk.out.1 bH bI).mono ?_;rintro e w1 ⟨rfl,n1,rfl⟩;rw[aT];have ad:Below w.heap.size w (w.drewN n1):=Below.drewN (Below.refl _ w) n1;have ae:=QA ad;have Q:Hid ((w.drewN n1).heap[r]?=some (.cells (AF ver (.slice sa segs.length sc) mb B dead) 51 (0,0))):=QA HR.out;have b4:wrap64 (a+1)=K:=by rw[← aQ];unfold wrap64;omega
 clear y0 y1 y2 y3 y4 ad;obtain⟨w1,bv⟩:∃x,w.drewN n1=x:=⟨_,rfl⟩
 rw[bv]at ae Q ⊢;clear bv;have y0:=rc0 Q.out;have y1:=rc1 Q.out;have y2:=rc2 Q.out;have y3:=rc3 Q.out;have y4:=rc4 Q.out;go_wp2_with fail;have bu:=ae.out.size;refine (Cw base B f V own K w1 (H.out.kept (AC ae.out)) (HE.out.below (ae.out.mono hbase)) (QQ hbase bu) (bm.small (by omega))).mono ?_;rintro e w2 ⟨rfl,V2,own2,h2,ho2,hk2⟩;rw[d1];have H2:=QA h2;have a3:Hid (SFr r own own2 w w2):=QA ((SFr.below ae.out).trans (SFr.kept ho2 hk2));have S:Hid (w2.heap[r]?=some (.cells (AF ver (.slice sa segs.length sc) mb B dead) 51 (0,0))):=QA ((hk2.block r (AD Q.out) (by rw[hr0];simp)).trans Q.out);have be:own2 r=.other:=(ho2 r (AD Q.out)).trans hr0;have bd:Hid (Below base w w2):=QA ((ae.out.mono hbase).trans (AV.below0 (H.out.kept (AC ae.out)) ⟨V2,own2,h2,ho2,hk2⟩ (QQ hbase bu)));have bJ:=QA (bk.out.mv a3.out.mv);have aK:=a3.out.size;clear y0 y1 y2 y3 y4 h2 ho2 hk2;have y0:=rc0 S.out;have y1:=rc1 S.out;have y2:=rc2 S.out;have y3:=rc3 S.out;have y4:=rc4 S.out;go_wp2_with fail;refine LH (R:=λa e a' X=>J2 w2.drew r o K segs e a' X) ?_ ?_
 ·refine AK (λw'=>w'.heap[r]?=some (.cells (AF ver (.slice sa segs.length sc) mb B dead) 51 (0,0))) 17 (by kernel_rfl) ?_;have D:w2.drew.heap[r]?=some (.cells (AF ver (.slice sa segs.length sc) mb B dead) 51 (0,0)):=S.out;have HN:Hid (C7 w2.drew (.slice sa segs.length sc) segs):=QA (bJ.out.1.below (Below.drew (Below.refl _ _)));change Ad _ _ _ _ _ _ _ _ _ w2.drew;obtain⟨W,hW⟩:∃q:World,w2.drew=q:=⟨_,rfl⟩
  rw[hW]at D HN ⊢;have hroot:=D;have C:=AD hroot;refine TK (i:=0) (v:=.pointer (some ⟨r,0,none⟩)) rfl (Or.inl ⟨by rfl,λw hSw=>by go_simp⟩) D ?_;simp only[Act.put,QD,QK,QI,QJ,QC,QH,QG];refine TK (i:=1) (v:=.pointer (some ⟨r,0,none⟩)) rfl (Or.inl ⟨by rfl,λw hSw=>by go_simp⟩) D ?_;simp only[Act.put,QD,QK,QI,QJ,QC,QH,QG];refine TK (i:=2) (v:=.pointer (some ⟨r,0,none⟩)) rfl (Or.inl ⟨by rfl,λw hSw=>by go_simp⟩) D ?_;simp only[Act.put,QD,QK,QI,QJ,QC,QH,QG];refine TK (i:=3) (v:=.pointer (some ⟨r,0,none⟩)) rfl (Or.inl ⟨by rfl,λw hSw=>by go_simp⟩) D ?_;simp only[Act.put,QD,QK,QI,QJ,QC,QH,QG];refine TK (i:=4) (v:=.int .i64 ver) rfl (Or.inl ⟨by rfl,λw hSw=>by have bN:=rc0 hSw;go_simp⟩) D ?_;simp only[Act.put,QD,QK,QI,QJ,QC,QH,QG];refine TK (i:=5) (v:=.int .i64 o) rfl (Or.inl ⟨by rfl,λw hSw=>by go_simp⟩) D ?_;simp only[Act.put,QD,QK,QI,QJ,QC,QH,QG];refine TK (i:=6) (v:=.pointer (some ⟨r,0,none⟩)) rfl (Or.inl ⟨by rfl,λw hSw=>by go_simp⟩) D ?_;simp only[Act.put,QD,QK,QI,QJ,QC,QH,QG];refine TK (i:=7) (v:=.pointer (some ⟨r,0,none⟩)) rfl (Or.inl ⟨by rfl,λw hSw=>by go_simp⟩) D ?_;simp only[Act.put,QD,QK,QI,QJ,QC,QH,QG];refine TK (i:=8) (v:=.pointer (some ⟨r,0,none⟩)) rfl (Or.inl ⟨by rfl,λw hSw=>by go_simp⟩) D ?_;simp only[Act.put,QD,QK,QI,QJ,QC,QH,QG];refine TK (i:=9) (v:=.pointer (some ⟨r,1,none⟩)) rfl (Or.inl ⟨by rfl,λw hSw=>by go_simp⟩) D ?_;simp only[Act.put,QD,QK,QI,QJ,QC,QH,QG];refine TK (i:=10) (v:=.slice sa segs.length sc) rfl (Or.inl ⟨by rfl,λw hSw=>by have bN:=rc1 hSw;go_simp⟩) D ?_;simp only[Act.put,QD,QK,QI,QJ,QC,QH,QG];refine TK (i:=12) (v:=.int .i64 K) rfl (Or.inl ⟨by rfl,λw hSw=>by go_simp⟩) D ?_;simp only[Act.put,QD,QK,QI,QJ,QC,QH,QG];have aN:=QA (RI.start W segs K);clear D hW y0 y1 y2 y3 y4;refine Fy (i:=11) (k:=13) (m:=16) (by kernel_rfl) ?_ ?_ ?_
  ·skip
   refine AB (by decide) (λK11 HK11=>?_);simp only[QE,QL,QF,QN];go_wp2_with fail;refine (Dg _ segs W (HN.out.below aN.out.bel) (by omega)).mono ?_;rintro e x1 ⟨v11,rfl,ho,hb⟩;obtain⟨va,vn,vc,hv,_⟩:=Ai.form3 ho;subst hv;have aV:=QA (aN.out.s11 ho hb);clear ho hb;go_wp2;refine HK11.out _ _ ⟨λ_=>(aV.out.bel.block r C).trans hroot,?_⟩;clear HK11;refine Bv (i:=13) (k:=16) (by kernel_rfl) ?_ ?_
   ·skip
    refine AB (by decide) (λK13 HK13=>?_);simp only[QE,QL,QF,QN];go_wp2_with fail;have af:=QA (aV.out.s13);refine HK13.out _ _ ⟨λ_=>(af.out.bel.block r C).trans hroot,?_⟩;clear HK13;obtain⟨x2,E⟩:∃x,(x1).alloc (.cells #[.int .i64 K] 3)=x:=⟨_,rfl⟩
    rw[E]at af ⊢;clear E;refine Bv (i:=14) (k:=16) (by kernel_rfl) ?_ ?_
    ·skip
     refine AB (by decide) (λK14 HK14=>?_);simp only[QE,QL,QF,QN];have F:=af.out.bel.size;go_wp2_with (first|(at_builtin;refine AX rfl _ _ rfl W.heap.size _ segs rfl (af.out.c11 rfl) _ [K] rfl (BF (af.out.b13 rfl).2) (by simp) (by simp;omega) F ?_;intro u14 x3 ho hg hl;have a6:=QA (af.out.s14 ho hg hl);obtain⟨I,G,J,Z,_⟩:=Ai.form3 ho;subst Z;clear ho hg hl)|fail);refine HK14.out _ _ ⟨λ_=>(a6.out.bel.block r C).trans hroot,?_⟩;clear HK14;have D:=(a6.out.bel.block r C).trans hroot;refine TK (i:=15) (v:=.agg #[.int .i64 o,.slice I G J]) rfl (Or.inl ⟨by rfl,λw hSw=>by go_simp⟩) D ?_;simp only[Act.put,QD,QK,QI,QJ,QC,QH,QG];clear D;refine TO (i:=16) ?_;refine AB (by decide) (λK16 HK16=>?_);simp only[QE,QL,QF,QN];go_wp2_with fail;have aG:=QA (a6.out.s16);refine HK16.out _ _ ⟨λ_=>(aG.out.bel.block r C).trans hroot,?_⟩;clear HK16;obtain⟨x4,E⟩:∃x,(x3).alloc (.cells #[.int .i64 0,.slice none 0 0] 47)=x:=⟨_,rfl⟩
     rw[E]at aG ⊢;clear E;refine TO (i:=17) ?_;refine AB (by decide) (λK17 HK17=>?_);simp only[QE,QL,QF,QN];have A:=(aG.out.b16 rfl).2;have q0:=AA A 0 _ rfl;have q1:=AA A 1 _ rfl;have g0:=AE A 0;have g1:=AE A 1;go_wp2_with fail;refine HK17.out _ _ ⟨λh=>absurd h (by decide),?_⟩;clear HK17;refine AN (by kernel_rfl) ?_ _;exact⟨_,_,_,_,_,_,_,_,_,_,_,_,_,_,_,_,_,_,_,_,_,_,_,_,_,_,_,_,_,_,_,_,_,_,_,_,_,_,_,_,_,_,_,_,_,_,_,_,_,_,_,_,_,_,_,_,rfl,aG.out.fin o⟩
    ·skip
     refine AB (by decide) (λK16 HK16=>?_);simp only[QE,QL,QF,QN];go_wp2_with fail;have au:=QA (af.out.s16);refine HK16.out _ _ ⟨λ_=>(au.out.bel.block r C).trans hroot,?_⟩;clear HK16;obtain⟨x5,E⟩:∃x,(x2).alloc (.cells #[.int .i64 0,.slice none 0 0] 47)=x:=⟨_,rfl⟩
     rw[E]at au ⊢;clear E;refine TO (i:=14) ?_;refine AB (by decide) (λK14 HK14=>?_);simp only[QE,QL,QF,QN];have F:=au.out.bel.size;go_wp2_with (first|(at_builtin;refine AX rfl _ _ rfl W.heap.size _ segs rfl (au.out.c11 rfl) _ [K] rfl (BF (au.out.b13 rfl).2) (by simp) (by simp;omega) F ?_;intro u14 x6 ho hg hl;have aO:=QA (au.out.s14 ho hg hl);obtain⟨I,G,J,Z,_⟩:=Ai.form3 ho;subst Z;clear ho hg hl)|fail);refine HK14.out _ _ ⟨λ_=>(aO.out.bel.block r C).trans hroot,?_⟩;clear HK14;have D:=(aO.out.bel.block r C).trans hroot;refine TK (i:=15) (v:=.agg #[.int .i64 o,.slice I G J]) rfl (Or.inl ⟨by rfl,λw hSw=>by go_simp⟩) D ?_;simp only[Act.put,QD,QK,QI,QJ,QC,QH,QG];clear D;refine TO (i:=17) ?_;refine AB (by decide) (λK17 HK17=>?_);simp only[QE,QL,QF,QN];have A:=(aO.out.b16 rfl).2;have q0:=AA A 0 _ rfl;have q1:=AA A 1 _ rfl;have g0:=AE A 0;have g1:=AE A 1;go_wp2_with fail;refine HK17.out _ _ ⟨λh=>absurd h (by decide),?_⟩;clear HK17;refine AN (by kernel_rfl) ?_ _;exact⟨_,_,_,_,_,_,_,_,_,_,_,_,_,_,_,_,_,_,_,_,_,_,_,_,_,_,_,_,_,_,_,_,_,_,_,_,_,_,_,_,_,_,_,_,_,_,_,_,_,_,_,_,_,_,_,_,rfl,aO.out.fin o⟩
   ·skip
    refine AB (by decide) (λK16 HK16=>?_);simp only[QE,QL,QF,QN];go_wp2_with fail;have a4:=QA (aV.out.s16);refine HK16.out _ _ ⟨λ_=>(a4.out.bel.block r C).trans hroot,?_⟩;clear HK16;obtain⟨x7,E⟩:∃x,(x1).alloc (.cells #[.int .i64 0,.slice none 0 0] 47)=x:=⟨_,rfl⟩
    rw[E]at a4 ⊢;clear E;refine TO (i:=13) ?_;refine AB (by decide) (λK13 HK13=>?_);simp only[QE,QL,QF,QN];go_wp2_with fail;have ar:=QA (a4.out.s13);refine HK13.out _ _ ⟨λ_=>(ar.out.bel.block r C).trans hroot,?_⟩;clear HK13;obtain⟨x8,E⟩:∃x,(x7).alloc (.cells #[.int .i64 K] 3)=x:=⟨_,rfl⟩
    rw[E]at ar ⊢;clear E;refine TO (i:=14) ?_;refine AB (by decide) (λK14 HK14=>?_);simp only[QE,QL,QF,QN];have F:=ar.out.bel.size;go_wp2_with (first|(at_builtin;refine AX rfl _ _ rfl W.heap.size _ segs rfl (ar.out.c11 rfl) _ [K] rfl (BF (ar.out.b13 rfl).2) (by simp) (by simp;omega) F ?_;intro u14 x9 ho hg hl;have aJ:=QA (ar.out.s14 ho hg hl);obtain⟨I,G,J,Z,_⟩:=Ai.form3 ho;subst Z;clear ho hg hl)|fail);refine HK14.out _ _ ⟨λ_=>(aJ.out.bel.block r C).trans hroot,?_⟩;clear HK14;have D:=(aJ.out.bel.block r C).trans hroot;refine TK (i:=15) (v:=.agg #[.int .i64 o,.slice I G J]) rfl (Or.inl ⟨by rfl,λw hSw=>by go_simp⟩) D ?_;simp only[Act.put,QD,QK,QI,QJ,QC,QH,QG];clear D;refine TO (i:=17) ?_;refine AB (by decide) (λK17 HK17=>?_);simp only[QE,QL,QF,QN];have A:=(aJ.out.b16 rfl).2;have q0:=AA A 0 _ rfl;have q1:=AA A 1 _ rfl;have g0:=AE A 0;have g1:=AE A 1;go_wp2_with fail;refine HK17.out _ _ ⟨λh=>absurd h (by decide),?_⟩;clear HK17;refine AN (by kernel_rfl) ?_ _;exact⟨_,_,_,_,_,_,_,_,_,_,_,_,_,_,_,_,_,_,_,_,_,_,_,_,_,_,_,_,_,_,_,_,_,_,_,_,_,_,_,_,_,_,_,_,_,_,_,_,_,_,_,_,_,_,_,_,rfl,aJ.out.fin o⟩
  ·skip
   refine AB (by decide) (λK13 HK13=>?_);simp only[QE,QL,QF,QN];go_wp2_with fail;have T:=QA (aN.out.s13);refine HK13.out _ _ ⟨λ_=>(T.out.bel.block r C).trans hroot,?_⟩;clear HK13;obtain⟨bo,E⟩:∃x,(W).alloc (.cells #[.int .i64 K] 3)=x:=⟨_,rfl⟩
   rw[E]at T ⊢;clear E;refine Bv (i:=11) (k:=16) (by kernel_rfl) ?_ ?_
   ·skip
    refine AB (by decide) (λK11 HK11=>?_);simp only[QE,QL,QF,QN];go_wp2_with fail;refine (Dg _ segs bo (HN.out.below T.out.bel) (by omega)).mono ?_;rintro e x11 ⟨v11,rfl,ho,hb⟩;obtain⟨va,vn,vc,hv,_⟩:=Ai.form3 ho;subst hv;have N:=QA (T.out.s11 ho hb);clear ho hb;go_wp2;refine HK11.out _ _ ⟨λ_=>(N.out.bel.block r C).trans hroot,?_⟩;clear HK11;refine Bv (i:=14) (k:=16) (by kernel_rfl) ?_ ?_
    ·skip
     refine AB (by decide) (λK14 HK14=>?_);simp only[QE,QL,QF,QN];have F:=N.out.bel.size;go_wp2_with (first|(at_builtin;refine AX rfl _ _ rfl W.heap.size _ segs rfl (N.out.c11 rfl) _ [K] rfl (BF (N.out.b13 rfl).2) (by simp) (by simp;omega) F ?_;intro u14 x12 ho hg hl;have az:=QA (N.out.s14 ho hg hl);obtain⟨I,G,J,Z,_⟩:=Ai.form3 ho;subst Z;clear ho hg hl)|fail);refine HK14.out _ _ ⟨λ_=>(az.out.bel.block r C).trans hroot,?_⟩;clear HK14;have D:=(az.out.bel.block r C).trans hroot;refine TK (i:=15) (v:=.agg #[.int .i64 o,.slice I G J]) rfl (Or.inl ⟨by rfl,λw hSw=>by go_simp⟩) D ?_;simp only[Act.put,QD,QK,QI,QJ,QC,QH,QG];clear D;refine TO (i:=16) ?_;refine AB (by decide) (λK16 HK16=>?_);simp only[QE,QL,QF,QN];go_wp2_with fail;have aq:=QA (az.out.s16);refine HK16.out _ _ ⟨λ_=>(aq.out.bel.block r C).trans hroot,?_⟩;clear HK16;obtain⟨b7,E⟩:∃x,(x12).alloc (.cells #[.int .i64 0,.slice none 0 0] 47)=x:=⟨_,rfl⟩
     rw[E]at aq ⊢;clear E;refine TO (i:=17) ?_;refine AB (by decide) (λK17 HK17=>?_);simp only[QE,QL,QF,QN];have A:=(aq.out.b16 rfl).2;have q0:=AA A 0 _ rfl;have q1:=AA A 1 _ rfl;have g0:=AE A 0;have g1:=AE A 1;go_wp2_with fail;refine HK17.out _ _ ⟨λh=>absurd h (by decide),?_⟩;clear HK17;refine AN (by kernel_rfl) ?_ _;exact⟨_,_,_,_,_,_,_,_,_,_,_,_,_,_,_,_,_,_,_,_,_,_,_,_,_,_,_,_,_,_,_,_,_,_,_,_,_,_,_,_,_,_,_,_,_,_,_,_,_,_,_,_,_,_,_,_,rfl,aq.out.fin o⟩
    ·skip
     refine AB (by decide) (λK16 HK16=>?_);simp only[QE,QL,QF,QN];go_wp2_with fail;have O:=QA (N.out.s16);refine HK16.out _ _ ⟨λ_=>(O.out.bel.block r C).trans hroot,?_⟩;clear HK16;obtain⟨cw,E⟩:∃x,(x11).alloc (.cells #[.int .i64 0,.slice none 0 0] 47)=x:=⟨_,rfl⟩
     rw[E]at O ⊢;clear E;refine TO (i:=14) ?_;refine AB (by decide) (λK14 HK14=>?_);simp only[QE,QL,QF,QN];have F:=O.out.bel.size;go_wp2_with (first|(at_builtin;refine AX rfl _ _ rfl W.heap.size _ segs rfl (O.out.c11 rfl) _ [K] rfl (BF (O.out.b13 rfl).2) (by simp) (by simp;omega) F ?_;intro u14 x15 ho hg hl;have ai:=QA (O.out.s14 ho hg hl);obtain⟨I,G,J,Z,_⟩:=Ai.form3 ho;subst Z;clear ho hg hl)|fail);refine HK14.out _ _ ⟨λ_=>(ai.out.bel.block r C).trans hroot,?_⟩;clear HK14;have D:=(ai.out.bel.block r C).trans hroot;refine TK (i:=15) (v:=.agg #[.int .i64 o,.slice I G J]) rfl (Or.inl ⟨by rfl,λw hSw=>by go_simp⟩) D ?_;simp only[Act.put,QD,QK,QI,QJ,QC,QH,QG];clear D;refine TO (i:=17) ?_;refine AB (by decide) (λK17 HK17=>?_);simp only[QE,QL,QF,QN];have A:=(ai.out.b16 rfl).2;have q0:=AA A 0 _ rfl;have q1:=AA A 1 _ rfl;have g0:=AE A 0;have g1:=AE A 1;go_wp2_with fail;refine HK17.out _ _ ⟨λh=>absurd h (by decide),?_⟩;clear HK17;refine AN (by kernel_rfl) ?_ _;exact⟨_,_,_,_,_,_,_,_,_,_,_,_,_,_,_,_,_,_,_,_,_,_,_,_,_,_,_,_,_,_,_,_,_,_,_,_,_,_,_,_,_,_,_,_,_,_,_,_,_,_,_,_,_,_,_,_,rfl,ai.out.fin o⟩
   ·skip
    refine AB (by decide) (λK16 HK16=>?_);simp only[QE,QL,QF,QN];go_wp2_with fail;have am:=QA (T.out.s16);refine HK16.out _ _ ⟨λ_=>(am.out.bel.block r C).trans hroot,?_⟩;clear HK16;obtain⟨bG,E⟩:∃x,(bo).alloc (.cells #[.int .i64 0,.slice none 0 0] 47)=x:=⟨_,rfl⟩
    rw[E]at am ⊢;clear E;refine TO (i:=11) ?_;refine AB (by decide) (λK11 HK11=>?_);simp only[QE,QL,QF,QN];go_wp2_with fail;refine (Dg _ segs bG (HN.out.below am.out.bel) (by omega)).mono ?_;rintro e x17 ⟨v11,rfl,ho,hb⟩;obtain⟨va,vn,vc,hv,_⟩:=Ai.form3 ho;subst hv;have U:=QA (am.out.s11 ho hb);clear ho hb;go_wp2;refine HK11.out _ _ ⟨λ_=>(U.out.bel.block r C).trans hroot,?_⟩;clear HK11;refine TO (i:=14) ?_;refine AB (by decide) (λK14 HK14=>?_);simp only[QE,QL,QF,QN];have F:=U.out.bel.size;go_wp2_with (first|(at_builtin;refine AX rfl _ _ rfl W.heap.size _ segs rfl (U.out.c11 rfl) _ [K] rfl (BF (U.out.b13 rfl).2) (by simp) (by simp;omega) F ?_;intro u14 x18 ho hg hl;have ao:=QA (U.out.s14 ho hg hl);obtain⟨I,G,J,Z,_⟩:=Ai.form3 ho;subst Z;clear ho hg hl)|fail);refine HK14.out _ _ ⟨λ_=>(ao.out.bel.block r C).trans hroot,?_⟩;clear HK14;have D:=(ao.out.bel.block r C).trans hroot;refine TK (i:=15) (v:=.agg #[.int .i64 o,.slice I G J]) rfl (Or.inl ⟨by rfl,λw hSw=>by go_simp⟩) D ?_;simp only[Act.put,QD,QK,QI,QJ,QC,QH,QG];clear D;refine TO (i:=17) ?_;refine AB (by decide) (λK17 HK17=>?_);simp only[QE,QL,QF,QN];have A:=(ao.out.b16 rfl).2;have q0:=AA A 0 _ rfl;have q1:=AA A 1 _ rfl;have g0:=AE A 0;have g1:=AE A 1;go_wp2_with fail;refine HK17.out _ _ ⟨λh=>absurd h (by decide),?_⟩;clear HK17;refine AN (by kernel_rfl) ?_ _;exact⟨_,_,_,_,_,_,_,_,_,_,_,_,_,_,_,_,_,_,_,_,_,_,_,_,_,_,_,_,_,_,_,_,_,_,_,_,_,_,_,_,_,_,_,_,_,_,_,_,_,_,_,_,_,_,_,_,rfl,ao.out.fin o⟩
  ·skip
   refine AB (by decide) (λK16 HK16=>?_);simp only[QE,QL,QF,QN];go_wp2_with fail;have aa:=QA (aN.out.s16);refine HK16.out _ _ ⟨λ_=>(aa.out.bel.block r C).trans hroot,?_⟩;clear HK16;obtain⟨bg,E⟩:∃x,(W).alloc (.cells #[.int .i64 0,.slice none 0 0] 47)=x:=⟨_,rfl⟩
   rw[E]at aa ⊢;clear E;refine Bv (i:=11) (k:=13) (by kernel_rfl) ?_ ?_
   ·skip
    refine AB (by decide) (λK11 HK11=>?_);simp only[QE,QL,QF,QN];go_wp2_with fail;refine (Dg _ segs bg (HN.out.below aa.out.bel) (by omega)).mono ?_;rintro e x20 ⟨v11,rfl,ho,hb⟩;obtain⟨va,vn,vc,hv,_⟩:=Ai.form3 ho;subst hv;have aR:=QA (aa.out.s11 ho hb);clear ho hb;go_wp2;refine HK11.out _ _ ⟨λ_=>(aR.out.bel.block r C).trans hroot,?_⟩;clear HK11;refine TO (i:=13) ?_;refine AB (by decide) (λK13 HK13=>?_);simp only[QE,QL,QF,QN];go_wp2_with fail;have L:=QA (aR.out.s13);refine HK13.out _ _ ⟨λ_=>(L.out.bel.block r C).trans hroot,?_⟩;clear HK13;obtain⟨cJ,E⟩:∃x,(x20).alloc (.cells #[.int .i64 K] 3)=x:=⟨_,rfl⟩
    rw[E]at L ⊢;clear E;refine TO (i:=14) ?_;refine AB (by decide) (λK14 HK14=>?_);simp only[QE,QL,QF,QN];have F:=L.out.bel.size;go_wp2_with (first|(at_builtin;refine AX rfl _ _ rfl W.heap.size _ segs rfl (L.out.c11 rfl) _ [K] rfl (BF (L.out.b13 rfl).2) (by simp) (by simp;omega) F ?_;intro u14 x22 ho hg hl;have ak:=QA (L.out.s14 ho hg hl);obtain⟨I,G,J,Z,_⟩:=Ai.form3 ho;subst Z;clear ho hg hl)|fail);refine HK14.out _ _ ⟨λ_=>(ak.out.bel.block r C).trans hroot,?_⟩;clear HK14;have D:=(ak.out.bel.block r C).trans hroot;refine TK (i:=15) (v:=.agg #[.int .i64 o,.slice I G J]) rfl (Or.inl ⟨by rfl,λw hSw=>by go_simp⟩) D ?_;simp only[Act.put,QD,QK,QI,QJ,QC,QH,QG];clear D;refine TO (i:=17) ?_;refine AB (by decide) (λK17 HK17=>?_);simp only[QE,QL,QF,QN];have A:=(ak.out.b16 rfl).2;have q0:=AA A 0 _ rfl;have q1:=AA A 1 _ rfl;have g0:=AE A 0;have g1:=AE A 1;go_wp2_with fail;refine HK17.out _ _ ⟨λh=>absurd h (by decide),?_⟩;clear HK17;refine AN (by kernel_rfl) ?_ _;exact⟨_,_,_,_,_,_,_,_,_,_,_,_,_,_,_,_,_,_,_,_,_,_,_,_,_,_,_,_,_,_,_,_,_,_,_,_,_,_,_,_,_,_,_,_,_,_,_,_,_,_,_,_,_,_,_,_,rfl,ak.out.fin o⟩
   ·skip
    refine AB (by decide) (λK13 HK13=>?_);simp only[QE,QL,QF,QN];go_wp2_with fail;have ap:=QA (aa.out.s13);refine HK13.out _ _ ⟨λ_=>(ap.out.bel.block r C).trans hroot,?_⟩;clear HK13;obtain⟨bK,E⟩:∃x,(bg).alloc (.cells #[.int .i64 K] 3)=x:=⟨_,rfl⟩
    rw[E]at ap ⊢;clear E;refine TO (i:=11) ?_;refine AB (by decide) (λK11 HK11=>?_);simp only[QE,QL,QF,QN];go_wp2_with fail;refine (Dg _ segs bK (HN.out.below ap.out.bel) (by omega)).mono ?_;rintro e x24 ⟨v11,rfl,ho,hb⟩;obtain⟨va,vn,vc,hv,_⟩:=Ai.form3 ho;subst hv;have ab:=QA (ap.out.s11 ho hb);clear ho hb;go_wp2;refine HK11.out _ _ ⟨λ_=>(ab.out.bel.block r C).trans hroot,?_⟩;clear HK11;refine TO (i:=14) ?_;refine AB (by decide) (λK14 HK14=>?_);simp only[QE,QL,QF,QN];have F:=ab.out.bel.size;go_wp2_with (first|(at_builtin;refine AX rfl _ _ rfl W.heap.size _ segs rfl (ab.out.c11 rfl) _ [K] rfl (BF (ab.out.b13 rfl).2) (by simp) (by simp;omega) F ?_;intro u14 x25 ho hg hl;have al:=QA (ab.out.s14 ho hg hl);obtain⟨I,G,J,Z,_⟩:=Ai.form3 ho;subst Z;clear ho hg hl)|fail);refine HK14.out _ _ ⟨λ_=>(al.out.bel.block r C).trans hroot,?_⟩;clear HK14;have D:=(al.out.bel.block r C).trans hroot;refine TK (i:=15) (v:=.agg #[.int .i64 o,.slice I G J]) rfl (Or.inl ⟨by rfl,λw hSw=>by go_simp⟩) D ?_;simp only[Act.put,QD,QK,QI,QJ,QC,QH,QG];clear D;refine TO (i:=17) ?_;refine AB (by decide) (λK17 HK17=>?_);simp only[QE,QL,QF,QN];have A:=(al.out.b16 rfl).2;have q0:=AA A 0 _ rfl;have q1:=AA A 1 _ rfl;have g0:=AE A 0;have g1:=AE A 1;go_wp2_with fail;refine HK17.out _ _ ⟨λh=>absurd h (by decide),?_⟩;clear HK17;refine AN (by kernel_rfl) ?_ _;exact⟨_,_,_,_,_,_,_,_,_,_,_,_,_,_,_,_,_,_,_,_,_,_,_,_,_,_,_,_,_,_,_,_,_,_,_,_,_,_,_,_,_,_,_,_,_,_,_,_,_,_,_,_,_,_,_,_,rfl,al.out.fin o⟩
 ·intro e a' X hin;cases e with
  | normal =>
   obtain⟨p,u,c1,c2,c4,c6,c7,c8,c9,cO,c11,cP,cG,c14,cI,co,cC,cl,cr,ct,b9,cj,cd,cB,cv,cz,ck,cf,cZ,cE,cb,cn,cY,cx,b8,cN,ce,cy,ca,cK,cW,cc,cg,cA,cS,cD,cp,cF,cm,cR,cM,cX,cu,cT,cs,cV,rfl,bf,hp,aj,an⟩:=hin;have aC:Below w2.heap.size w2 X:=(Below.drew (Below.refl _ w2)).trans bf;have bE:w2.heap.size≤p:=hp;obtain⟨I,G,J,Z,_⟩:=Ai.form3 an;subst Z;have bi:=an.nums;have HU:=QA an;have bl:=QA bi;have br:=QA aj;have aZ:=QA aC;have HX:=QA (H2.out.kept (AC aC));have ag:Hid (X.heap[r]?=some (.cells (AF ver (.slice sa segs.length sc) mb B dead) 51 (0,0))):=QA ((aC.block r (AD S.out)).trans S.out);have z0:=AA aj 0 _ rfl;have z1:=AA aj 1 _ rfl;clear bf aj an bi aC y0 y1 y2 y3 y4;have y0:=rc0 ag.out;have y1:=rc1 ag.out;have y2:=rc2 ag.out;have y3:=rc3 ag.out;have y4:=rc4 ag.out;have a8:w2.heap.size≤X.heap.size:=aZ.out.size;have bb:Hid (SFr r own own2 w X):=QA (a3.out.trans (SFr.below aZ.out));have aU:Hid (Below base w X):=QA (bd.out.trans (aZ.out.mono (QQ hbase aK)))
   dsimp only
   go_wp2_with fail;refine Ab [5] (by kernel_rfl) (by kernel_rfl) ?_;simp only[BZ,QF,QN,QE,QL,Nat.sub_zero,Nat.reduceSub,Nat.reduceAdd]
   repeat (go_big_quiet_step (fail))
   refine wpQuiet_nil ?_;rintro _ ⟨nq,rfl⟩;have a9:=HX.out.kept (AC (Below.drewN (Below.refl _ X) nq));have ad:Below X.heap.size X (X.drewN nq):=Below.drewN (Below.refl _ X) nq;have a5:Hid ((X.drewN nq).heap[r]?=some (.cells (AF ver (.slice sa segs.length sc) mb B dead) 51 (0,0))):=QA ag.out;have a0:Hid ((X.drewN nq).heap[p]?=some (.cells #[.int .i64 o,.slice I G J] 47 (0,0))):=QA br.out;have av:Hid (Ai (X.drewN nq) w2.drew.heap.size (.slice I G J) (segs++[K])):=QA (HU.out.keep ad);have aS:Hid (C7 (X.drewN nq) (.slice I G J) (segs++[K])):=QA (bl.out.below ad);have bx:Hid (SFr r own own2 w (X.drewN nq)):=QA (bb.out.trans (SFr.below ad));have aw:Hid (Below base w (X.drewN nq)):=QA (aU.out.trans (ad.mono (QQ hbase (QQ aK a8))));have aX:w2.heap.size≤(X.drewN nq).heap.size:=a8;clear z0 z1 y0 y1 y2 y3 y4 HX ag br HU bl bb aU a8 ad;obtain⟨Y,E⟩:∃x,X.drewN nq=x:=⟨_,rfl⟩
   rw[E]at a9 a5 a0 av aS bx aw aX ⊢;have bn:=QA a9;clear a9 E;go_wp2_with fail;refine (Gv base B _ V2 own2 o _ (segs++[K]) Y bn.out (HE.out.below aw.out) (QQ hbase (QQ aK aX)) (k+2) d4 (by omega) (λz hz=>by rw[d5.2]at hz;cases hz) aS.out (by simp;omega)).mono ?_;rintro e w5 ⟨rfl,V5,own5,h5,ho5,hk5⟩;rw[d2];have H5:=QA h5;have bt:Hid (SFr r own own5 w w5):=QA (bx.out.trans (SFr.kept ho5 hk5));have bq:=AD a5.out;have ac:Hid (w5.heap[r]?=some (.cells (AF ver (.slice sa segs.length sc) mb B dead) 51 (0,0))):=QA ((hk5.block r bq (by rw[be];simp)).trans a5.out);have bO:own2 p=.other:=H2.out.fresh p bE;have bc:Hid (w5.heap[p]?=some (.cells #[.int .i64 o,.slice I G J] 47 (0,0))):=QA ((hk5.block p (AD a0.out) (by rw[bO];simp)).trans a0.out);have bj:Ai w5 w2.drew.heap.size (.slice I G J) (segs++[K]):=AQ av.out λg hg=>hk5.block g (av.out.lt g hg).2 (by
    have h1:w2.heap.size≤g:=(av.out.lt g hg).1;rw[H2.out.fresh g h1];simp)
   have bM:=QA bj;have bp:Hid (Below base w w5):=QA (aw.out.trans (AV.below0 bn.out ⟨V5,own5,h5,ho5,hk5⟩ (QQ hbase (QQ aK aX))));have bw:own5 r=.other:=(ho5 r bq).trans be;have bh:Hid (∀g,(Value.slice I G J).ownBlock=some g→own5 g=.other∧g≠r):=QA λg hg=>by
    have h1:w2.heap.size≤g:=(av.out.lt g hg).1;have h2:=(av.out.lt g hg).2;have h3:=AD S.out;exact⟨(ho5 g h2).trans (H2.out.fresh g h1),by omega⟩
   clear h5 ho5 hk5 bj;have z0:=AA bc.out 0 _ rfl;have z1:=AA bc.out 1 _ rfl;have f0:=AE ac.out 0;have f1:=AE ac.out 1;have y0:=rc0 ac.out;have y1:=rc1 ac.out;have y2:=rc2 ac.out;have y3:=rc3 ac.out;have y4:=rc4 ac.out;go_wp2_with fail
   repeat (go_big_quiet_step (fail))
   refine wpQuiet_nil ?_;rintro _ ⟨n7,rfl⟩;go_wp2_with fail;refine bodyPost_ret (v:=.int .i64 0) (by simp[results,Tryz.results37,go_sem]) rfl ?_;have a2:Below w5.heap.size w5 (w5.drewN n7):=Below.drewN (Below.refl _ w5) n7;have bL:Kept own5 (·=.other) w5 (((w5.drewN n7).setCell ⟨r,0,none⟩ (.int .i64 o)).setCell ⟨r,1,none⟩ (.slice I G J)):=((AC a2).setCell ⟨r,0,none⟩ bw _).setCell ⟨r,1,none⟩ bw _;have bQ:Ai (((w5.drewN n7).setCell ⟨r,0,none⟩ (.int .i64 o)).setCell ⟨r,1,none⟩ (.slice I G J)) w2.drew.heap.size (.slice I G J) (segs++[K]):=AQ bM.out λg hg=>by
    have h1:=(bh.out g hg).2;exact (Below.heap_setCell _ _ _ g h1).trans (Below.heap_setCell _ _ _ g h1)
   refine⟨rfl,V5,own5,.slice I G J,H5.out.kept bL,((bt.out.trans (SFr.below a2)).trans (SFr.set _ 0 _)).trans (SFr.set _ 1 _),((bp.out.trans (a2.mono (QQ hbase bt.out.size))).setCell (p:=⟨r,0,none⟩) hrb _).setCell (p:=⟨r,1,none⟩) hrb _,?_,bQ.nums,λq n c e _=>bh.out q.block (by rw[e];rfl)⟩;exact heap_set (heap_set (w:=w5.drewN n7) ac.out _) _
  | _=>exact hin.elim
open Go.ChangeShapes Go.WideShapes Go.ChangeAt
theorem EH:Tryz.prog.cellsOf 40=32:=by kernel_rfl
theorem It:Tryz.prog.cellsOf 3=1:=by kernel_rfl
theorem J8:Tryz.prog.cellsOf 41=1:=by kernel_rfl
theorem Gs:Tryz.prog.cellsOf 43=34:=by kernel_rfl
theorem Is:Tryz.prog.cellsOf 22=1:=by kernel_rfl
theorem GC {α:Type} {n:Nat} {Q:Nat→α→Prop} (h:∀i,i<n→∃x,Q i x):∃ls:List α,ls.length=n∧∀(i:Nat) x,ls[i]?=some x→Q i x:=by
 refine⟨List.ofFn λi:Fin n=>(h i.1 i.2).choose,by simp,λi x hi=>?_⟩;have o:i<n:=by simpa using (List.getElem?_eq_some_iff.1 hi).1
 rw[List.getElem?_ofFn,dif_pos o]at hi;cases hi;exact (h i o).choose_spec
theorem DG {α:Type} {xs:List α} {n i:Nat} (h:xs.length=n) (hi:i<n):∃y,xs[i]?=some y:=⟨_,ZG (by omega)⟩
def Low (W:World):Nat→Prop:=λb=>b<W.heap.size
theorem Aa.low {W:World} {v:Value} {l:List UInt8} (h:Aa W v l):BB W (Low W) v l:=⟨h,λp n c e hl=>by
 obtain⟨a,cap,A,_,_,C⟩:=h;obtain⟨b,B,D,o,_⟩:=C 0 _ (ZG hl);rw[A,D]at e;simp only[Value.slice.injEq,Option.some.injEq]at e;rw[← e.1];exact o⟩
section
set_option maxRecDepth 100000
variable {H : Type} {enc : TypeId × Value → H} {W : World}
theorem JE {cs:List Value} {x:DataW H×List MemPlace} {fuel:Nat} (hf:DataW.trod enc Tryz.prog W 0 (λ_=>true) true fuel 41 cs=some x):∃v l,cs=[v]∧Aa W v l∧l.length≤maxLen:=by
 rcases open_ints Tryz.underlying41 Tryz.underlying5 IR hf with⟨rfl,hx⟩|⟨a,len,cap,ss,rfl,_,hl,hm,hz,hx,hcell,hwz⟩
 ·exact⟨_,[],rfl,⟨none,0,rfl,by simp,by simp,by simp⟩,by simp⟩
 ·skip
  simp only[if_true]at hz;obtain⟨b,D,A⟩:=a;have o:(ss.take len).length=len:=by rw[List.length_take];omega
  refine⟨_,(ss.take len).map λz=>UInt8.ofNat z.toNat,rfl,?_,by rw[QV,o];omega⟩;refine⟨some ⟨b,D,A⟩,cap,by rw[QV,o],by rw[QV,o];exact hl,(λe=>by cases e),λi s hi=>?_⟩;rw[List.getElem?_map]at hi;obtain⟨z,C,rfl⟩:=Option.map_eq_some_iff.1 hi;have E:ss[i]?=some z:=IW C;have F:i<ss.length:=(List.getElem?_eq_some_iff.1 E).1;have I:=hcell 0 (by omega);have B:A=none:=by simpa [Addr.add] using World.cell?_spot I
  subst B;have G:0≤z∧z≤255:=by
   have L:=hwz z (List.mem_of_mem_take (List.mem_of_getElem? C));have M:IntKind.u8.min=0:=rfl;have J:IntKind.u8.max=255:=rfl
   simpa [Lit.wf,M,J] using L
  refine⟨b,D,rfl,?_,?_⟩
  ·have:=E3 I
   simpa [Addr.add] using this
  ·have:=hcell i F;rw[add_plain]at this;rw[this,List.getD_eq_getElem?_getD,E];have K:(UInt8.ofNat z.toNat).toNat=z.toNat:=UInt8.toNat_ofNat_of_lt' (by show _<256;omega);rw[K,Int.toNat_of_nonneg G.1];rfl
theorem LX {cs:List Value} {x:DataW H×List MemPlace} {fuel:Nat} (hf:DataW.trod enc Tryz.prog W 0 (λ_=>true) true fuel 40 cs=some x):∃k:List UInt8,k.length=32∧cs=AG k:=by
 obtain⟨M,m,-,-,K,B,A⟩:=DataW.trod_array Tryz.underlying40 hf;rw[EH]at K;have key:∀i,i<32→∃c:UInt8,cs[i]?=some (.int .u8 (c.toNat:Int)):=λi hi=>by
  obtain⟨y,G⟩:=DG B hi;have F:=A i hi;rw[G,IR]at F;obtain⟨n,e,-,J⟩:=DataW.trod_int Tryz.underlying5 F;have D:0≤n∧n≤255:=by
   have L:IntKind.u8.min=0:=rfl;have I:IntKind.u8.max=255:=rfl
   simpa [Lit.wf,L,I] using J
  rw[Nat.mul_one,List.drop_eq_getElem_cons (by omega:i<cs.length),QF,QN]at e;simp only[List.cons.injEq,and_true]at e;refine⟨UInt8.ofNat n.toNat,?_⟩;rw[ZG (by omega:i<cs.length),e,UInt8.toNat_ofNat_of_lt' (by show _<256;omega),Int.toNat_of_nonneg D.1]
 obtain⟨k,o,C⟩:=GC key;refine⟨k,o,List.ext_getElem? λi=>?_⟩;unfold AG;rw[List.getElem?_map];by_cases hi:i<32
 ·obtain⟨c,E⟩:=DG o hi;rw[E,C i c E];rfl
 ·rw[List.getElem?_eq_none (by omega),List.getElem?_eq_none (by omega)];rfl
def F8 (p:Sto.Op×Value):Prop:=p.1.2.2.length≤maxLen∧-9223372036854775808≤p.1.2.1∧p.1.2.1≤9223372036854775807
theorem La {cs:List Value} {x:DataW H×List MemPlace} {fuel:Nat} (hf:DataW.trod enc Tryz.prog W 0 (λ_=>true) true fuel 43 cs=some x) :
  ∃p:Sto.Op×Value,p.1.1.length=32∧cs=AH p.1 p.2∧Aa W p.2 p.1.2.2∧F8 p:=by
 obtain⟨D,n,-,-,T,A,o⟩:=DataW.trod_struct Tryz.underlying43 hf;rw[Gs]at T;have I:DataW.trod enc Tryz.prog W 0 (λ_=>true) true n 40 ((cs.drop 0).take (Tryz.prog.cellsOf 40))=D[0]?:=o 0 _ rfl;have K:DataW.trod enc Tryz.prog W 0 (λ_=>true) true n 3 ((cs.drop 32).take (Tryz.prog.cellsOf 3))=D[1]?:=o 1 _ rfl;have G:DataW.trod enc Tryz.prog W 0 (λ_=>true) true n 41 ((cs.drop 33).take (Tryz.prog.cellsOf 41))=D[2]?:=o 2 _ rfl;rw[EH,QL]at I;rw[It]at K;rw[J8]at G;obtain⟨Y,S⟩:=DG (i:=0) A (by decide);obtain⟨V,L⟩:=DG (i:=1) A (by decide);obtain⟨X,J⟩:=DG (i:=2) A (by decide);rw[S]at I;rw[L]at K;rw[J]at G;obtain⟨k,P,N⟩:=LX I;obtain⟨R,U,-,E⟩:=DataW.trod_int Tryz.underlying3 K;obtain⟨v,l,M,Q,F⟩:=JE G;refine⟨((k,R,l),v),P,?_,Q,F,by
  have C:IntKind.i64.min=-9223372036854775808:=by decide
  have B:IntKind.i64.max=9223372036854775807:=by decide
  simpa [Lit.wf,C,B] using E⟩
 have L:cs=cs.take 32++cs.drop 32:=(List.take_append_drop 32 cs).symm;have J:cs.drop 32=(cs.drop 32).take 1++cs.drop 33:=by
  have:=(List.take_append_drop 1 (cs.drop 32)).symm
  rwa [List.drop_drop]at this
 have O:cs.drop 33=(cs.drop 33).take 1:=(List.take_of_length_le (by rw[List.length_drop];omega)).symm;rw[L,J,O,N,U,M];rfl
theorem Jg {cs:List Value} {x:DataW H×List MemPlace} {fuel:Nat} (hf:DataW.trod enc Tryz.prog W 0 (λ_=>true) true fuel 22 cs=some x) :
  ∃v,∃l:Sto.ME,cs=[v]∧Au W (Low W) v l∧l.length≤maxLen∧∀p∈l,F8 p:=by
 rcases DataW.trod_slice Tryz.underlying22 hf with⟨rfl,-⟩|⟨a,len,cap,elems,rest,n',e2,rfl,-,-,J,hcm,hel,hrd,-⟩
 ·exact⟨_,[],rfl,⟨none,0,rfl,Nat.le_refl _,λi l F=>by simp at F⟩,by simp,λl hl=>by simp at hl⟩
 ·rw[Gs]at hrd;obtain⟨b,E,A⟩:=a;have R:0<len→A=none:=λh0=>by
   have M:=hrd 0 h0;rw[ZG (by omega:0<elems.length),Option.bind_eq_some_iff]at M;obtain⟨cs,C,-⟩:=M;obtain⟨_,J,B⟩:=World.cells?_some C;have D:=B 0 (by omega);rw[ZG (by omega:0<cs.length)]at D;have S:((⟨b,E,A⟩:Addr).add (0*34)).add 0=⟨b,E,A⟩:=by simp[Addr.add]
   rw[S]at D;exact World.cell?_spot D
  have key:∀i,i<len→∃p:Sto.Op×Value,A=none∧p.1.1.length=32∧Aa W p.2 p.1.2.2∧F8 p∧b<W.heap.size∧W.rangeAt b (E+i*34) (AH p.1 p.2):=λi F=>by
   have M:=hrd i F;rw[ZG (by omega:i<elems.length),Option.bind_eq_some_iff]at M;obtain⟨cs,C,T⟩:=M;obtain⟨p,L,rfl,P,O⟩:=La T;obtain⟨_,_,B⟩:=World.cells?_some C;have D:=B 0 (by omega);have G:A=none:=R (by omega);subst G;refine⟨p,rfl,L,P,O,?_,λj c hj=>?_⟩
   ·rw[ZG (by rw[Af L];omega:0<(AH p.1 p.2).length),Addr.add_add]at D;have O:=E3 D;have N:((⟨b,E,none⟩:Addr).add (i*34+0)).block=b:=by unfold Addr.add;split<;>rfl
    rw[N]at O;exact O
   ·have Q:j<34:=by have:=(List.getElem?_eq_some_iff.1 hj).1;rwa [Af L]at this
    have:=B j Q;rw[add_plain,add_plain,hj]at this;exact this
  obtain⟨X,I,K⟩:=GC key;refine⟨_,X,rfl,⟨some ⟨b,E,A⟩,cap,by rw[I],by rw[I];exact J,λi p F=>?_⟩,by rw[I];omega,λo ho=>?_⟩
  ·obtain⟨U,L,P,-,N,V⟩:=K i p F;subst U;exact⟨L,P.low,b,E,rfl,N,N,V⟩
  ·obtain⟨i,F⟩:=List.getElem?_of_mem ho;exact (K i o F).2.2.2.1
theorem J7 {v:Value} {d:DataW H} {p:List MemPlace} (h:DataW.Trod enc Tryz.prog W 0 (λ_=>true) true 22 v d p)
  {r:Reach} {base:Nat} (hv:Value.okWide Tryz.prog W r base 22 v):∃l:Sto.ME,Au W (Low W) v l∧l.length≤maxLen∧∀p∈l,F8 p:=by
 obtain⟨E,o,A,rfl⟩:=okWide_slice Tryz.underlying22 hv;obtain⟨B,F⟩:=h;obtain⟨v,l,D,C⟩:=Jg F;have e:[Value.slice E o A]=[v]:=D;simp only[List.cons.injEq,and_true]at e;subst e;exact⟨l,C⟩
def DF (w:World) (F:Nat→Prop) (v:Value) (ll:List Sto.ME):Prop :=
 ∃a cap,v=.slice a ll.length cap∧∀(i:Nat) l,ll[i]?=some l→∃b off sv,a=some ⟨b,off,none⟩∧b<w.heap.size∧F b∧w.cell? ⟨b,off+i,none⟩=some sv∧Au w F sv l
theorem DF.form {w:World} {F:Nat→Prop} {v:Value} {ll:List Sto.ME} (h:DF w F v ll):∃a cap,v=.slice a ll.length cap:=by
 obtain⟨a,cap,o,_⟩:=h;exact⟨a,cap,o⟩
theorem DF.at {w:World} {F:Nat→Prop} {a:Option Addr} {n cap:Nat} {ll:List Sto.ME} (h:DF w F (.slice a n cap) ll) {i:Nat} {l:Sto.ME} (hi:ll[i]?=some l) :
  ∃b off sv,a=some ⟨b,off,none⟩∧b<w.heap.size∧w.cell? ⟨b,off+i,none⟩=some sv∧Au w F sv l:=by
 obtain⟨G,A,o,C⟩:=h;obtain⟨b,off,sv,e,B,_,E,D⟩:=C i l hi;simp only[Value.slice.injEq]at o;exact⟨b,off,sv,by rw[o.1,e],B,E,D⟩
theorem DF.mv {F F':Nat→Prop} {w w':World} {v:Value} {ll:List Sto.ME} (h:DF w F v ll) (m:MV F F' w w'):DF w' F' v ll:=by
 obtain⟨a,cap,C,B⟩:=h;refine⟨a,cap,C,λi x hi=>?_⟩;obtain⟨b,o,J,e,A,G,D,E⟩:=B i x hi;obtain⟨I,H⟩:=m.2 b A G;exact⟨b,o,J,e,Nat.lt_of_lt_of_le A m.1,I,by rw[World.cell?_of_block H];exact D,E.mv m⟩
theorem KP {v:Value} {d:DataW H} {p:List MemPlace} (h:DataW.Trod enc Tryz.prog W 0 (λ_=>true) true 66 v d p)
  {r:Reach} {base:Nat} (hv:Value.okWide Tryz.prog W r base 66 v):∃ll:List Sto.ME,DF W (Low W) v ll∧ll.length≤maxLen∧∀l∈ll,l.length≤maxLen∧∀p∈l,F8 p:=by
 obtain⟨a0,I,J,rfl⟩:=okWide_slice Tryz.underlying66 hv;obtain⟨P,Z⟩:=h;rcases DataW.trod_slice Tryz.underlying66 Z with⟨hcs,-⟩|⟨a,len,cap,elems,rest,n',e2,hcs,-,-,hlc,hcm,hel,hrd,-⟩
 ·simp[Value.cells]at hcs;obtain⟨rfl,rfl,rfl⟩:=hcs;exact⟨[],⟨none,0,rfl,λi l A=>by simp at A⟩,by simp,λl hl=>by simp at hl⟩
 ·simp[Value.cells]at hcs;obtain⟨rfl,rfl,rfl⟩:=hcs;rw[Is]at hrd;have key:∀i,i<I→∃l:Sto.ME,∃lv,W.cell? (a.add i)=some lv∧Au W (Low W) lv l∧l.length≤maxLen∧∀p∈l,F8 p:=λi A=>by
   have S:=hrd i A;rw[ZG (by omega:i<elems.length),Option.bind_eq_some_iff]at S;obtain⟨cs,o,T⟩:=S;obtain⟨V,l,rfl,K,M⟩:=Jg T;obtain⟨_,_,C⟩:=World.cells?_some o;have F:=C 0 (by omega);rw[Nat.mul_one]at F;exact⟨l,V,by simpa [Addr.add] using F,K,M⟩
  obtain⟨R,L,E⟩:=GC key;obtain⟨b,G,B⟩:=a;refine⟨R,⟨some ⟨b,G,B⟩,J,by rw[L],λi l A=>?_⟩,by rw[L];omega,λl hl=>?_⟩
  ·obtain⟨lv,K,M,_⟩:=E i l A;obtain⟨Y,N⟩:∃x,R[0]?=some x:=⟨_,ZG (by have:=(List.getElem?_eq_some_iff.1 A).1;omega)⟩
   obtain⟨U,O,_⟩:=E 0 Y N;have D:B=none:=by simpa [Addr.add] using World.cell?_spot O
   subst D;rw[add_plain]at K;have Q:b<W.heap.size:=by have:=E3 K;simpa using this
   exact⟨b,G,lv,rfl,Q,Q,K,M⟩
  ·obtain⟨i,A⟩:=List.getElem?_of_mem hl;obtain⟨_,_,_,X⟩:=E i l A;exact X
end
open Go.ChangeShapes Go.WideShapes Go.ChangeAt
theorem own:ownKnob Tryz.prog.godebug=none:=by kernel_rfl
theorem laidOut:laidOutB Tryz.prog=true:=by kernel_rfl
abbrev CC : List (String × DataW Unit) := [("math/bits.deBruijn32tab", Rows.laid_math_bits_deBruijn32tab), ("math/bits.deBruijn64tab", Rows.laid_math_bits_deBruijn64tab), ("internal/strconv.uint64pow10", Rows.laid_internal_strconv_uint64pow10), ("unicode/utf8.acceptRanges", Rows.laid_unicode_utf8_acceptRanges), ("strconv.ErrRange", Rows.laid_strconv_ErrRange), ("strconv.ErrSyntax", Rows.laid_strconv_ErrSyntax), ("unicode/utf8.first", Rows.laid_unicode_utf8_first)]
theorem Je : "*" ++ "errors.errorString" = "*errors.errorString" := by decide
theorem K3 (u : TypeId) (h : Tryz.prog.typeName? 3 u = some "*errors.errorString") : u = 253 :=
 typeName_ptr_named (nm := "errors.errorString") (by rw [Je]; kernel_rfl) (by kernel_rfl) (by decide) u (by rw [Je]; exact h)
theorem IQ:Tryz.prog.cellsOf 255=1:=by kernel_rfl
theorem G8:Tryz.prog.cellsOf 9=1:=by kernel_rfl
theorem JV {W:World} {n:String} {g:Nat} {cs:Array Value} (hg:Tryz.prog.globalNamed n=some g) (h:W.var? Tryz.prog n=some cs):g<W.heap.size:=by
 unfold World.var? at h;rw[hg]at h;rcases Nat.lt_or_ge g W.heap.size with h'|h'
 ·exact h'
 ·simp[Array.getElem?_eq_none h']at h
theorem H9 {W:World} (hL:laidMet Tryz.prog CC W) (hS:W.ShapedOpen Tryz.prog):Cq W.heap.size W:=by
 have C : Lib.TabIs Tryz.prog W "internal/strconv.uint64pow10" .u64 Lib.pow10Tab :=
  Lib.tabIs_of_head (g := 1) (by kernel_rfl) (by kernel_rfl) Tryz.underlying234 Tryz.underlying206 (by kernel_rfl) (by kernel_rfl) (show laidMet Tryz.prog (("internal/strconv.uint64pow10", Lib.tabData .u64 Lib.pow10Tab) :: _) W from hL.tail.tail)
 obtain⟨F,E,o,-,-,-⟩:=laid_sentinel hL.tail.tail.tail.tail (g:=3) (by kernel_rfl) (by kernel_rfl) Tryz.underlying175 K3 Tryz.underlying253 Tryz.underlying255 rfl rfl Tryz.underlying9 IQ G8;obtain⟨a1,G,A,-,-,-⟩:=laid_sentinel hL.tail.tail.tail.tail.tail (g:=2) (by kernel_rfl) (by kernel_rfl) Tryz.underlying175 K3 Tryz.underlying253 Tryz.underlying255 rfl rfl Tryz.underlying9 IQ G8;have D:∃m,W.cell? ⟨0,0,none⟩=some (.int .i64 m):=cell_of_shapedOpen_int (zero:=#[.int .i64 0]) (t:=3) hS (of_decide_eq_true (by kernel_rfl)) (by kernel_rfl) rfl (by kernel_rfl) (by kernel_rfl) Tryz.underlying3;obtain⟨m,B⟩:=D;exact⟨⟨C,⟨_,_,o⟩,⟨_,_,A⟩,JV (by kernel_rfl) C,JV (by kernel_rfl) o,JV (by kernel_rfl) A⟩,⟨m,B⟩,B8 B⟩
abbrev Lo:ByteArray:={ data:=#[105,110,118,97,108,105,100,32,115,121,110,116,97,120] }
abbrev Ln:ByteArray:={ data:=#[118,97,108,117,101,32,111,117,116,32,111,102,32,114,97,110,103,101] }
noncomputable def low:Nat:=(World.holding Tryz.prog default ⟨#[],#[],[]⟩).heap.size
def Le:List Int:=[0,1,28,2,29,14,24,3,30,22,20,15,25,17,4,8,31,27,13,23,21,19,16,7,26,12,18,6,11,5,10,9]
def Lf:List Int:=[0,1,56,2,57,49,28,3,61,58,42,50,38,29,17,4,62,47,59,36,45,43,51,22,53,39,33,30,24,18,12,5,63,55,48,27,60,41,37,16,46,35,44,21,52,32,23,11,54,26,40,15,34,20,31,10,25,14,19,9,13,8,7,6]
noncomputable def BO (os:Os):World :=
 let w0:=World.holding Tryz.prog os ⟨#[.cells #[.string Lo] 255,.cells #[.string Ln] 255],#[],[]⟩
 let put (h:Array Obj) (g:Nat) (cs:Array Value):Array Obj:=h.modify g fun
  | .cells _ t frozen=>.cells cs t frozen
  | o=>o
 let h1:=put w0.heap 2 #[.iface 253 (.pointer (some ⟨low,0,none⟩))]
 let h2:=put h1 3 #[.iface 253 (.pointer (some ⟨low+1,0,none⟩))]
 let h3:=put h2 1 (Lib.pow10Tab.map λz=>Value.int .u64 z).toArray
 let h4:=put h3 4 (Le.map λz=>Value.int .u8 z).toArray
 let h5:=put h4 5 (Lf.map λz=>Value.int .u8 z).toArray
 let h6:=put h5 6 (Lib.firstTab.map λz=>Value.int .u8 z).toArray
 let h7:=put h6 7 ((List.range 16).flatMap λi=>[Value.int .u8 (Lib.accLo i),Value.int .u8 (Lib.accHi i)]).toArray
 { w0 with heap:=h7 }
theorem Eg (os:Os) (args:Array Value):laidMet Tryz.prog CC ((BO os).forCall (λ_ _=>0) ⟨#[],args,[]⟩).memory :=
 (LaidIn.of_run (l:=CC) [2,3,1,4,5,6,7,low,low+1] 8 (by kernel_rfl) (by kernel_rfl) (by kernel_rfl) (by kernel_rfl)).met
end Go.Proofs.YtjldahcckmmenaaGreatDoor
