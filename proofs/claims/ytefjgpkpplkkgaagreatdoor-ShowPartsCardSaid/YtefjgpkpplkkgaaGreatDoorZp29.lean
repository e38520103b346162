/-
  The writer of documents: variables, operations, walked.
-/
import Derived.Test.YtefjgpkpplkkgaaGreatDoorZp28
open Array renaming getInternal_eq_getElem → QD
open Go.Lib renaming hid → QA
open List renaming setIfInBounds_toArray → QC, drop_succ_cons → QE, take_succ_cons → QF, set_cons_succ → QG, set_cons_zero → QH, getElem_cons_zero → QI, getElem_cons_succ → QJ, getElem_toArray → QK, drop_zero → QL, take_zero → QN, length_cons → QO, length_nil → QS, take_length → ZG
open Nat renaming le_refl → QM, le_trans → QR, reduceAdd → QY, add_zero → QZ
namespace Go.Proofs.YtefjgpkpplkkgaaGreatDoor
set_option linter.unusedSimpArgs false
set_option linter.unusedVariables false
open Go Go.RowKit
theorem enters_op (cap:Array Value) (w:World) (i:Int):Sem.run Tryz.prog (callFunc 116 (#[.int .i64 i]++cap)) w=.ok (.enter 116 (#[.int .i64 i]++cap)) w:=by kernel_rfl
set_option maxHeartbeats 2000000 in
set_option maxRecDepth 100000 in
theorem wop1_any (w0:World) (b:Nat) (hE:Env w0) (h3:3≤w0.heap.size) (y:Dq.Op) (v1 v2 v4:Option Addr) (m1 m2 m4:Nat) (hR:Reads w0 (fun _=>True) (.seq 9 (y.vars.map Dq.Var.d)) [.slice v1 y.vars.length m1]) (t1 t2:Nat) (n1':t1≠b) (n2':t2≠b)
  (i:Nat) (x:Dq.Var) (hx:y.vars[i]?=some x) (hc:Dq.varC x≤1000000000) (hll:y.vars.length≤1000000000) (s:Vl.Sh) (w:World) (h:WW w0 b s w) (h1':w.heap[t1]?=some (.cells #[.pointer (some ⟨b,0,none⟩)] 175 (0,0))) (h2':w.heap[t2]?=some (.cells #[.int .i64 y.kind,.string ⟨y.name.toArray⟩,.slice v1 y.vars.length m1,.slice v2 y.dirs.length m2,.slice v4 y.sels.length m4,.int .i64 y.at_] 96 (0,0)))
  (hl:s.out.length+Dq.varC x≤1000000000000) :
  Calls Tryz.prog 116 (#[.int .i64 i]++#[.pointer (some ⟨t1,0,none⟩),.pointer (some ⟨t2,0,none⟩)]) w (WPost w0 b s w (Dq.varG x) (Dq.varT x) (Dq.varC x)):=by
 have ba:i<y.vars.length:=by
  rcases Nat.lt_or_ge i y.vars.length with h'|h'
  ·exact h'
  ·rw[List.getElem?_eq_none h'] at hx;cases hx
 have bz:Dq.varC x=6+x.name.length+x.type.length+x.dflt.cost:=rfl
 obtain ⟨g,C,cs,ha,-,B,aV,A,hd⟩:=hR.el i x.d (by rw[List.getElem?_map,hx];rfl)
 obtain ⟨a1,a2,n1,n2,rfl,aN⟩:=Dq.Var.opened hd
 subst ha
 have D:Hid (∀ (w':World),Below w0.heap.size w0 w'→(w'.cell? ⟨g,C+i*9,none⟩=some (.string ⟨x.name.toArray⟩)∧w'.cell? ⟨g,C+i*9+1,none⟩=some (.string ⟨x.type.toArray⟩)∧w'.cell? ⟨g,C+i*9+2,none⟩=some (.bool x.has)∧w'.cell? ⟨g,C+i*9+3,none⟩=some (.int .i64 x.dflt.kind)∧w'.cell? ⟨g,C+i*9+4,none⟩=some (.string ⟨x.dflt.text.toArray⟩)∧w'.cell? ⟨g,C+i*9+5,none⟩=some (.slice a1 x.dflt.items.length n1)∧w'.cell? ⟨g,C+i*9+6,none⟩=some (.slice a2 x.dflt.fields.length n2)∧w'.cell? ⟨g,C+i*9+7,none⟩=some (.int .i64 x.dflt.at_))):=QA (fun w' hb =>
  ⟨(hb.cell (p:=⟨g,C+i*9,none⟩) B).trans (A 0 _ rfl),(hb.cell (p:=⟨g,C+i*9+1,none⟩) B).trans (A 1 _ rfl),(hb.cell (p:=⟨g,C+i*9+2,none⟩) B).trans (A 2 _ rfl),(hb.cell (p:=⟨g,C+i*9+3,none⟩) B).trans (A 3 _ rfl),(hb.cell (p:=⟨g,C+i*9+4,none⟩) B).trans (A 4 _ rfl),(hb.cell (p:=⟨g,C+i*9+5,none⟩) B).trans (A 5 _ rfl),(hb.cell (p:=⟨g,C+i*9+6,none⟩) B).trans (A 6 _ rfl),(hb.cell (p:=⟨g,C+i*9+7,none⟩) B).trans (A 7 _ rfl)⟩)
 have HR:=QA aN
 have e9:decide (i<y.vars.length)=true:=decide_eq_true ba
 have H0:=QA h
 have E0:=QA (Vl.Eff.refl s)
 have O0:=QA (Lib.OthersKept.refl 5 (some b) w)
 have Z0:=QA (QM w.heap.size)
 have aP:=QA h1'
 have aM:=QA h2'
 have HE:=QA hE
 clear h h1' h2' hd aN A aV hR hE hx B
 show Calls Tryz.prog 116 #[.int .i64 i,.pointer (some ⟨t1,0,none⟩),.pointer (some ⟨t2,0,none⟩)] w _
 go_enter Tryz.func116,Tryz.ntmps116
 have aa:=blk_cell aP.out 0 (.pointer (some ⟨b,0,none⟩)) rfl
 obtain ⟨az,W,ao,aH,av,aI⟩:=blk6 aM.out rfl rfl rfl rfl rfl rfl
 go_wp2_with fail
 refine (wputc w0 b s _ H0.out [36] (by show _+1≤_;omega)).mono ?_
 rintro e w1 ⟨rfl,s1,h,e,o,z⟩
 have bc:=e.len
 try simp only[QO,QS,QZ] at bc
 have H1:=QA h
 have E1:=QA (E0.out.comp e)
 have O1:=QA (O0.out.trans o)
 have Z1:=QA (QR Z0.out z)
 have aW:=QA (ok8_at o aP.out n1' (by decide))
 have aY:=QA (ok8_at o aM.out n2' (by decide))
 clear aa az W ao aH av aI
 clear h e o z
 obtain ⟨k0,k1,k2,k3,k4,k5,k6,k7⟩:=D.out w1 H1.out.bel
 have aK:=blk_cell aW.out 0 (.pointer (some ⟨b,0,none⟩)) rfl
 obtain ⟨ai,X,T,ak,aJ,af⟩:=blk6 aY.out rfl rfl rfl rfl rfl rfl
 go_wp2_with fail
 refine wp_region_cuts [7] (by kernel_rfl) (by kernel_rfl) ?_;simp only[wpMix,QF,QN,QE,QL,Nat.sub_zero,Nat.reduceSub,QY]
 repeat (go_big_quiet_step (fail))
 refine wpQuiet_nil ?_;rintro _ ⟨nq,rfl⟩
 go_wp2_with fail
 refine (wname_any w0 b s1 _ (H1.out.drewN nq) x.name (by omega)).mono ?_
 rintro e w2 ⟨rfl,s2,h,e,o,z⟩
 have o:OK8 b w1 w2:=o
 have z:(w1).heap.size≤w2.heap.size:=z
 have bf:=e.len
 try simp only[QO,QS,QZ] at bf
 have H2:=QA h
 have E2:=QA (E1.out.comp e)
 have O2:=QA (O1.out.trans o)
 have Z2:=QA (QR Z1.out z)
 have I:=QA (ok8_at o aW.out n1' (by decide))
 have L:=QA (ok8_at o aY.out n2' (by decide))
 clear aK ai X T ak aJ af
 clear h e o z
 go_wp2_with fail
 refine wpQuiet_nil ?_
 rintro _ ⟨nr,rfl⟩
 obtain ⟨bC,O⟩:∃ q,q=w2.drewN nr:=⟨_,rfl⟩
 have ag:=H2.out.drewN nr
 have Q:OK8 b w (w2.drewN nr):=O2.out
 have Y:w.heap.size≤(w2.drewN nr).heap.size:=Z2.out
 have E:(w2.drewN nr).heap[t1]?=_:=I.out
 have G:(w2.drewN nr).heap[t2]?=_:=L.out
 rw[← O] at ag Q Y E G ⊢
 clear H2 O2 Z2 I L
 have H2:=QA ag
 have O2:=QA Q
 have Z2:=QA Y
 have I:=QA E
 have L:=QA G
 clear O ag Q Y E G
 clear k0 k1 k2 k3 k4 k5 k6 k7
 have ad:=blk_cell I.out 0 (.pointer (some ⟨b,0,none⟩)) rfl
 obtain ⟨au,R,ar,an,S,aL⟩:=blk6 L.out rfl rfl rfl rfl rfl rfl
 go_wp2_with fail
 refine (wputc w0 b s2 _ H2.out [58,32] (by show _+2≤_;omega)).mono ?_
 rintro e w3 ⟨rfl,s3,h,e,o,z⟩
 have bb:=e.len
 try simp only[QO,QS,QZ] at bb
 have H3:=QA h
 have E3:=QA (E2.out.comp e)
 have O3:=QA (O2.out.trans o)
 have Z3:=QA (QR Z2.out z)
 have aO:=QA (ok8_at o I.out n1' (by decide))
 have aZ:=QA (ok8_at o L.out n2' (by decide))
 clear ad au R ar an S aL
 clear h e o z
 obtain ⟨k0,k1,k2,k3,k4,k5,k6,k7⟩:=D.out w3 H3.out.bel
 have aq:=blk_cell aO.out 0 (.pointer (some ⟨b,0,none⟩)) rfl
 obtain ⟨V,ac,aF,P,ae,ah⟩:=blk6 aZ.out rfl rfl rfl rfl rfl rfl
 go_wp2_with fail
 refine wp_region_cuts [7] (by kernel_rfl) (by kernel_rfl) ?_;simp only[wpMix,QF,QN,QE,QL,Nat.sub_zero,Nat.reduceSub,QY]
 repeat (go_big_quiet_step (fail))
 refine wpQuiet_nil ?_;rintro _ ⟨nq,rfl⟩
 go_wp2_with fail
 refine (wkind_any w0 b s3 _ (H3.out.drewN nq) HE.out h3 x.type (by omega) (by omega)).mono ?_
 rintro e w4 ⟨rfl,s4,h,e,o,z⟩
 have o:OK8 b w3 w4:=o
 have z:(w3).heap.size≤w4.heap.size:=z
 have bd:=e.len
 try simp only[QO,QS,QZ] at bd
 have H4:=QA h
 have E4:=QA (E3.out.comp e)
 have O4:=QA (O3.out.trans o)
 have Z4:=QA (QR Z3.out z)
 have H:=QA (ok8_at o aO.out n1' (by decide))
 have M:=QA (ok8_at o aZ.out n2' (by decide))
 clear aq V ac aF P ae ah
 clear h e o z
 go_wp2_with fail
 refine wpQuiet_nil ?_
 rintro _ ⟨nr,rfl⟩
 obtain ⟨al,O⟩:∃ q,q=w4.drewN nr:=⟨_,rfl⟩
 have aB:=H4.out.drewN nr
 have ap:OK8 b w (w4.drewN nr):=O4.out
 have ay:w.heap.size≤(w4.drewN nr).heap.size:=Z4.out
 have F:(w4.drewN nr).heap[t1]?=_:=H.out
 have N:(w4.drewN nr).heap[t2]?=_:=M.out
 rw[← O] at aB ap ay F N ⊢
 clear H4 O4 Z4 H M
 have H4:=QA aB
 have O4:=QA ap
 have Z4:=QA ay
 have H:=QA F
 have M:=QA N
 clear O aB ap ay F N
 clear k0 k1 k2 k3 k4 k5 k6 k7
 obtain ⟨k0,k1,k2,k3,k4,k5,k6,k7⟩:=D.out al H4.out.bel
 have aj:=blk_cell H.out 0 (.pointer (some ⟨b,0,none⟩)) rfl
 obtain ⟨Z,aE,ax,aA,aG,U⟩:=blk6 M.out rfl rfl rfl rfl rfl rfl
 go_wp2_with fail
 refine wp_region_cuts [13] (by kernel_rfl) (by kernel_rfl) ?_;simp only[wpMix,QF,QN,QE,QL,Nat.sub_zero,Nat.reduceSub,QY]
 repeat (go_big_quiet_step (fail))
 refine wpQuiet_nil ?_;rintro _ ⟨nq,rfl⟩
 go_wp2_with fail
 refine (wgiven_any w0 b HE.out h3 s4 _ (H4.out.drewN nq) x.has x.dflt (by omega) a1 a2 n1 n2 HR.out (by omega)).mono ?_
 rintro e w5 ⟨rfl,s5,h,e,o,z⟩
 have o:OK8 b al w5:=o
 have z:(al).heap.size≤w5.heap.size:=z
 have be:=e.len
 try simp only[QO,QS,QZ] at be
 have H5:=QA h
 have E5:=QA (E4.out.comp e)
 have O5:=QA (O4.out.trans o)
 have Z5:=QA (QR Z4.out z)
 have ab:=QA (ok8_at o H.out n1' (by decide))
 have aC:=QA (ok8_at o M.out n2' (by decide))
 clear aj Z aE ax aA aG U
 clear h e o z
 go_wp2_with fail
 refine wpQuiet_nil ?_
 rintro _ ⟨nr,rfl⟩
 obtain ⟨bF,O⟩:∃ q,q=w5.drewN nr:=⟨_,rfl⟩
 have aD:=H5.out.drewN nr
 have aw:OK8 b w (w5.drewN nr):=O5.out
 have am:w.heap.size≤(w5.drewN nr).heap.size:=Z5.out
 have J:(w5.drewN nr).heap[t1]?=_:=ab.out
 have K:(w5.drewN nr).heap[t2]?=_:=aC.out
 rw[← O] at aD aw am J K ⊢
 clear H5 O5 Z5 ab aC
 have H5:=QA aD
 have O5:=QA aw
 have Z5:=QA am
 have ab:=QA J
 have aC:=QA K
 clear O aD aw am J K
 clear k0 k1 k2 k3 k4 k5 k6 k7
 go_wp2_with fail
 go_end0
 exact ⟨rfl,s5,H5.out,E5.out.to (by unfold Dq.varG;simp[Bool.and_assoc]) (fun _=>by unfold Dq.varT;simp) (by simp;omega),O5.out,Z5.out⟩
theorem vars_len (l:List Dq.Var):l.length≤Vl.sumC Dq.varC 2 l∧∀ x∈l,Dq.varC x≤Vl.sumC Dq.varC 2 l:=by
 refine ⟨?_,fun x hx=>by have:=Vl.sumC_mem Dq.varC 2 hx;omega⟩
 induction l with
 | nil=>exact Nat.zero_le _
 | cons x r ih=>rw[Vl.sumC,QO];omega
set_option maxHeartbeats 2000000 in
set_option maxRecDepth 100000 in
theorem wop_any (w0:World) (b:Nat) (hE:Env w0) (h3:3≤w0.heap.size) (y:Dq.Op) (v1 v2 v4:Option Addr) (m1 m2 m4:Nat) (hR:Reads w0 (fun _=>True) y.d [.int .i64 y.kind,.string ⟨y.name.toArray⟩,.slice v1 y.vars.length m1,.slice v2 y.dirs.length m2,.slice v4 y.sels.length m4,.int .i64 y.at_]) (hc:Dq.opC y≤1000000000000) (hvc:Vl.sumC Dq.varC 2 y.vars≤1000000000∧Dq.dirsC y.dirs≤1000000000∧Dq.Sel.costs y.sels≤1000000000) (s:Vl.Sh) (w:World) (h:WW w0 b s w) (hl:s.out.length+Dq.opC y≤1000000000000) :
  Calls Tryz.prog 51 #[.pointer (some ⟨b,0,none⟩),.agg #[.int .i64 y.kind,.string ⟨y.name.toArray⟩,.slice v1 y.vars.length m1,.slice v2 y.dirs.length m2,.slice v4 y.sels.length m4,.int .i64 y.at_]] w (WPost w0 b s w (Dq.opG y) (Dq.opT y) (Dq.opC y)):=by
 obtain ⟨dr,dv,ds⟩:=hvc
 have dB:Dq.opC y=20+y.name.length+Vl.sumC Dq.varC 2 y.vars+Dq.dirsC y.dirs+Dq.Sel.costs y.sels:=rfl
 have dA:=dirs_len y.dirs
 obtain ⟨dD,cp⟩:=vars_len y.vars
 have cW:=QA cp
 obtain ⟨y1,y2,y3,u1,u2,u3,ex,cE,co,cr⟩:=Dq.Op.opened hR
 obtain ⟨rfl,rfl,rfl,rfl,rfl,rfl⟩:v1=y1∧m1=u1∧v2=y2∧m2=u2∧v4=y3∧m4=u3:=by simpa [and_assoc] using ex
 clear ex hR cp
 obtain ⟨wb,aC⟩:∃ q,q=((w.alloc (.cells #[.pointer (some ⟨b,0,none⟩)] 175)).alloc (.cells #[.int .i64 y.kind,.string ⟨y.name.toArray⟩,.slice v1 y.vars.length m1,.slice v2 y.dirs.length m2,.slice v4 y.sels.length m4,.int .i64 y.at_] 96)):=⟨_,rfl⟩
 have H0:Hid (WW w0 b s wb):=by rw[aC];exact QA ((h.alloc (.cells #[.pointer (some ⟨b,0,none⟩)] 175)).alloc (.cells #[.int .i64 y.kind,.string ⟨y.name.toArray⟩,.slice v1 y.vars.length m1,.slice v2 y.dirs.length m2,.slice v4 y.sels.length m4,.int .i64 y.at_] 96))
 have O0:Hid (OK8 b w wb):=by rw[aC];exact QA (((Lib.OthersKept.refl 5 (some b) w).alloc _).alloc _)
 have Z0:Hid (w.heap.size≤wb.heap.size):=by rw[aC];exact QA (by simp;omega)
 have E0:=QA (Vl.Eff.refl s)
 have aO:Hid (wb.heap[w.heap.size]?=some (.cells #[.pointer (some ⟨b,0,none⟩)] 175 (0,0))):=by rw[aC];exact QA (box_at2_0 w _ _ _ _)
 have E:w.heap.size≠b:=by have:=h.lt;omega
 have aN:Hid (wb.heap[w.heap.size+1]?=some (.cells #[.int .i64 y.kind,.string ⟨y.name.toArray⟩,.slice v1 y.vars.length m1,.slice v2 y.dirs.length m2,.slice v4 y.sels.length m4,.int .i64 y.at_] 96 (0,0))):=by rw[aC];exact QA (box_at2_1 w _ _ _ _)
 have D:w.heap.size+1≠b:=by have:=h.lt;omega
 have dw:w.heap.size+2=wb.heap.size:=by rw[aC];simp
 have b1:=QA aC
 clear h aC
 have dl:=QA cE
 have cH:=QA co
 have dj:=QA cr
 have HE:=QA hE
 obtain ⟨bm,dn⟩:∃ q,y.name.isEmpty=q:=⟨_,rfl⟩
 have aD:Hid (decide (y.name=[])=bm∧(bm=true↔y.name=[])):=QA (by rw[← dn];cases y.name<;>simp)
 obtain ⟨bl,cU⟩:∃ q,decide ((0:Int)<(y.vars.length:Int))=q:=⟨_,rfl⟩
 have cu:decide (0<y.vars.length)=bl:=by rw[← cU,decide_eq_decide];omega
 have b7:Hid (bl=true↔y.vars.length≠0):=QA (by rw[← cu,decide_eq_true_iff];omega)
 clear cE co cr hE
 by_cases hq:1≤y.kind
 rotate_left
 ·have f1:decide ((1:Int)≤y.kind)=false:=decide_eq_false hq
  have HG:Hid (Dq.opG y=false):=QA (by unfold Dq.opG;rw[f1];rfl)
  clear hq
  go_enter Tryz.func51,Tryz.ntmps51
  have aa:=blk_cell aO.out 0 (.pointer (some ⟨b,0,none⟩)) rfl
  obtain ⟨af,Z,ac,ag,ad,ah⟩:=blk6 aN.out rfl rfl rfl rfl rfl rfl
  go_wp2_with fail
  rw[← b1.out]
  refine (H0.out.need (false)).mono ?_
  rintro e w1 ⟨rfl,X,h,e,o,z⟩
  have aY:=e.len
  try simp only[QO,QS,QZ] at aY
  have H1:=QA h
  have E1:=QA (E0.out.comp e)
  have O1:=QA (O0.out.trans o)
  have Z1:=QA (QR Z0.out z)
  have L:=QA (ok8_at o aO.out E (by decide))
  have N:=QA (ok8_at o aN.out D (by decide))
  clear aa af Z ac ag ad ah
  clear h e o z
  have aq:=H1.out.badCell
  rw[eff_false E1.out] at aq
  have P:=blk_cell L.out 0 (.pointer (some ⟨b,0,none⟩)) rfl
  obtain ⟨J,H,G,K,O,I⟩:=blk6 N.out rfl rfl rfl rfl rfl rfl
  go_wp2_with fail
  go_end0
  exact ⟨rfl,X,H1.out,E1.out.to (by rw[HG.out];rfl) (fun e=>by rw[HG.out] at e;cases e) (by omega),O1.out,Z1.out⟩
 have f1:decide ((1:Int)≤y.kind)=true:=decide_eq_true hq
 have g1:=hq
 clear hq
 by_cases hq:y.kind≤3
 rotate_left
 ·have f2:decide (y.kind≤(3:Int))=false:=decide_eq_false hq
  have HG:Hid (Dq.opG y=false):=QA (by unfold Dq.opG;rw[f2];simp)
  clear hq
  go_enter Tryz.func51,Tryz.ntmps51
  have aa:=blk_cell aO.out 0 (.pointer (some ⟨b,0,none⟩)) rfl
  obtain ⟨af,Z,ac,ag,ad,ah⟩:=blk6 aN.out rfl rfl rfl rfl rfl rfl
  go_wp2_with fail
  rw[← b1.out]
  refine (H0.out.need (false)).mono ?_
  rintro e w1 ⟨rfl,X,h,e,o,z⟩
  have aY:=e.len
  try simp only[QO,QS,QZ] at aY
  have H1:=QA h
  have E1:=QA (E0.out.comp e)
  have O1:=QA (O0.out.trans o)
  have Z1:=QA (QR Z0.out z)
  have L:=QA (ok8_at o aO.out E (by decide))
  have N:=QA (ok8_at o aN.out D (by decide))
  clear aa af Z ac ag ad ah
  clear h e o z
  have aq:=H1.out.badCell
  rw[eff_false E1.out] at aq
  have P:=blk_cell L.out 0 (.pointer (some ⟨b,0,none⟩)) rfl
  obtain ⟨J,H,G,K,O,I⟩:=blk6 N.out rfl rfl rfl rfl rfl rfl
  go_wp2_with fail
  go_end0
  exact ⟨rfl,X,H1.out,E1.out.to (by rw[HG.out];rfl) (fun e=>by rw[HG.out] at e;cases e) (by omega),O1.out,Z1.out⟩
 have f2:decide (y.kind≤(3:Int))=true:=decide_eq_true hq
 have g2:=hq
 clear hq
 have cN:Hid (y.kind=1∨y.kind=2∨y.kind=3):=QA (by omega)
 have HG:Hid (Dq.opG y=(Dq.nmG y.name&&(y.vars.all Dq.varG&&(Dq.dirsG 0 y.dirs&&Dq.selsG 0 y.sels)))):=QA (by unfold Dq.opG;rw[f1,f2];rfl)
 clear g1 g2
 go_enter Tryz.func51,Tryz.ntmps51
 have aa:=blk_cell aO.out 0 (.pointer (some ⟨b,0,none⟩)) rfl
 obtain ⟨af,Z,ac,ag,ad,ah⟩:=blk6 aN.out rfl rfl rfl rfl rfl rfl
 go_wp2_with fail
 rw[← b1.out]
 refine (H0.out.need (true)).mono ?_
 rintro e w1 ⟨rfl,X,h,e,o,z⟩
 have aY:=e.len
 try simp only[QO,QS,QZ] at aY
 have H1:=QA h
 have E1:=QA (E0.out.comp e)
 have O1:=QA (O0.out.trans o)
 have Z1:=QA (QR Z0.out z)
 have L:=QA (ok8_at o aO.out E (by decide))
 have N:=QA (ok8_at o aN.out D (by decide))
 clear aa af Z ac ag ad ah
 clear h e o z
 have aq:=H1.out.badCell
 cases hbd:X.bad
 rotate_left
 ·rw[hbd] at aq
  have c0:=QA hbd
  clear hbd
  have P:=blk_cell L.out 0 (.pointer (some ⟨b,0,none⟩)) rfl
  obtain ⟨J,H,G,K,O,I⟩:=blk6 N.out rfl rfl rfl rfl rfl rfl
  go_wp2_with fail
  go_end0
  exact ⟨rfl,X,H1.out,(E1.out.comp (Vl.Eff.skip c0.out (Dq.opG y) (Dq.opT y))).to (by simp) (fun _=>by simp) (by omega),O1.out,Z1.out⟩
 rw[hbd] at aq
 clear hbd
 rcases cN.out with hk|hk|hk
 focus
  have M:Hid (∀ w':World,Below w1.heap.size w1 w'→w'.cell? ⟨w.heap.size,0,none⟩=some (.pointer (some ⟨b,0,none⟩))∧w'.cell? ⟨w.heap.size+1,0,none⟩=some (.int .i64 1)):=QA (fun w' hb=>⟨blk_cell ((hb.block _ (block_lt L.out)).trans L.out) 0 (.pointer (some ⟨b,0,none⟩)) rfl,blk_cell ((hb.block _ (block_lt N.out)).trans N.out) 0 (.int .i64 1) (by rw[hk];rfl)⟩)
  have aK:=QA hk
  clear hk
  have P:=blk_cell L.out 0 (.pointer (some ⟨b,0,none⟩)) rfl
  obtain ⟨J,H,G,K,O,I⟩:=blk6 N.out rfl rfl rfl rfl rfl rfl
  go_wp2_with fail
  clear P J H G K O I
  clear aq
  refine wp_region_phase (fun w'=>w'.cell? ⟨w.heap.size,0,none⟩=some (.pointer (some ⟨b,0,none⟩))∧w'.cell? ⟨w.heap.size+1,0,none⟩=some (.int .i64 1)) 9 (by kernel_rfl) ?_
  have hS:=M.out _ (Below.drew (Below.refl w1.heap.size w1))
  refine wpAnyB_take (i:=0) (v:=(.pointer (some ⟨b,0,none⟩))) (by kernel_rfl) (by decide) rfl (by kernel_rfl) (by kernel_rfl) (by kernel_rfl) (fun _ _ _ h=>h) (Or.inl ⟨by rfl,fun w hSw=>by obtain ⟨s0,X⟩:=hSw;go_simp;first|done|rfl|decide⟩) hS ?_;simp only[Act.put,QD,QK,QI,QJ,QC,QH,QG]
  refine wpAnyB_take (i:=2) (v:=(.pointer (some ⟨w.heap.size+1,0,none⟩))) (by kernel_rfl) (by decide) rfl (by kernel_rfl) (by kernel_rfl) (by kernel_rfl) (fun _ _ _ h=>h) (Or.inl ⟨by rfl,fun w hSw=>by obtain ⟨s0,X⟩:=hSw;go_simp;first|done|rfl|decide⟩) hS ?_;simp only[Act.put,QD,QK,QI,QJ,QC,QH,QG]
  refine wpAnyB_take (i:=3) (v:=(.int .i64 1)) (by kernel_rfl) (by decide) rfl (by kernel_rfl) (by kernel_rfl) (by kernel_rfl) (fun _ _ _ h=>h) (Or.inl ⟨by rfl,fun w hSw=>by obtain ⟨s0,X⟩:=hSw;go_simp;first|done|rfl|decide⟩) hS ?_;simp only[Act.put,QD,QK,QI,QJ,QC,QH,QG]
  refine wpAnyB_take (i:=4) (v:=(.int .i64 0)) (by kernel_rfl) (by decide) rfl (by kernel_rfl) (by kernel_rfl) (by kernel_rfl) (fun _ _ _ h=>h) (Or.inl ⟨by rfl,fun w hSw=>by obtain ⟨s0,X⟩:=hSw;go_simp;first|done|rfl|decide⟩) hS ?_;simp only[Act.put,QD,QK,QI,QJ,QC,QH,QG]
  clear hS
  refine wpAnyB_one (i:=1) (by kernel_rfl) ?_
  refine wpOp_intro (by decide) (fun K1 HK1=>?_);simp only[QE,QL,QF,QN]
  go_wp2_with fail
  refine HK1.out _ _ ⟨fun _=>M.out _ (Below.drew ((Below.refl _ _).alloc (QM _) _)),?_⟩
  clear HK1
  refine wpAnyB_one (i:=5) (by kernel_rfl) ?_
  refine wpOp_intro (by decide) (fun K5 HK5=>?_);simp only[QE,QL,QF,QN]
  go_wp2_with fail
  refine HK5.out _ _ ⟨fun _=>M.out _ (Below.drew ((Below.refl _ _).alloc (QM _) _)),?_⟩
  clear HK5
  refine wpAnyB_one (i:=6) (by kernel_rfl) ?_
  refine wpOp_intro (by decide) (fun K6 HK6=>?_);simp only[QE,QL,QF,QN]
  go_wp2_with fail
  refine HK6.out _ _ ⟨fun _=>M.out _ (Below.drew ((Below.refl _ _).alloc (QM _) _)),?_⟩
  clear HK6
  refine wpAnyB_one (i:=7) (by kernel_rfl) ?_
  refine wpOp_intro (by decide) (fun K7 HK7=>?_);simp only[QE,QL,QF,QN]
  go_wp2_with fail
  refine HK7.out _ _ ⟨fun _=>M.out _ (Below.drew (((Below.refl _ _).alloc (QM _) _).alloc (by simp) _)),?_⟩
  clear HK7
  refine wpAnyB_one (i:=8) (by kernel_rfl) ?_
  refine wpOp_intro (by decide) (fun K8 HK8=>?_);simp only[QE,QL,QF,QN]
  go_wp2_with fail
  refine (wput_any w0 b X _ (show WW w0 b X (World.drewN _ 1) from ((H1.out.alloc _).alloc _).drewN 1) (w1.heap.size+1) [113,117,101,114,121] _ (box_at2_1 w1 _ _ _ _) (by have:=H1.out.lt;omega) (by decide) (by show _+5≤_;omega)).mono ?_
  rintro e w2 ⟨rfl,s2,h,e,o,z⟩
  have o:OK8 b w1 w2:=ok8_alloc (ok8_alloc (show OK8 b ((w1.alloc _).alloc _) w2 from o))
  have z:w1.heap.size≤w2.heap.size:=by have:((w1.alloc _).alloc _).heap.size≤w2.heap.size:=z;simp at this;omega
  have a5:=e.len
  try simp only[QO,QS,QZ] at a5
  have H2:=QA h
  have E2:=QA (E1.out.comp e)
  have O2:=QA (O1.out.trans o)
  have Z2:=QA (QR Z1.out z)
  have aE:=QA (ok8_at o L.out E (by decide))
  have aG:=QA (ok8_at o N.out D (by decide))
  clear h e o z
  go_wp2_with fail
  refine HK8.out _ _ ⟨fun _=>⟨blk_cell aE.out 0 (.pointer (some ⟨b,0,none⟩)) rfl,blk_cell aG.out 0 (.int .i64 1) (by rw[aK.out];rfl)⟩,?_⟩
  clear HK8
  refine wpAnyB_done (by kernel_rfl) ?_ _
  obtain ⟨w9,A⟩:∃ q,q=w2:=⟨_,rfl⟩
  obtain ⟨s9,C⟩:∃ q,q=s2:=⟨_,rfl⟩
  have H9:Hid (WW w0 b s9 w9):=by rw[C,A];exact QA H2.out
  have E9:Hid (Vl.Eff s (true) (Dq.word y.kind) (12) s9):=by rw[C];exact QA (E2.out.to (by rfl) (fun _=>by rw[aK.out];rfl) (by first|omega|(simp;done)|(simp;omega)))
  have O9:Hid (OK8 b w w9):=by rw[A];exact QA O2.out
  have Z9:Hid (w.heap.size≤w9.heap.size):=by rw[A];exact QA Z2.out
  have ci:s9.out.length≤s.out.length+(12):=by rw[C];omega
  have ak:Hid (w9.heap[w.heap.size]?=some (.cells #[.pointer (some ⟨b,0,none⟩)] 175 (0,0))):=by rw[A];exact QA aE.out
  have ai:Hid (w9.heap[w.heap.size+1]?=some (.cells #[.int .i64 y.kind,.string ⟨y.name.toArray⟩,.slice v1 y.vars.length m1,.slice v2 y.dirs.length m2,.slice v4 y.sels.length m4,.int .i64 y.at_] 96 (0,0))):=by rw[A];exact QA aG.out
  rw[← A]
  clear A C
 rotate_left
 focus
  have M:Hid (∀ w':World,Below w1.heap.size w1 w'→w'.cell? ⟨w.heap.size,0,none⟩=some (.pointer (some ⟨b,0,none⟩))∧w'.cell? ⟨w.heap.size+1,0,none⟩=some (.int .i64 2)):=QA (fun w' hb=>⟨blk_cell ((hb.block _ (block_lt L.out)).trans L.out) 0 (.pointer (some ⟨b,0,none⟩)) rfl,blk_cell ((hb.block _ (block_lt N.out)).trans N.out) 0 (.int .i64 2) (by rw[hk];rfl)⟩)
  have aK:=QA hk
  clear hk
  have P:=blk_cell L.out 0 (.pointer (some ⟨b,0,none⟩)) rfl
  obtain ⟨J,H,G,K,O,I⟩:=blk6 N.out rfl rfl rfl rfl rfl rfl
  go_wp2_with fail
  clear P J H G K O I
  clear aq
  refine wp_region_phase (fun w'=>w'.cell? ⟨w.heap.size,0,none⟩=some (.pointer (some ⟨b,0,none⟩))∧w'.cell? ⟨w.heap.size+1,0,none⟩=some (.int .i64 2)) 9 (by kernel_rfl) ?_
  have hS:=M.out _ (Below.drew (Below.refl w1.heap.size w1))
  refine wpAnyB_take (i:=0) (v:=(.pointer (some ⟨b,0,none⟩))) (by kernel_rfl) (by decide) rfl (by kernel_rfl) (by kernel_rfl) (by kernel_rfl) (fun _ _ _ h=>h) (Or.inl ⟨by rfl,fun w hSw=>by obtain ⟨s0,X⟩:=hSw;go_simp;first|done|rfl|decide⟩) hS ?_;simp only[Act.put,QD,QK,QI,QJ,QC,QH,QG]
  refine wpAnyB_take (i:=2) (v:=(.pointer (some ⟨w.heap.size+1,0,none⟩))) (by kernel_rfl) (by decide) rfl (by kernel_rfl) (by kernel_rfl) (by kernel_rfl) (fun _ _ _ h=>h) (Or.inl ⟨by rfl,fun w hSw=>by obtain ⟨s0,X⟩:=hSw;go_simp;first|done|rfl|decide⟩) hS ?_;simp only[Act.put,QD,QK,QI,QJ,QC,QH,QG]
  refine wpAnyB_take (i:=3) (v:=(.int .i64 2)) (by kernel_rfl) (by decide) rfl (by kernel_rfl) (by kernel_rfl) (by kernel_rfl) (fun _ _ _ h=>h) (Or.inl ⟨by rfl,fun w hSw=>by obtain ⟨s0,X⟩:=hSw;go_simp;first|done|rfl|decide⟩) hS ?_;simp only[Act.put,QD,QK,QI,QJ,QC,QH,QG]
  refine wpAnyB_take (i:=4) (v:=(.int .i64 1)) (by kernel_rfl) (by decide) rfl (by kernel_rfl) (by kernel_rfl) (by kernel_rfl) (fun _ _ _ h=>h) (Or.inl ⟨by rfl,fun w hSw=>by obtain ⟨s0,X⟩:=hSw;go_simp;first|done|rfl|decide⟩) hS ?_;simp only[Act.put,QD,QK,QI,QJ,QC,QH,QG]
  clear hS
  refine wpAnyB_one (i:=1) (by kernel_rfl) ?_
  refine wpOp_intro (by decide) (fun K1 HK1=>?_);simp only[QE,QL,QF,QN]
  go_wp2_with fail
  refine HK1.out _ _ ⟨fun _=>M.out _ (Below.drew ((Below.refl _ _).alloc (QM _) _)),?_⟩
  clear HK1
  refine wpAnyB_one (i:=5) (by kernel_rfl) ?_
  refine wpOp_intro (by decide) (fun K5 HK5=>?_);simp only[QE,QL,QF,QN]
  go_wp2_with fail
  refine HK5.out _ _ ⟨fun _=>M.out _ (Below.drew ((Below.refl _ _).alloc (QM _) _)),?_⟩
  clear HK5
  refine wpAnyB_one (i:=6) (by kernel_rfl) ?_
  refine wpOp_intro (by decide) (fun K6 HK6=>?_);simp only[QE,QL,QF,QN]
  go_wp2_with fail
  refine HK6.out _ _ ⟨fun _=>M.out _ (Below.drew ((Below.refl _ _).alloc (QM _) _)),?_⟩
  clear HK6
  refine wpAnyB_one (i:=7) (by kernel_rfl) ?_
  refine wpOp_intro (by decide) (fun K7 HK7=>?_);simp only[QE,QL,QF,QN]
  go_wp2_with fail
  refine HK7.out _ _ ⟨fun _=>M.out _ (Below.drew (((Below.refl _ _).alloc (QM _) _).alloc (by simp) _)),?_⟩
  clear HK7
  refine wpAnyB_one (i:=8) (by kernel_rfl) ?_
  refine wpOp_intro (by decide) (fun K8 HK8=>?_);simp only[QE,QL,QF,QN]
  go_wp2_with fail
  refine (wput_any w0 b X _ (show WW w0 b X (World.drewN _ 1) from ((H1.out.alloc _).alloc _).drewN 1) (w1.heap.size+1) [109,117,116,97,116,105,111,110] _ (box_at2_1 w1 _ _ _ _) (by have:=H1.out.lt;omega) (by decide) (by show _+8≤_;omega)).mono ?_
  rintro e w2 ⟨rfl,s2,h,e,o,z⟩
  have o:OK8 b w1 w2:=ok8_alloc (ok8_alloc (show OK8 b ((w1.alloc _).alloc _) w2 from o))
  have z:w1.heap.size≤w2.heap.size:=by have:((w1.alloc _).alloc _).heap.size≤w2.heap.size:=z;simp at this;omega
  have a5:=e.len
  try simp only[QO,QS,QZ] at a5
  have H2:=QA h
  have E2:=QA (E1.out.comp e)
  have O2:=QA (O1.out.trans o)
  have Z2:=QA (QR Z1.out z)
  have aE:=QA (ok8_at o L.out E (by decide))
  have aG:=QA (ok8_at o N.out D (by decide))
  clear h e o z
  go_wp2_with fail
  refine HK8.out _ _ ⟨fun _=>⟨blk_cell aE.out 0 (.pointer (some ⟨b,0,none⟩)) rfl,blk_cell aG.out 0 (.int .i64 2) (by rw[aK.out];rfl)⟩,?_⟩
  clear HK8
  refine wpAnyB_done (by kernel_rfl) ?_ _
  obtain ⟨w9,A⟩:∃ q,q=w2:=⟨_,rfl⟩
  obtain ⟨s9,C⟩:∃ q,q=s2:=⟨_,rfl⟩
  have H9:Hid (WW w0 b s9 w9):=by rw[C,A];exact QA H2.out
  have E9:Hid (Vl.Eff s (true) (Dq.word y.kind) (12) s9):=by rw[C];exact QA (E2.out.to (by rfl) (fun _=>by rw[aK.out];rfl) (by first|omega|(simp;done)|(simp;omega)))
  have O9:Hid (OK8 b w w9):=by rw[A];exact QA O2.out
  have Z9:Hid (w.heap.size≤w9.heap.size):=by rw[A];exact QA Z2.out
  have ci:s9.out.length≤s.out.length+(12):=by rw[C];omega
  have ak:Hid (w9.heap[w.heap.size]?=some (.cells #[.pointer (some ⟨b,0,none⟩)] 175 (0,0))):=by rw[A];exact QA aE.out
  have ai:Hid (w9.heap[w.heap.size+1]?=some (.cells #[.int .i64 y.kind,.string ⟨y.name.toArray⟩,.slice v1 y.vars.length m1,.slice v2 y.dirs.length m2,.slice v4 y.sels.length m4,.int .i64 y.at_] 96 (0,0))):=by rw[A];exact QA aG.out
  rw[← A]
  clear A C
 rotate_left
 focus
  have M:Hid (∀ w':World,Below w1.heap.size w1 w'→w'.cell? ⟨w.heap.size,0,none⟩=some (.pointer (some ⟨b,0,none⟩))∧w'.cell? ⟨w.heap.size+1,0,none⟩=some (.int .i64 3)):=QA (fun w' hb=>⟨blk_cell ((hb.block _ (block_lt L.out)).trans L.out) 0 (.pointer (some ⟨b,0,none⟩)) rfl,blk_cell ((hb.block _ (block_lt N.out)).trans N.out) 0 (.int .i64 3) (by rw[hk];rfl)⟩)
  have aK:=QA hk
  clear hk
  have P:=blk_cell L.out 0 (.pointer (some ⟨b,0,none⟩)) rfl
  obtain ⟨J,H,G,K,O,I⟩:=blk6 N.out rfl rfl rfl rfl rfl rfl
  go_wp2_with fail
  clear P J H G K O I
  clear aq
  refine wp_region_phase (fun w'=>w'.cell? ⟨w.heap.size,0,none⟩=some (.pointer (some ⟨b,0,none⟩))∧w'.cell? ⟨w.heap.size+1,0,none⟩=some (.int .i64 3)) 9 (by kernel_rfl) ?_
  have hS:=M.out _ (Below.drew (Below.refl w1.heap.size w1))
  refine wpAnyB_take (i:=0) (v:=(.pointer (some ⟨b,0,none⟩))) (by kernel_rfl) (by decide) rfl (by kernel_rfl) (by kernel_rfl) (by kernel_rfl) (fun _ _ _ h=>h) (Or.inl ⟨by rfl,fun w hSw=>by obtain ⟨s0,X⟩:=hSw;go_simp;first|done|rfl|decide⟩) hS ?_;simp only[Act.put,QD,QK,QI,QJ,QC,QH,QG]
  refine wpAnyB_take (i:=2) (v:=(.pointer (some ⟨w.heap.size+1,0,none⟩))) (by kernel_rfl) (by decide) rfl (by kernel_rfl) (by kernel_rfl) (by kernel_rfl) (fun _ _ _ h=>h) (Or.inl ⟨by rfl,fun w hSw=>by obtain ⟨s0,X⟩:=hSw;go_simp;first|done|rfl|decide⟩) hS ?_;simp only[Act.put,QD,QK,QI,QJ,QC,QH,QG]
  refine wpAnyB_take (i:=3) (v:=(.int .i64 3)) (by kernel_rfl) (by decide) rfl (by kernel_rfl) (by kernel_rfl) (by kernel_rfl) (fun _ _ _ h=>h) (Or.inl ⟨by rfl,fun w hSw=>by obtain ⟨s0,X⟩:=hSw;go_simp;first|done|rfl|decide⟩) hS ?_;simp only[Act.put,QD,QK,QI,QJ,QC,QH,QG]
  refine wpAnyB_take (i:=4) (v:=(.int .i64 2)) (by kernel_rfl) (by decide) rfl (by kernel_rfl) (by kernel_rfl) (by kernel_rfl) (fun _ _ _ h=>h) (Or.inl ⟨by rfl,fun w hSw=>by obtain ⟨s0,X⟩:=hSw;go_simp;first|done|rfl|decide⟩) hS ?_;simp only[Act.put,QD,QK,QI,QJ,QC,QH,QG]
  clear hS
  refine wpAnyB_one (i:=1) (by kernel_rfl) ?_
  refine wpOp_intro (by decide) (fun K1 HK1=>?_);simp only[QE,QL,QF,QN]
  go_wp2_with fail
  refine HK1.out _ _ ⟨fun _=>M.out _ (Below.drew ((Below.refl _ _).alloc (QM _) _)),?_⟩
  clear HK1
  refine wpAnyB_one (i:=5) (by kernel_rfl) ?_
  refine wpOp_intro (by decide) (fun K5 HK5=>?_);simp only[QE,QL,QF,QN]
  go_wp2_with fail
  refine HK5.out _ _ ⟨fun _=>M.out _ (Below.drew ((Below.refl _ _).alloc (QM _) _)),?_⟩
  clear HK5
  refine wpAnyB_one (i:=6) (by kernel_rfl) ?_
  refine wpOp_intro (by decide) (fun K6 HK6=>?_);simp only[QE,QL,QF,QN]
  go_wp2_with fail
  refine HK6.out _ _ ⟨fun _=>M.out _ (Below.drew ((Below.refl _ _).alloc (QM _) _)),?_⟩
  clear HK6
  refine wpAnyB_one (i:=7) (by kernel_rfl) ?_
  refine wpOp_intro (by decide) (fun K7 HK7=>?_);simp only[QE,QL,QF,QN]
  go_wp2_with fail
  refine HK7.out _ _ ⟨fun _=>M.out _ (Below.drew (((Below.refl _ _).alloc (QM _) _).alloc (by simp) _)),?_⟩
  clear HK7
  refine wpAnyB_one (i:=8) (by kernel_rfl) ?_
  refine wpOp_intro (by decide) (fun K8 HK8=>?_);simp only[QE,QL,QF,QN]
  go_wp2_with fail
  refine (wput_any w0 b X _ (show WW w0 b X (World.drewN _ 1) from ((H1.out.alloc _).alloc _).drewN 1) (w1.heap.size+1) [115,117,98,115,99,114,105,112,116,105,111,110] _ (box_at2_1 w1 _ _ _ _) (by have:=H1.out.lt;omega) (by decide) (by show _+12≤_;omega)).mono ?_
  rintro e w2 ⟨rfl,s2,h,e,o,z⟩
  have o:OK8 b w1 w2:=ok8_alloc (ok8_alloc (show OK8 b ((w1.alloc _).alloc _) w2 from o))
  have z:w1.heap.size≤w2.heap.size:=by have:((w1.alloc _).alloc _).heap.size≤w2.heap.size:=z;simp at this;omega
  have a5:=e.len
  try simp only[QO,QS,QZ] at a5
  have H2:=QA h
  have E2:=QA (E1.out.comp e)
  have O2:=QA (O1.out.trans o)
  have Z2:=QA (QR Z1.out z)
  have aE:=QA (ok8_at o L.out E (by decide))
  have aG:=QA (ok8_at o N.out D (by decide))
  clear h e o z
  go_wp2_with fail
  refine HK8.out _ _ ⟨fun _=>⟨blk_cell aE.out 0 (.pointer (some ⟨b,0,none⟩)) rfl,blk_cell aG.out 0 (.int .i64 3) (by rw[aK.out];rfl)⟩,?_⟩
  clear HK8
  refine wpAnyB_done (by kernel_rfl) ?_ _
  obtain ⟨w9,A⟩:∃ q,q=w2:=⟨_,rfl⟩
  obtain ⟨s9,C⟩:∃ q,q=s2:=⟨_,rfl⟩
  have H9:Hid (WW w0 b s9 w9):=by rw[C,A];exact QA H2.out
  have E9:Hid (Vl.Eff s (true) (Dq.word y.kind) (12) s9):=by rw[C];exact QA (E2.out.to (by rfl) (fun _=>by rw[aK.out];rfl) (by first|omega|(simp;done)|(simp;omega)))
  have O9:Hid (OK8 b w w9):=by rw[A];exact QA O2.out
  have Z9:Hid (w.heap.size≤w9.heap.size):=by rw[A];exact QA Z2.out
  have ci:s9.out.length≤s.out.length+(12):=by rw[C];omega
  have ak:Hid (w9.heap[w.heap.size]?=some (.cells #[.pointer (some ⟨b,0,none⟩)] 175 (0,0))):=by rw[A];exact QA aE.out
  have ai:Hid (w9.heap[w.heap.size+1]?=some (.cells #[.int .i64 y.kind,.string ⟨y.name.toArray⟩,.slice v1 y.vars.length m1,.slice v2 y.dirs.length m2,.slice v4 y.sels.length m4,.int .i64 y.at_] 96 (0,0))):=by rw[A];exact QA aG.out
  rw[← A]
  clear A C
 rotate_left
 all_goals
  cases bl
  focus
   cases bm
   focus
    have V:=blk_cell ak.out 0 (.pointer (some ⟨b,0,none⟩)) rfl
    obtain ⟨U,S,Q,T,R,W⟩:=blk6 ai.out rfl rfl rfl rfl rfl rfl
    go_wp2_with fail
    refine (wputc w0 b s9 _ H9.out [32] (by show _+1≤_;omega)).mono ?_
    rintro e w10 ⟨rfl,s10,h,e,o,z⟩
    have a2:=e.len
    try simp only[QO,QS,QZ] at a2
    have ca:=QA h
    have b6:=QA (E9.out.comp e)
    have b5:=QA (O9.out.trans o)
    have b3:=QA (QR Z9.out z)
    have aI:=QA (ok8_at o ak.out E (by decide))
    have aH:=QA (ok8_at o ai.out D (by decide))
    clear V U S Q T R W
    clear h e o z
    have ay:=blk_cell aI.out 0 (.pointer (some ⟨b,0,none⟩)) rfl
    obtain ⟨an,aw,ax,ao,al,aA⟩:=blk6 aH.out rfl rfl rfl rfl rfl rfl
    go_wp2_with fail
    refine (wname_any w0 b s10 _ ca.out y.name (by omega)).mono ?_
    rintro e w11 ⟨rfl,s11,h,e,o,z⟩
    have aQ:=e.len
    try simp only[QO,QS,QZ] at aQ
    have b9:=QA h
    have cb:=QA (b6.out.comp e)
    have b2:=QA (b5.out.trans o)
    have b4:=QA (QR b3.out z)
    have aZ:=QA (ok8_at o aI.out E (by decide))
    have a1:=QA (ok8_at o aH.out D (by decide))
    clear ay an aw ax ao al aA
    clear h e o z
    obtain ⟨B,A⟩:∃ q,q=w11:=⟨_,rfl⟩
    obtain ⟨F,C⟩:∃ q,q=s11:=⟨_,rfl⟩
    have aW:Hid (WW w0 b F B):=by rw[C,A];exact QA b9.out
    have aX:Hid (Vl.Eff s (Dq.nmG y.name) (Dq.word y.kind++Dq.nmT y.name [32] []) (13+y.name.length) F):=by rw[C];exact QA (cb.out.to (by rw[Dq.nmG,aD.out.1];simp) (fun _=>by rw[Dq.nmT,if_neg (fun e=>absurd (aD.out.2.2 e) (by simp))];simp) (by first|omega|(simp;done)|(simp;omega)))
    have aR:Hid (OK8 b w B):=by rw[A];exact QA b2.out
    have aU:Hid (w.heap.size≤B.heap.size):=by rw[A];exact QA b4.out
    have aT:F.out.length≤s.out.length+(13+y.name.length):=by rw[C];omega
    have Y:Hid (B.heap[w.heap.size]?=some (.cells #[.pointer (some ⟨b,0,none⟩)] 175 (0,0))):=by rw[A];exact QA aZ.out
    have ae:Hid (B.heap[w.heap.size+1]?=some (.cells #[.int .i64 y.kind,.string ⟨y.name.toArray⟩,.slice v1 y.vars.length m1,.slice v2 y.dirs.length m2,.slice v4 y.sels.length m4,.int .i64 y.at_] 96 (0,0))):=by rw[A];exact QA a1.out
    rw[← A]
    clear A C
   rotate_left
   focus
    have V:=blk_cell ak.out 0 (.pointer (some ⟨b,0,none⟩)) rfl
    obtain ⟨U,S,Q,T,R,W⟩:=blk6 ai.out rfl rfl rfl rfl rfl rfl
    go_wp2_with fail
    clear V U S Q T R W
    obtain ⟨B,A⟩:∃ q,q=w9:=⟨_,rfl⟩
    obtain ⟨F,C⟩:∃ q,q=s9:=⟨_,rfl⟩
    have aW:Hid (WW w0 b F B):=by rw[C,A];exact QA H9.out
    have aX:Hid (Vl.Eff s (Dq.nmG y.name) (Dq.word y.kind++Dq.nmT y.name [32] []) (13+y.name.length) F):=by rw[C];exact QA (E9.out.to (by rw[Dq.nmG,aD.out.1];rfl) (fun _=>by rw[Dq.nmT,if_pos (aD.out.2.1 (by trivial))];simp) (by first|omega|(simp;done)|(simp;omega)))
    have aR:Hid (OK8 b w B):=by rw[A];exact QA O9.out
    have aU:Hid (w.heap.size≤B.heap.size):=by rw[A];exact QA Z9.out
    have aT:F.out.length≤s.out.length+(13+y.name.length):=by rw[C];omega
    have Y:Hid (B.heap[w.heap.size]?=some (.cells #[.pointer (some ⟨b,0,none⟩)] 175 (0,0))):=by rw[A];exact QA ak.out
    have ae:Hid (B.heap[w.heap.size+1]?=some (.cells #[.int .i64 y.kind,.string ⟨y.name.toArray⟩,.slice v1 y.vars.length m1,.slice v2 y.dirs.length m2,.slice v4 y.sels.length m4,.int .i64 y.at_] 96 (0,0))):=by rw[A];exact QA ai.out
    rw[← A]
    clear A C
   all_goals
    have az:=blk_cell Y.out 0 (.pointer (some ⟨b,0,none⟩)) rfl
    obtain ⟨ar,aB,av,am,au,ap⟩:=blk6 ae.out rfl rfl rfl rfl rfl rfl
    go_wp2_with fail
    clear az ar aB av am au ap
    obtain ⟨ab,A⟩:∃ q,q=B:=⟨_,rfl⟩
    obtain ⟨aL,C⟩:∃ q,q=F:=⟨_,rfl⟩
    have ck:Hid (WW w0 b aL ab):=by rw[C,A];exact QA aW.out
    have cm:Hid (Vl.Eff s (Dq.nmG y.name&&y.vars.all Dq.varG) ((Dq.word y.kind++Dq.nmT y.name [32] [])++Dq.varsT y.vars) (15+y.name.length+Vl.sumC Dq.varC 2 y.vars) aL):=by rw[C];exact QA (aX.out.to (by rw[show y.vars=[] from List.length_eq_zero_iff.1 (Classical.byContradiction fun h=>absurd (b7.out.2 h) (by simp))];simp) (fun _=>by rw[show y.vars=[] from List.length_eq_zero_iff.1 (Classical.byContradiction fun h=>absurd (b7.out.2 h) (by simp))];simp[Dq.varsT]) (by first|omega|(simp;done)|(simp;omega)))
    have cl:Hid (OK8 b w ab):=by rw[A];exact QA aR.out
    have cj:Hid (w.heap.size≤ab.heap.size):=by rw[A];exact QA aU.out
    have cv:aL.out.length≤s.out.length+(15+y.name.length+Vl.sumC Dq.varC 2 y.vars):=by rw[C];omega
    have a0:Hid (ab.heap[w.heap.size]?=some (.cells #[.pointer (some ⟨b,0,none⟩)] 175 (0,0))):=by rw[A];exact QA Y.out
    have a3:Hid (ab.heap[w.heap.size+1]?=some (.cells #[.int .i64 y.kind,.string ⟨y.name.toArray⟩,.slice v1 y.vars.length m1,.slice v2 y.dirs.length m2,.slice v4 y.sels.length m4,.int .i64 y.at_] 96 (0,0))):=by rw[A];exact QA ae.out
    rw[← A]
    clear A C
  rotate_left 2
  focus
   cases bm
   focus
    have V:=blk_cell ak.out 0 (.pointer (some ⟨b,0,none⟩)) rfl
    obtain ⟨U,S,Q,T,R,W⟩:=blk6 ai.out rfl rfl rfl rfl rfl rfl
    go_wp2_with fail
    refine (wputc w0 b s9 _ H9.out [32] (by show _+1≤_;omega)).mono ?_
    rintro e w10 ⟨rfl,s10,h,e,o,z⟩
    have a2:=e.len
    try simp only[QO,QS,QZ] at a2
    have ca:=QA h
    have b6:=QA (E9.out.comp e)
    have b5:=QA (O9.out.trans o)
    have b3:=QA (QR Z9.out z)
    have aI:=QA (ok8_at o ak.out E (by decide))
    have aH:=QA (ok8_at o ai.out D (by decide))
    clear V U S Q T R W
    clear h e o z
    have ay:=blk_cell aI.out 0 (.pointer (some ⟨b,0,none⟩)) rfl
    obtain ⟨an,aw,ax,ao,al,aA⟩:=blk6 aH.out rfl rfl rfl rfl rfl rfl
    go_wp2_with fail
    refine (wname_any w0 b s10 _ ca.out y.name (by omega)).mono ?_
    rintro e w11 ⟨rfl,s11,h,e,o,z⟩
    have aQ:=e.len
    try simp only[QO,QS,QZ] at aQ
    have b9:=QA h
    have cb:=QA (b6.out.comp e)
    have b2:=QA (b5.out.trans o)
    have b4:=QA (QR b3.out z)
    have aZ:=QA (ok8_at o aI.out E (by decide))
    have a1:=QA (ok8_at o aH.out D (by decide))
    clear ay an aw ax ao al aA
    clear h e o z
    obtain ⟨B,A⟩:∃ q,q=w11:=⟨_,rfl⟩
    obtain ⟨F,C⟩:∃ q,q=s11:=⟨_,rfl⟩
    have aW:Hid (WW w0 b F B):=by rw[C,A];exact QA b9.out
    have aX:Hid (Vl.Eff s (Dq.nmG y.name) (Dq.word y.kind++Dq.nmT y.name [32] []) (13+y.name.length) F):=by rw[C];exact QA (cb.out.to (by rw[Dq.nmG,aD.out.1];simp) (fun _=>by rw[Dq.nmT,if_neg (fun e=>absurd (aD.out.2.2 e) (by simp))];simp) (by first|omega|(simp;done)|(simp;omega)))
    have aR:Hid (OK8 b w B):=by rw[A];exact QA b2.out
    have aU:Hid (w.heap.size≤B.heap.size):=by rw[A];exact QA b4.out
    have aT:F.out.length≤s.out.length+(13+y.name.length):=by rw[C];omega
    have Y:Hid (B.heap[w.heap.size]?=some (.cells #[.pointer (some ⟨b,0,none⟩)] 175 (0,0))):=by rw[A];exact QA aZ.out
    have ae:Hid (B.heap[w.heap.size+1]?=some (.cells #[.int .i64 y.kind,.string ⟨y.name.toArray⟩,.slice v1 y.vars.length m1,.slice v2 y.dirs.length m2,.slice v4 y.sels.length m4,.int .i64 y.at_] 96 (0,0))):=by rw[A];exact QA a1.out
    rw[← A]
    clear A C
   rotate_left
   focus
    have V:=blk_cell ak.out 0 (.pointer (some ⟨b,0,none⟩)) rfl
    obtain ⟨U,S,Q,T,R,W⟩:=blk6 ai.out rfl rfl rfl rfl rfl rfl
    go_wp2_with fail
    clear V U S Q T R W
    obtain ⟨B,A⟩:∃ q,q=w9:=⟨_,rfl⟩
    obtain ⟨F,C⟩:∃ q,q=s9:=⟨_,rfl⟩
    have aW:Hid (WW w0 b F B):=by rw[C,A];exact QA H9.out
    have aX:Hid (Vl.Eff s (Dq.nmG y.name) (Dq.word y.kind++Dq.nmT y.name [32] []) (13+y.name.length) F):=by rw[C];exact QA (E9.out.to (by rw[Dq.nmG,aD.out.1];rfl) (fun _=>by rw[Dq.nmT,if_pos (aD.out.2.1 (by trivial))];simp) (by first|omega|(simp;done)|(simp;omega)))
    have aR:Hid (OK8 b w B):=by rw[A];exact QA O9.out
    have aU:Hid (w.heap.size≤B.heap.size):=by rw[A];exact QA Z9.out
    have aT:F.out.length≤s.out.length+(13+y.name.length):=by rw[C];omega
    have Y:Hid (B.heap[w.heap.size]?=some (.cells #[.pointer (some ⟨b,0,none⟩)] 175 (0,0))):=by rw[A];exact QA ak.out
    have ae:Hid (B.heap[w.heap.size+1]?=some (.cells #[.int .i64 y.kind,.string ⟨y.name.toArray⟩,.slice v1 y.vars.length m1,.slice v2 y.dirs.length m2,.slice v4 y.sels.length m4,.int .i64 y.at_] 96 (0,0))):=by rw[A];exact QA ai.out
    rw[← A]
    clear A C
   all_goals
    have az:=blk_cell Y.out 0 (.pointer (some ⟨b,0,none⟩)) rfl
    obtain ⟨ar,aB,av,am,au,ap⟩:=blk6 ae.out rfl rfl rfl rfl rfl rfl
    go_wp2_with fail
    refine (wputc w0 b F _ aW.out [40] (by show _+1≤_;omega)).mono ?_
    rintro e w20 ⟨rfl,s20,h,e,o,z⟩
    have cq:=e.len
    try simp only[QO,QS,QZ] at cq
    have cS:=QA h
    have cG:=QA (aX.out.comp e)
    have c3:=QA (aR.out.trans o)
    have c1:=QA (QR aU.out z)
    have a4:=QA (ok8_at o Y.out E (by decide))
    have aP:=QA (ok8_at o ae.out D (by decide))
    clear az ar aB av am au ap
    clear h e o z
    have cL:Hid (∀ (i:Nat),i<y.vars.length→∀ sq wq,WW w0 b sq wq→OK8 b w20 wq→sq.out.length+Vl.ats y.vars Dq.varC 0 i≤1000000000000→Calls Tryz.prog 116 (#[.int .i64 i]++#[.pointer (some ⟨w.heap.size,0,none⟩),.pointer (some ⟨w.heap.size+1,0,none⟩)]) wq (WPost w0 b sq wq (Vl.ats y.vars (Dq.varG) true i) (Vl.ats y.vars Dq.varT [] i) (Vl.ats y.vars Dq.varC 0 i))):=QA (fun i hi sq wq h9 o9 hl9=>by
     obtain ⟨x,hx⟩:∃ x,y.vars[i]?=some x:=⟨y.vars[i],List.getElem?_eq_getElem hi⟩
     rw[Vl.ats_some hx] at hl9
     rw[Vl.ats_some hx,Vl.ats_some hx,Vl.ats_some hx]
     have cM:=List.mem_of_getElem? hx
     exact wop1_any w0 b HE.out h3 y v1 v2 v4 m1 m2 m4 dl.out _ _ E D i x hx (by have:=cW.out x cM;omega) (by omega) sq wq h9 (ok8_at o9 a4.out E (by decide)) (ok8_at o9 aP.out D (by decide)) hl9)
    have aV:=Vl.cds_sum y.vars Dq.varC 2 y.vars.length (QM _)
    rw[ZG] at aV
    have c7:=QA aV
    have bf:=blk_cell a4.out 0 (.pointer (some ⟨b,0,none⟩)) rfl
    obtain ⟨bo,bM,bL,a8,bz,bN⟩:=blk6 aP.out rfl rfl rfl rfl rfl rfl
    go_wp2_with fail
    refine (wall_any w0 b y.vars.length [44,32] _ _ (Vl.ats y.vars (Dq.varG) true) (Vl.ats y.vars Dq.varT []) (Vl.ats y.vars Dq.varC 0) (fun w i=>enters_op _ w i) s20 _ cS.out (by show _+Vl.cds _ 2 _≤_;rw[aV];omega) (by omega) (fun i hi s9 w9 h9 o9 _ hl9=>cL.out i hi s9 w9 h9 o9 hl9)).mono ?_
    rintro e w21 ⟨rfl,s21,h,e,o,z⟩
    have bS:=e.len
    try simp only[QO,QS,QZ] at bS
    have db:=QA h
    have cV:=QA (cG.out.comp e)
    have cK:=QA (c3.out.trans o)
    have dm:=QA (QR c1.out z)
    have bR:=QA (ok8_at o a4.out E (by decide))
    have bT:=QA (ok8_at o aP.out D (by decide))
    clear bf bo bM bL a8 bz bN
    clear h e o z
    have cP:s21.out.length≤s20.out.length+Vl.sumC Dq.varC 2 y.vars:=by have:=bS;rw[← aV];exact this
    clear aV
    have bK:=blk_cell bR.out 0 (.pointer (some ⟨b,0,none⟩)) rfl
    obtain ⟨bp,bJ,bA,bn,br,bb⟩:=blk6 bT.out rfl rfl rfl rfl rfl rfl
    go_wp2_with fail
    refine (wputc w0 b s21 _ db.out [41] (by show _+1≤_;omega)).mono ?_
    rintro e w22 ⟨rfl,s22,h,e,o,z⟩
    have cC:=e.len
    try simp only[QO,QS,QZ] at cC
    have c5:=QA h
    have cY:=QA (cV.out.comp e)
    have c6:=QA (cK.out.trans o)
    have c2:=QA (QR dm.out z)
    have cs:=QA (ok8_at o bR.out E (by decide))
    have cA:=QA (ok8_at o bT.out D (by decide))
    clear bK bp bJ bA bn br bb
    clear h e o z
    obtain ⟨ab,A⟩:∃ q,q=w22:=⟨_,rfl⟩
    obtain ⟨aL,C⟩:∃ q,q=s22:=⟨_,rfl⟩
    have ck:Hid (WW w0 b aL ab):=by rw[C,A];exact QA c5.out
    have cm:Hid (Vl.Eff s (Dq.nmG y.name&&y.vars.all Dq.varG) ((Dq.word y.kind++Dq.nmT y.name [32] [])++Dq.varsT y.vars) (15+y.name.length+Vl.sumC Dq.varC 2 y.vars) aL):=by rw[C];exact QA (cY.out.to (by rw[Vl.gds_all y.vars _ _ (QM _),ZG];simp) (fun _=>by unfold Dq.varsT;rw[if_neg (b7.out.1 (by trivial)),Vl.tds_join y.vars _ _ _ (QM _),ZG];simp) (by have:=c7.out;simp only[QO,QS,Nat.zero_add,QY];omega))
    have cl:Hid (OK8 b w ab):=by rw[A];exact QA c6.out
    have cj:Hid (w.heap.size≤ab.heap.size):=by rw[A];exact QA c2.out
    have cv:aL.out.length≤s.out.length+(15+y.name.length+Vl.sumC Dq.varC 2 y.vars):=by rw[C];omega
    have a0:Hid (ab.heap[w.heap.size]?=some (.cells #[.pointer (some ⟨b,0,none⟩)] 175 (0,0))):=by rw[A];exact QA cs.out
    have a3:Hid (ab.heap[w.heap.size+1]?=some (.cells #[.int .i64 y.kind,.string ⟨y.name.toArray⟩,.slice v1 y.vars.length m1,.slice v2 y.dirs.length m2,.slice v4 y.sels.length m4,.int .i64 y.at_] 96 (0,0))):=by rw[A];exact QA cA.out
    rw[← A]
    clear A C
  all_goals
   have bk:=blk_cell a0.out 0 (.pointer (some ⟨b,0,none⟩)) rfl
   obtain ⟨bw,bH,bt,bB,bq,bg⟩:=blk6 a3.out rfl rfl rfl rfl rfl rfl
   go_wp2_with fail
   refine (wdirs_any w0 b HE.out h3 y.dirs 0 (by omega) v2 m2 cH.out (by omega) (by omega) aL _ ck.out (by omega)).mono ?_
   rintro e w30 ⟨rfl,s30,h,e,o,z⟩
   have cy:=e.len
   try simp only[QO,QS,QZ] at cy
   have cR:=QA h
   have cZ:=QA (cm.out.comp e)
   have dh:=QA (cl.out.trans o)
   have dg:=QA (QR cj.out z)
   have bY:=QA (ok8_at o a0.out E (by decide))
   have bX:=QA (ok8_at o a3.out D (by decide))
   clear bk bw bH bt bB bq bg
   clear h e o z
   have bC:=blk_cell bY.out 0 (.pointer (some ⟨b,0,none⟩)) rfl
   obtain ⟨ba,bO,bG,bi,be,a9⟩:=blk6 bX.out rfl rfl rfl rfl rfl rfl
   go_wp2_with fail
   refine (wputc w0 b s30 _ cR.out [32] (by show _+1≤_;omega)).mono ?_
   rintro e w31 ⟨rfl,s31,h,e,o,z⟩
   have cz:=e.len
   try simp only[QO,QS,QZ] at cz
   have c9:=QA h
   have cQ:=QA (cZ.out.comp e)
   have cT:=QA (dh.out.trans o)
   have dk:=QA (QR dg.out z)
   have b0:=QA (ok8_at o bY.out E (by decide))
   have bZ:=QA (ok8_at o bX.out D (by decide))
   clear bC ba bO bG bi be a9
   clear h e o z
   have a7:=blk_cell b0.out 0 (.pointer (some ⟨b,0,none⟩)) rfl
   obtain ⟨bc,bu,bs,bj,bI,bD⟩:=blk6 bZ.out rfl rfl rfl rfl rfl rfl
   go_wp2_with fail
   refine (wsels_all w0 b HE.out h3 16 0 rfl y.sels v4 m4 dj.out (by omega) s31 _ c9.out (by omega)).mono ?_
   rintro e w32 ⟨rfl,s32,h,e,o,z⟩
   have cB:=e.len
   try simp only[QO,QS,QZ] at cB
   have dd:=QA h
   have cX:=QA (cQ.out.comp e)
   have da:=QA (cT.out.trans o)
   have df:=QA (QR dk.out z)
   have bQ:=QA (ok8_at o b0.out E (by decide))
   have bV:=QA (ok8_at o bZ.out D (by decide))
   clear a7 bc bu bs bj bI bD
   clear h e o z
   have bd:=blk_cell bQ.out 0 (.pointer (some ⟨b,0,none⟩)) rfl
   obtain ⟨bP,bE,bv,bh,bx,bF⟩:=blk6 bV.out rfl rfl rfl rfl rfl rfl
   go_wp2_with fail
   refine (wputc w0 b s32 _ dd.out [10] (by show _+1≤_;omega)).mono ?_
   rintro e w33 ⟨rfl,s33,h,e,o,z⟩
   have ct:=e.len
   try simp only[QO,QS,QZ] at ct
   have di:=QA h
   have dq:=QA (cX.out.comp e)
   have dc:=QA (da.out.trans o)
   have cJ:=QA (QR df.out z)
   have dt:=QA (ok8_at o bQ.out E (by decide))
   have du:=QA (ok8_at o bV.out D (by decide))
   clear bd bP bE bv bh bx bF
   clear h e o z
   go_wp2_with fail
   go_end0
   exact ⟨rfl,s33,di.out,dq.out.to (by rw[HG.out];simp[Bool.and_assoc]) (fun _=>by unfold Dq.opT;simp) (by simp;omega),dc.out,cJ.out⟩
end Go.Proofs.YtefjgpkpplkkgaaGreatDoor
