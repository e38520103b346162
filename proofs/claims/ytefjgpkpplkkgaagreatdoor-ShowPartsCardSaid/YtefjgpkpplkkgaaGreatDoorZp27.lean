/-
  The writer of documents: defaults, arguments, directives, walked. The writer of documents: directives, selections, walked.
-/
import Derived.Test.YtefjgpkpplkkgaaGreatDoorZp26
import Derived.Test.YtefjgpkpplkkgaaGreatDoorZp7
open Go.Lib renaming hid → QA
open List renaming drop_succ_cons → QE, take_succ_cons → QF, drop_zero → QL, take_zero → QN, length_cons → QO, length_nil → QS, mem_of_getElem? → ZC, take_length → ZG, getElem?_map → ZI, getElem?_eq_getElem → ZJ
open Nat renaming le_refl → QM, le_trans → QR, reduceAdd → QY, add_zero → QZ, zero_le → ZV
namespace Go.Proofs.YtefjgpkpplkkgaaGreatDoor
set_option linter.unusedSimpArgs false
set_option linter.unusedVariables false
open Go Go.RowKit
theorem box_at1_0 (w:World) (c:Array Value) (T:TypeId):(w.alloc (.cells c T)).heap[w.heap.size]?=some (.cells c T (0,0)):=heap_at_new _ _
theorem box_at3_0 (w:World) (c:Array Value) (T:TypeId) (c1:Array Value) (T1:TypeId) (c2:Array Value) (T2:TypeId):(((w.alloc (.cells c T)).alloc (.cells c1 T1)).alloc (.cells c2 T2)).heap[w.heap.size]?=some (.cells c T (0,0)):=by
 rw[Lib.alloc_old _ _ _ (by simp;omega),Lib.alloc_old _ _ _ (by simp)];exact heap_at_new _ _
theorem box_at3_1 (w:World) (c:Array Value) (T:TypeId) (c1:Array Value) (T1:TypeId) (c2:Array Value) (T2:TypeId):(((w.alloc (.cells c1 T1)).alloc (.cells c T)).alloc (.cells c2 T2)).heap[w.heap.size+1]?=some (.cells c T (0,0)):=by
 rw[Lib.alloc_old _ _ _ (by simp)]
 have:=heap_at_new (w.alloc (.cells c1 T1)) (.cells c T)
 rwa [show (w.alloc (.cells c1 T1)).heap.size=w.heap.size+1 by simp] at this
theorem box_at3_2 (w:World) (c:Array Value) (T:TypeId) (c1:Array Value) (T1:TypeId) (c2:Array Value) (T2:TypeId):(((w.alloc (.cells c1 T1)).alloc (.cells c2 T2)).alloc (.cells c T)).heap[w.heap.size+2]?=some (.cells c T (0,0)):=by
 have:=heap_at_new ((w.alloc (.cells c1 T1)).alloc (.cells c2 T2)) (.cells c T)
 rwa [show ((w.alloc (.cells c1 T1)).alloc (.cells c2 T2)).heap.size=w.heap.size+2 by simp] at this
theorem box_at2_0 (w:World) (c:Array Value) (T:TypeId) (c1:Array Value) (T1:TypeId):((w.alloc (.cells c T)).alloc (.cells c1 T1)).heap[w.heap.size]?=some (.cells c T (0,0)):=by
 rw[Lib.alloc_old _ _ _ (by simp)];exact heap_at_new _ _
theorem box_at2_1 (w:World) (c:Array Value) (T:TypeId) (c1:Array Value) (T1:TypeId):((w.alloc (.cells c1 T1)).alloc (.cells c T)).heap[w.heap.size+1]?=some (.cells c T (0,0)):=by
 have:=heap_at_new (w.alloc (.cells c1 T1)) (.cells c T)
 rwa [show (w.alloc (.cells c1 T1)).heap.size=w.heap.size+1 by simp] at this
theorem zero_reads (w:World) (P:Nat→Prop):Reads w P Dq.zero.d [.int .i64 0,.string ⟨#[]⟩,.slice none 0 0,.slice none 0 0,.int .i64 0]:=by
 unfold Dq.zero
 rw[Vl.Z.d,Vl.Z.dl,Vl.ZA.dl]
 exact .obj (.cons (.int 0) (.cons (.str []) (.cons (.seq .nil) (.cons (.seq .nil) (.cons (.int 0) .nil)))))
set_option maxHeartbeats 2000000 in
set_option maxRecDepth 100000 in
theorem wgiven_any (w0:World) (b:Nat) (hE:Env w0) (h3:3≤w0.heap.size) (s:Vl.Sh) (w:World) (h:WW w0 b s w) (has:Bool) (z:Vl.Z) (hz:z.cost≤1000000000) (a1 a2:Option Addr) (n1 n2:Nat) (hR:Reads w0 (fun _=>True) z.d (zcells z a1 a2 n1 n2).toList) (hl:s.out.length+z.cost+3≤1000000000000) :
  Calls Tryz.prog 118 #[.pointer (some ⟨b,0,none⟩),.bool has,.agg (zcells z a1 a2 n1 n2)] w (WPost w0 b s w (Dq.gvG has z) (Dq.gvT has z) (z.cost+3)):=by
 have aC:=Vl.Z.n_cost z
 obtain ⟨wb,F⟩:∃ q,q=(w.alloc (.cells #[.int .i64 z.kind,.string ⟨z.text.toArray⟩,.slice a1 z.items.length n1,.slice a2 z.fields.length n2,.int .i64 z.at_] 25)):=⟨_,rfl⟩
 have H0:Hid (WW w0 b s wb):=by rw[F];exact QA (h.alloc (.cells #[.int .i64 z.kind,.string ⟨z.text.toArray⟩,.slice a1 z.items.length n1,.slice a2 z.fields.length n2,.int .i64 z.at_] 25))
 have O0:Hid (OK8 b w wb):=by rw[F];exact QA ((Lib.OthersKept.refl 5 (some b) w).alloc _)
 have Z0:Hid (w.heap.size≤wb.heap.size):=by rw[F];exact QA (by simp)
 have E0:=QA (Vl.Eff.refl s)
 have H:Hid (wb.heap[w.heap.size]?=some (.cells #[.int .i64 z.kind,.string ⟨z.text.toArray⟩,.slice a1 z.items.length n1,.slice a2 z.fields.length n2,.int .i64 z.at_] 25 (0,0))):=by rw[F];exact QA (box_at1_0 w _ _)
 have P:w.heap.size≠b:=by have:=h.lt;omega
 have ax:w.heap.size+1=wb.heap.size:=by rw[F];simp
 have ad:=QA F
 clear h F
 have HR:=QA hR
 have HE:=QA hE
 unfold zcells at HR ⊢
 clear hR hE
 cases has
 ·go_enter Tryz.func118,Tryz.ntmps118
  obtain ⟨A,E,C,B,D⟩:=blk5 H.out rfl rfl rfl rfl rfl
  go_wp2_with fail
  rw[← ad.out]
  refine (same_any 1000000000 (by decide) z Dq.zero (by omega) a1 a2 none none n1 n2 0 0 wb (fun _=>True) (HR.out.to (Stands.below H0.out.bel)) (zero_reads _ _)).mono ?_
  rintro e w1 ⟨rfl,hb⟩
  have H1:=QA (H0.out.below hb)
  have E1:=E0
  have O1:=QA (O0.out.trans (ok8_below hb))
  have Z1:=QA (QR Z0.out hb.size)
  clear A E C B D hb
  go_wp2_with fail
  refine (H1.out.need (z.same Dq.zero)).mono ?_
  rintro e w2 ⟨rfl,s2,h,e,o,z⟩
  have Y:=e.len
  try simp only[QO,QS,QZ] at Y
  have H2:=QA h
  have E2:=QA (E1.out.comp e)
  have O2:=QA (O1.out.trans o)
  have Z2:=QA (QR Z1.out z)
  clear h e o z
  go_wp2_with fail
  go_end0
  exact ⟨rfl,s2,H2.out,E2.out.to (by unfold Dq.gvG;rw[Bool.true_and];rfl) (fun _=>by unfold Dq.gvT;rfl) (by omega),O2.out,Z2.out⟩
 ·go_enter Tryz.func118,Tryz.ntmps118
  obtain ⟨A,E,C,B,D⟩:=blk5 H.out rfl rfl rfl rfl rfl
  go_wp2_with fail
  rw[← ad.out]
  refine (wputc w0 b s _ H0.out [32,61,32] (by show _+3≤_;omega)).mono ?_
  rintro e w1 ⟨rfl,s1,h,e,o,z⟩
  have ag:=e.len
  try simp only[QO,QS,QZ] at ag
  have H1:=QA h
  have E1:=QA (E0.out.comp e)
  have O1:=QA (O0.out.trans o)
  have Z1:=QA (QR Z0.out z)
  have ab:=QA (ok8_at o H.out P (by decide))
  clear A E C B D
  clear h e o z
  obtain ⟨W,X,Q,N,T⟩:=blk5 ab.out rfl rfl rfl rfl rfl
  go_wp2_with fail
  refine (wvalue_any w0 b s1 _ H1.out HE.out h3 z hz a1 a2 n1 n2 HR.out (by omega)).mono ?_
  rintro e w2 ⟨rfl,s2,h,e,o,z⟩
  have Y:=e.len
  try simp only[QO,QS,QZ] at Y
  have H2:=QA h
  have E2:=QA (E1.out.comp e)
  have O2:=QA (O1.out.trans o)
  have Z2:=QA (QR Z1.out z)
  have O:=QA (ok8_at o ab.out P (by decide))
  clear W X Q N T
  clear h e o z
  obtain ⟨M,G,V,K,L⟩:=blk5 O.out rfl rfl rfl rfl rfl
  go_wp2_with fail
  refine (fixed_all 1000000000 (by decide) z (by omega) a1 a2 n1 n2 _ (fun _=>True) (HR.out.to (Stands.below H2.out.bel))).mono ?_
  rintro e w3 ⟨rfl,hb⟩
  have H3:=QA (H2.out.below hb)
  have E3:=E2
  have O3:=QA (O2.out.trans (ok8_below hb))
  have Z3:=QA (QR Z2.out hb.size)
  have ac:=QA ((hb.block w.heap.size (block_lt O.out)).trans O.out)
  clear M G V K L
  clear hb
  obtain ⟨J,S,U,R,I⟩:=blk5 ac.out rfl rfl rfl rfl rfl
  go_wp2_with fail
  refine (H3.out.need (z.nov)).mono ?_
  rintro e w4 ⟨rfl,s4,h,e,o,z⟩
  have am:=e.len
  try simp only[QO,QS,QZ] at am
  have H4:=QA h
  have E4:=QA (E3.out.comp e)
  have O4:=QA (O3.out.trans o)
  have Z4:=QA (QR Z3.out z)
  have az:=QA (ok8_at o ac.out P (by decide))
  clear J S U R I
  clear h e o z
  go_wp2_with fail
  go_end0
  exact ⟨rfl,s4,H4.out,E4.out.to (by unfold Dq.gvG;simp) (fun _=>by unfold Dq.gvT;simp) (by simp;omega),O4.out,Z4.out⟩
theorem enters_args (cap:Array Value) (w:World) (i:Int):Sem.run Tryz.prog (callFunc 181 (#[.int .i64 i]++cap)) w=.ok (.enter 181 (#[.int .i64 i]++cap)) w:=by kernel_rfl
set_option maxHeartbeats 2000000 in
set_option maxRecDepth 100000 in
theorem wargs1_any (w0:World) (b:Nat) (hE:Env w0) (h3:3≤w0.heap.size) (l:List Vl.ZA) (at_:Nat) (hat:at_≤1000) (a:Option Addr) (c:Nat) (hR:Reads w0 (fun _=>True) (.seq 7 (l.map Vl.ZA.d)) [.slice a l.length c]) (t3 t4 t5:Nat) (n3:t3≠b) (n4:t4≠b) (n5:t5≠b)
  (i:Nat) (x:Vl.ZA) (hx:l[i]?=some x) (hc:x.cost≤1000000000) (hll:l.length≤1000000000) (s:Vl.Sh) (w:World) (h:WW w0 b s w) (h3':w.heap[t3]?=some (.cells #[.pointer (some ⟨b,0,none⟩)] 175 (0,0))) (h4':w.heap[t4]?=some (.cells #[.slice a l.length c] 23 (0,0))) (h5':w.heap[t5]?=some (.cells #[.int .i64 at_] 3 (0,0)))
  (hl:s.out.length+x.cost≤1000000000000) :
  Calls Tryz.prog 181 (#[.int .i64 i]++#[.pointer (some ⟨t3,0,none⟩),.pointer (some ⟨t4,0,none⟩),.pointer (some ⟨t5,0,none⟩)]) w (WPost w0 b s w (Dq.argG at_ x) x.str x.cost):=by
 have aJ:i<l.length:=by
  rcases Nat.lt_or_ge i l.length with h'|h'
  ·exact h'
  ·rw[List.getElem?_eq_none h'] at hx;cases hx
 have bd:=Vl.ZA.cost_eq x
 have ba:=Vl.Z.n_cost x.v
 have a7:=Vl.dep_le x.v
 obtain ⟨g,B,cs,ha,-,D,aB,A,hd⟩:=hR.el i x.d (by rw[ZI,hx];rfl)
 obtain ⟨a1,a2,n1,n2,rfl,an⟩:=ZA_open hd
 subst ha
 have bb:Hid (∀ w',WW w0 b s w'→True):=QA (fun _ _=>trivial)
 have C:Hid (∀ (w':World),Below w0.heap.size w0 w'→(w'.cell? ⟨g,B+i*7,none⟩=some (.string ⟨x.name.toArray⟩)∧w'.cell? ⟨g,B+i*7+1,none⟩=some (.int .i64 x.v.kind)∧w'.cell? ⟨g,B+i*7+2,none⟩=some (.string ⟨x.v.text.toArray⟩)∧w'.cell? ⟨g,B+i*7+3,none⟩=some (.slice a1 x.v.items.length n1)∧w'.cell? ⟨g,B+i*7+4,none⟩=some (.slice a2 x.v.fields.length n2)∧w'.cell? ⟨g,B+i*7+5,none⟩=some (.int .i64 x.v.at_))):=QA (fun w' hb =>
  ⟨(hb.cell (p:=⟨g,B+i*7,none⟩) D).trans (A 0 _ rfl),(hb.cell (p:=⟨g,B+i*7+1,none⟩) D).trans (A 1 _ rfl),(hb.cell (p:=⟨g,B+i*7+2,none⟩) D).trans (A 2 _ rfl),(hb.cell (p:=⟨g,B+i*7+3,none⟩) D).trans (A 3 _ rfl),(hb.cell (p:=⟨g,B+i*7+4,none⟩) D).trans (A 4 _ rfl),(hb.cell (p:=⟨g,B+i*7+5,none⟩) D).trans (A 5 _ rfl)⟩)
 have HR:=QA (show Reads w0 (fun _=>True) x.v.d (zcells x.v a1 a2 n1 n2).toList from an)
 have e9:decide (i<l.length)=true:=decide_eq_true aJ
 have H0:=QA h
 have E0:=QA (Vl.Eff.refl s)
 have O0:=QA (Lib.OthersKept.refl 5 (some b) w)
 have Z0:=QA (QM w.heap.size)
 have ap:=QA h3'
 have am:=QA h4'
 have ao:=QA h5'
 have HE:=QA hE
 clear h h3' h4' h5' hd an A aB hR hE hx D
 show Calls Tryz.prog 181 #[.int .i64 i,.pointer (some ⟨t3,0,none⟩),.pointer (some ⟨t4,0,none⟩),.pointer (some ⟨t5,0,none⟩)] w _
 go_enter Tryz.func181,Tryz.ntmps181
 obtain ⟨k0,k1,k2,k3,k4,k5⟩:=C.out w H0.out.bel
 have V:=blk_cell ap.out 0 (.pointer (some ⟨b,0,none⟩)) rfl
 have aa:=blk_cell am.out 0 (.slice (some ⟨g,B,none⟩) l.length c) rfl
 have ab:=blk_cell ao.out 0 (.int .i64 at_) rfl
 go_wp2_with fail
 refine wp_region_cuts [6] (by kernel_rfl) (by kernel_rfl) ?_;simp only[wpMix,QF,QN,QE,QL,Nat.sub_zero,Nat.reduceSub,QY]
 repeat (go_big_quiet_step (fail))
 refine wpQuiet_nil ?_;rintro _ ⟨nq,rfl⟩
 go_wp2_with fail
 refine (wname_any w0 b s _ (H0.out.drewN nq) x.name (by omega)).mono ?_
 rintro e w1 ⟨rfl,s1,h,e,o,z⟩
 have o:OK8 b w w1:=o
 have z:(w).heap.size≤w1.heap.size:=z
 have aR:=e.len
 try simp only[QO,QS,QZ] at aR
 have H1:=QA h
 have E1:=QA (E0.out.comp e)
 have O1:=QA (O0.out.trans o)
 have Z1:=QA (QR Z0.out z)
 have O:=QA (ok8_at o ap.out n3 (by decide))
 have M:=QA (ok8_at o am.out n4 (by decide))
 have G:=QA (ok8_at o ao.out n5 (by decide))
 clear V aa ab
 clear h e o z
 go_wp2_with fail
 refine wpQuiet_nil ?_
 rintro _ ⟨nr,rfl⟩
 obtain ⟨bi,hw⟩:∃ q,q=w1.drewN nr:=⟨_,rfl⟩
 have af:=H1.out.drewN nr
 have X:OK8 b w (w1.drewN nr):=O1.out
 have ad:w.heap.size≤(w1.drewN nr).heap.size:=Z1.out
 have N:(w1.drewN nr).heap[t3]?=_:=O.out
 have P:(w1.drewN nr).heap[t4]?=_:=M.out
 have K:(w1.drewN nr).heap[t5]?=_:=G.out
 rw[← hw] at af X ad N P K ⊢
 clear H1 O1 Z1 O M G
 have H1:=QA af
 have O1:=QA X
 have Z1:=QA ad
 have O:=QA N
 have M:=QA P
 have G:=QA K
 clear hw af X ad N P K
 clear k0 k1 k2 k3 k4 k5
 have ah:=blk_cell O.out 0 (.pointer (some ⟨b,0,none⟩)) rfl
 have ae:=blk_cell M.out 0 (.slice (some ⟨g,B,none⟩) l.length c) rfl
 have U:=blk_cell G.out 0 (.int .i64 at_) rfl
 go_wp2_with fail
 refine (wputc w0 b s1 _ H1.out [58,32] (by show _+2≤_;omega)).mono ?_
 rintro e w2 ⟨rfl,s2,h,e,o,z⟩
 have aV:=e.len
 try simp only[QO,QS,QZ] at aV
 have H2:=QA h
 have E2:=QA (E1.out.comp e)
 have O2:=QA (O1.out.trans o)
 have Z2:=QA (QR Z1.out z)
 have az:=QA (ok8_at o O.out n3 (by decide))
 have ar:=QA (ok8_at o M.out n4 (by decide))
 have ay:=QA (ok8_at o G.out n5 (by decide))
 clear ah ae U
 clear h e o z
 obtain ⟨k0,k1,k2,k3,k4,k5⟩:=C.out w2 H2.out.bel
 have aw:=HR
 unfold zcells at aw
 have Y:=blk_cell az.out 0 (.pointer (some ⟨b,0,none⟩)) rfl
 have W:=blk_cell ar.out 0 (.slice (some ⟨g,B,none⟩) l.length c) rfl
 have ag:=blk_cell ay.out 0 (.int .i64 at_) rfl
 go_wp2_with fail
 refine wp_region_cuts [6] (by kernel_rfl) (by kernel_rfl) ?_;simp only[wpMix,QF,QN,QE,QL,Nat.sub_zero,Nat.reduceSub,QY]
 repeat (go_big_quiet_step (fail))
 refine wpQuiet_nil ?_;rintro _ ⟨nq,rfl⟩
 go_wp2_with fail
 refine (wvalue_any w0 b s2 _ (H2.out.drewN nq) HE.out h3 x.v (by omega) a1 a2 n1 n2 HR.out (by omega)).mono ?_
 rintro e w3 ⟨rfl,s3,h,e,o,z⟩
 have o:OK8 b w2 w3:=o
 have z:(w2).heap.size≤w3.heap.size:=z
 have aQ:=e.len
 try simp only[QO,QS,QZ] at aQ
 have R:=QA h
 have E3:=QA (E2.out.comp e)
 have O3:=QA (O2.out.trans o)
 have Z3:=QA (QR Z2.out z)
 have I:=QA (ok8_at o az.out n3 (by decide))
 have L:=QA (ok8_at o ar.out n4 (by decide))
 have H:=QA (ok8_at o ay.out n5 (by decide))
 clear Y W ag
 clear h e o z
 go_wp2_with fail
 refine wpQuiet_nil ?_
 rintro _ ⟨nr,rfl⟩
 obtain ⟨S,hw⟩:∃ q,q=w3.drewN nr:=⟨_,rfl⟩
 have ac:=R.out.drewN nr
 have ai:OK8 b w (w3.drewN nr):=O3.out
 have T:w.heap.size≤(w3.drewN nr).heap.size:=Z3.out
 have F:(w3.drewN nr).heap[t3]?=_:=I.out
 have E:(w3.drewN nr).heap[t4]?=_:=L.out
 have J:(w3.drewN nr).heap[t5]?=_:=H.out
 rw[← hw] at ac ai T F E J ⊢
 clear R O3 Z3 I L H
 have R:=QA ac
 have O3:=QA ai
 have Z3:=QA T
 have I:=QA F
 have L:=QA E
 have H:=QA J
 clear hw ac ai T F E J
 clear k0 k1 k2 k3 k4 k5
 have Q:=R.out.badCell
 cases hbd:s3.bad
 ·rw[hbd] at Q
  obtain ⟨k0,k1,k2,k3,k4,k5⟩:=C.out S R.out.bel
  have aT:Hid (∀ q:Later S,_):=QA (fun q=>deep_all 1000000000 (by decide) x.v (by omega) a1 a2 n1 n2 q.1 (fun _=>True) (aw.out.to (Stands.below (R.out.bel.trans (q.2.mono R.out.bel.size)))))
  have a9:=Later.cell k1
  have bj:=Later.cell k2
  have a4:=Later.cell k3
  have bh:=Later.cell k4
  have bg:=Later.cell k5
  have a6:=Later.cell Q
  have Lp:=Later.cell (blk_cell I.out 0 (.pointer (some ⟨b,0,none⟩)) rfl)
  have Ll:=Later.cell (blk_cell L.out 0 (.slice (some ⟨g,B,none⟩) l.length c) rfl)
  have La:=Later.cell (blk_cell H.out 0 (.int .i64 at_) rfl)
  clear k0 k1 k2 k3 k4 k5
  have ax:=QA hbd
  clear hbd Q
  go_wp2_with fail
  refine wp_region_cutsL [16] (by kernel_rfl) (by kernel_rfl) ?_;simp only[wpMixL,QF,QN,QE,QL,Nat.sub_zero,Nat.reduceSub,QY]
  repeat (go_big_quiet_step (with_reducible exact Later.call (aT.out _)))
  refine wpQuiet_nil ?_
  rintro _ ⟨q,rfl⟩
  go_wp2_with fail
  rw[show decide ((at_:Int)+(x.v.dep:Int)≤16)=decide (at_+x.v.dep≤16) from by rw[decide_eq_decide];omega]
  refine ((R.out.below q.2).need (decide (at_+x.v.dep≤16))).mono ?_
  rintro e w4 ⟨rfl,s4,h,e,o,z⟩
  have H4:=QA h
  have aU:=e.len
  have E4:=QA (E3.out.comp e)
  have O4:=QA ((O3.out.trans (ok8_below q.2)).trans o)
  have Z4:=QA (QR Z3.out (QR q.2.size z))
  clear h e o z
  go_wp2_with fail
  refine wpQuiet_nil ?_
  rintro _ ⟨nr,rfl⟩
  go_wp2_with fail
  go_end0
  exact ⟨rfl,s4,H4.out.below nr.2,E4.out.to (by unfold Dq.argG;simp) (fun _=>by cases x;rw[Vl.ZA.str];simp[Vl.ZA.name,Vl.ZA.v]) (by simp;omega),O4.out.trans (ok8_below nr.2),QR Z4.out nr.2.size⟩
 ·rw[hbd] at Q
  have ax:=QA hbd
  clear hbd
  have aS:=blk_cell I.out 0 (.pointer (some ⟨b,0,none⟩)) rfl
  have aL:=blk_cell L.out 0 (.slice (some ⟨g,B,none⟩) l.length c) rfl
  have aO:=blk_cell H.out 0 (.int .i64 at_) rfl
  go_wp2_with fail
  refine wp_region_cuts [16] (by kernel_rfl) (by kernel_rfl) ?_;simp only[wpMix,QF,QN,QE,QL,Nat.sub_zero,Nat.reduceSub,QY]
  repeat (go_big_quiet_step (fail))
  refine wpQuiet_nil ?_;rintro _ ⟨nq,rfl⟩
  go_wp2_with fail
  refine ((R.out.drewN nq).need true).mono ?_
  rintro e w4 ⟨rfl,s4,h,e,o,z⟩
  have o:OK8 b S w4:=o
  have z:(S).heap.size≤w4.heap.size:=z
  have H4:=QA h
  have aU:=e.len
  have E4:Hid (Vl.Eff s (Dq.argG at_ x) x.str (x.cost) s4):=QA ((E3.out.comp ((Vl.Eff.skip ax.out (decide (at_+x.v.dep≤16)) []).comp e)).to (by unfold Dq.argG;simp) (fun _=>by cases x;rw[Vl.ZA.str];simp[Vl.ZA.name,Vl.ZA.v]) (by simp;omega))
  have O4:=QA (O3.out.trans o)
  have Z4:=QA (QR Z3.out z)
  clear h e o z
  go_wp2_with fail
  refine wpQuiet_nil ?_
  rintro _ ⟨nr,rfl⟩
  go_wp2_with fail
  go_end0
  exact ⟨rfl,s4,H4.out.drewN nr,E4.out.to rfl (fun _=>rfl) (by omega),O4.out,Z4.out⟩
theorem argsC_len (l:List Vl.ZA):l.length≤Dq.argsC l∧∀ x∈l,x.cost≤Dq.argsC l:=by
 unfold Dq.argsC
 refine ⟨?_,fun x hx=>by have:=Vl.sumC_mem Vl.ZA.cost 2 hx;omega⟩
 induction l with
 | nil=>exact ZV _
 | cons x r ih=>rw[Vl.sumC,QO];omega
set_option maxHeartbeats 2000000 in
set_option maxRecDepth 100000 in
theorem wargs_any (w0:World) (b:Nat) (hE:Env w0) (h3:3≤w0.heap.size) (l:List Vl.ZA) (at_:Nat) (hat:at_≤1000) (a:Option Addr) (c:Nat) (hR:Reads w0 (fun _=>True) (.seq 7 (l.map Vl.ZA.d)) [.slice a l.length c]) (hc:Dq.argsC l≤1000000000)
  (s:Vl.Sh) (w:World) (h:WW w0 b s w) (hl:s.out.length+Dq.argsC l≤1000000000000) :
  Calls Tryz.prog 119 #[.pointer (some ⟨b,0,none⟩),.slice a l.length c,.int .i64 at_] w (WPost w0 b s w (Dq.argsG at_ l) (Dq.argsT l) (Dq.argsC l)):=by
 obtain ⟨ao,Y⟩:=argsC_len l
 have ah:=QA Y
 have ax:Dq.argsC l=2+Vl.sumC Vl.ZA.cost 2 l:=rfl
 obtain ⟨O,A⟩:∃ q,q=(((w.alloc (.cells #[.pointer (some ⟨b,0,none⟩)] 175)).alloc (.cells #[.slice a l.length c] 23)).alloc (.cells #[.int .i64 at_] 3)):=⟨_,rfl⟩
 have H0:Hid (WW w0 b s O):=by rw[A];exact QA (((h.alloc (.cells #[.pointer (some ⟨b,0,none⟩)] 175)).alloc (.cells #[.slice a l.length c] 23)).alloc (.cells #[.int .i64 at_] 3))
 have O0:Hid (OK8 b w O):=by rw[A];exact QA ((((Lib.OthersKept.refl 5 (some b) w).alloc _).alloc _).alloc _)
 have Z0:Hid (w.heap.size≤O.heap.size):=by rw[A];exact QA (by simp;omega)
 have E0:=QA (Vl.Eff.refl s)
 have K:Hid (O.heap[w.heap.size]?=some (.cells #[.pointer (some ⟨b,0,none⟩)] 175 (0,0))):=by rw[A];exact QA (box_at3_0 w _ _ _ _ _ _)
 have B:w.heap.size≠b:=by have:=h.lt;omega
 have J:Hid (O.heap[w.heap.size+1]?=some (.cells #[.slice a l.length c] 23 (0,0))):=by rw[A];exact QA (box_at3_1 w _ _ _ _ _ _)
 have H:w.heap.size+1≠b:=by have:=h.lt;omega
 have U:Hid (O.heap[w.heap.size+2]?=some (.cells #[.int .i64 at_] 3 (0,0))):=by rw[A];exact QA (box_at3_2 w _ _ _ _ _ _)
 have F:w.heap.size+2≠b:=by have:=h.lt;omega
 have ar:w.heap.size+3=O.heap.size:=by rw[A];simp
 have ab:=QA A
 clear h A
 have HR:=QA hR
 have HE:=QA hE
 clear hR hE Y
 by_cases h0:l.length=0
 ·have e0:((l.length:Int)==0)=true:=eqT (by omega)
  have I:=QA (List.length_eq_zero_iff.1 h0)
  clear h0
  go_enter Tryz.func119,Tryz.ntmps119
  have G:=blk_cell K.out 0 (.pointer (some ⟨b,0,none⟩)) rfl
  have C:=blk_cell J.out 0 (.slice a l.length c) rfl
  have D:=blk_cell U.out 0 (.int .i64 at_) rfl
  go_wp2_with fail
  rw[← ab.out]
  go_end0
  exact ⟨rfl,s,H0.out,E0.out.to (by rw[I.out];rfl) (fun _=>by rw[I.out];rfl) (ZV _),O0.out,Z0.out⟩
 have e0:((l.length:Int)==0)=false:=eqF (by omega)
 have I:=QA h0
 clear h0
 go_enter Tryz.func119,Tryz.ntmps119
 have G:=blk_cell K.out 0 (.pointer (some ⟨b,0,none⟩)) rfl
 have C:=blk_cell J.out 0 (.slice a l.length c) rfl
 have D:=blk_cell U.out 0 (.int .i64 at_) rfl
 go_wp2_with fail
 rw[← ab.out]
 refine (wputc w0 b s _ H0.out [40] (by show _+1≤_;omega)).mono ?_
 rintro e w1 ⟨rfl,s1,h,e,o,z⟩
 have ad:=e.len
 try simp only[QO,QS,QZ] at ad
 have H1:=QA h
 have E1:=QA (E0.out.comp e)
 have O1:=QA (O0.out.trans o)
 have Z1:=QA (QR Z0.out z)
 have V:=QA (ok8_at o K.out B (by decide))
 have T:=QA (ok8_at o J.out H (by decide))
 have Q:=QA (ok8_at o U.out F (by decide))
 clear G C D
 clear h e o z
 have af:Hid (∀ (i:Nat),i<l.length→∀ s9 w9,WW w0 b s9 w9→OK8 b w1 w9→s9.out.length+Vl.ats l Vl.ZA.cost 0 i≤1000000000000→Calls Tryz.prog 181 (#[.int .i64 i]++#[.pointer (some ⟨w.heap.size,0,none⟩),.pointer (some ⟨w.heap.size+1,0,none⟩),.pointer (some ⟨w.heap.size+2,0,none⟩)]) w9 (WPost w0 b s9 w9 (Vl.ats l (Dq.argG at_) true i) (Vl.ats l Vl.ZA.str [] i) (Vl.ats l Vl.ZA.cost 0 i))):=QA (fun i hi s9 w9 h9 o9 hl9=>by
  obtain ⟨x,W⟩:∃ x,l[i]?=some x:=⟨l[i],ZJ hi⟩
  rw[Vl.ats_some W] at hl9
  rw[Vl.ats_some W,Vl.ats_some W,Vl.ats_some W]
  have ai:=ZC W
  exact wargs1_any w0 b HE.out h3 l at_ hat a c HR.out _ _ _ B H F i x W (by have:=ah.out x ai;omega) (by omega) s9 w9 h9 (ok8_at o9 V.out B (by decide)) (ok8_at o9 T.out H (by decide)) (ok8_at o9 Q.out F (by decide)) hl9)
 have E:=Vl.cds_sum l Vl.ZA.cost 2 l.length (QM _)
 rw[ZG] at E
 have ag:=QA E
 have S:=blk_cell V.out 0 (.pointer (some ⟨b,0,none⟩)) rfl
 have R:=blk_cell T.out 0 (.slice a l.length c) rfl
 have P:=blk_cell Q.out 0 (.int .i64 at_) rfl
 go_wp2_with fail
 refine (wall_any w0 b l.length [44,32] _ _ (Vl.ats l (Dq.argG at_) true) (Vl.ats l Vl.ZA.str []) (Vl.ats l Vl.ZA.cost 0) (fun w i=>enters_args _ w i) s1 _ H1.out (by show _+Vl.cds _ 2 _≤_;rw[E];omega) (by omega) (fun i hi s9 w9 h9 o9 _ hl9=>af.out i hi s9 w9 h9 o9 hl9)).mono ?_
 rintro e w2 ⟨rfl,s2,h,e,o,z⟩
 have ac:=e.len
 try simp only[QO,QS,QZ] at ac
 have H2:=QA h
 have E2:=QA (E1.out.comp e)
 have O2:=QA (O1.out.trans o)
 have Z2:=QA (QR Z1.out z)
 have aa:=QA (ok8_at o V.out B (by decide))
 have Z:=QA (ok8_at o T.out H (by decide))
 have X:=QA (ok8_at o Q.out F (by decide))
 clear S R P
 clear h e o z
 have aj:s2.out.length≤s1.out.length+Vl.sumC Vl.ZA.cost 2 l:=by have:=ac;rw[← E];exact this
 clear E
 have N:=blk_cell aa.out 0 (.pointer (some ⟨b,0,none⟩)) rfl
 have L:=blk_cell Z.out 0 (.slice a l.length c) rfl
 have M:=blk_cell X.out 0 (.int .i64 at_) rfl
 go_wp2_with fail
 refine (wputc w0 b s2 _ H2.out [41] (by show _+1≤_;omega)).mono ?_
 rintro e w3 ⟨rfl,s3,h,e,o,z⟩
 have ae:=e.len
 try simp only[QO,QS,QZ] at ae
 have H3:=QA h
 have E3:=QA (E2.out.comp e)
 have O3:=QA (O2.out.trans o)
 have Z3:=QA (QR Z2.out z)
 have aG:=QA (ok8_at o aa.out B (by decide))
 have aE:=QA (ok8_at o Z.out H (by decide))
 have aC:=QA (ok8_at o X.out F (by decide))
 clear N L M
 clear h e o z
 go_wp2_with fail
 go_end0
 exact ⟨rfl,s3,H3.out,E3.out.to (by unfold Dq.argsG;rw[Vl.gds_all l _ _ (QM _),ZG];simp) (fun _=>by unfold Dq.argsT;rw[if_neg I.out,Vl.tds_join l _ _ _ (QM _),ZG];simp) (by have:=ag.out;simp only[QO,QS,Nat.zero_add,QY];omega),O3.out,Z3.out⟩
theorem joinT_flat {α:Type} (f:α→List UInt8):∀ (b:Bool) (l:List α),Vl.joinT f [] b l=l.flatMap f
 | _,[]=>by rw[Vl.joinT];rfl
 | b,x::r=>by rw[Vl.joinT,joinT_flat f false r,List.flatMap_cons];cases b<;>rfl
set_option maxHeartbeats 2000000 in
set_option maxRecDepth 100000 in
theorem wdirs_any (w0:World) (b:Nat) (hE:Env w0) (h3:3≤w0.heap.size) (l:List Dq.Dir) (at_:Nat) (hat:at_≤1000) (a:Option Addr) (c:Nat) (hR:Reads w0 (fun _=>True) (.seq 3 (l.map Dq.Dir.d)) [.slice a l.length c]) (hc:Dq.dirsC l≤1000000000) (hll:l.length≤1000000000)
  (s:Vl.Sh) (w:World) (h:WW w0 b s w) (hl:s.out.length+Dq.dirsC l≤1000000000000) :
  Calls Tryz.prog 54 #[.pointer (some ⟨b,0,none⟩),.slice a l.length c,.int .i64 at_] w (WPost w0 b s w (Dq.dirsG at_ l) (Dq.dirsT l) (Dq.dirsC l)):=by
 have HH:=QA h
 have HR:=QA hR
 have HE:=QA hE
 have W:=QA (Vl.cds_sum l Dq.dirC 0)
 have aT:Dq.dirsC l=Vl.sumC Dq.dirC 0 l:=rfl
 have ag:=QA (fun (j:Nat) (hj:j<l.length)=>Vl.cds_le (Vl.ats l Dq.dirC 0) 0 hj)
 clear h hR hE
 go_enter Tryz.func54,Tryz.ntmps54
 go_wp2_with fail
 go_loopg [10] (l.length+1) (fun k i wr=>∃ (j:Nat) (P:Vl.Sh),k=l.length+1-j∧j≤l.length∧i=.int .i64 j∧WW w0 b P wr∧Vl.Eff s (Vl.gds (Vl.ats l (Dq.dirG at_) true) j) (Vl.tds (Vl.ats l Dq.dirT []) [] j) (Vl.cds (Vl.ats l Dq.dirC 0) 0 j) P∧OK8 b w wr∧w.heap.size≤wr.heap.size)
 case atStart=>exact ⟨0,s,rfl,ZV _,rfl,HH.out,Vl.Eff.refl s,Lib.OthersKept.refl _ _ _,QM _⟩
 case round =>
  obtain ⟨j,P,R,hj,rfl,D,S,o1,z1⟩:=hrel
  have HK:=QA R
  have aJ:=S.len
  clear R
  by_cases hjn:j<l.length
  rotate_left
  ·have e5:decide (j<l.length)=false:=decide_eq_false hjn
   obtain rfl:j=l.length:=by omega
   have H1:=QA D
   have E1:=QA S
   have O1:=QA o1
   have Z1:=QA z1
   clear D S o1 z1
   go_wp2_with fail
   go_end0
   exact ⟨rfl,P,H1.out,E1.out.to (by rw[Vl.gds_all l _ _ (QM _),ZG];rfl) (fun _=>by rw[Vl.tds_join l _ _ _ (QM _),ZG,joinT_flat];rfl) (by rw[W.out _ (QM _),ZG];exact QM _),O1.out,Z1.out⟩
  have e5:decide (j<l.length)=true:=decide_eq_true hjn
  obtain ⟨x,Z⟩:∃ x,l[j]?=some x:=⟨l[j],ZJ hjn⟩
  have ao:=ag.out j hjn
  have aD:Vl.cds (Vl.ats l Dq.dirC 0) 0 l.length=Dq.dirsC l:=by rw[W.out _ (QM _),ZG];rfl
  have ax:=Vl.cds_mono (Vl.ats l Dq.dirC 0) 0 (show j+1≤l.length from hjn)
  rw[Vl.ats_some Z] at ao
  have aM:Dq.dirC x=2+x.name.length+Dq.argsC x.args:=rfl
  obtain ⟨g,O,cs,ha,-,C,X,A,hd⟩:=HR.out.el j x.d (by rw[ZI,Z];rfl)
  obtain ⟨a1,n1,rfl,T⟩:=Dq.Dir.opened hd
  subst ha
  have an:=QA T
  have k0:wr.cell? ⟨g,O+j*3,none⟩=_:=(D.bel.cell (p:=⟨g,O+j*3,none⟩) C).trans (A 0 _ rfl)
  have k1:wr.cell? ⟨g,O+j*3+1,none⟩=_:=(D.bel.cell (p:=⟨g,O+j*3+1,none⟩) C).trans (A 1 _ rfl)
  have k2:wr.cell? ⟨g,O+j*3+2,none⟩=_:=(D.bel.cell (p:=⟨g,O+j*3+2,none⟩) C).trans (A 2 _ rfl)
  obtain ⟨Q,B⟩:∃ q,q=(wr.alloc (.cells #[.string ⟨x.name.toArray⟩,.slice a1 x.args.length n1,.int .i64 x.at_] 171)):=⟨_,rfl⟩
  have H0:Hid (WW w0 b P Q):=by rw[B];exact QA (D.alloc _)
  have O0:Hid (OK8 b w Q):=by rw[B];exact QA (o1.alloc _)
  have Z0:Hid (w.heap.size≤Q.heap.size):=by rw[B];exact QA (by simp;omega)
  have E0:=QA S
  have U:Hid (Q.heap[wr.heap.size]?=some (.cells #[.string ⟨x.name.toArray⟩,.slice a1 x.args.length n1,.int .i64 x.at_] 171 (0,0))):=by rw[B];exact QA (box_at1_0 wr _ _)
  have G:wr.heap.size≠b:=by have:=D.lt;omega
  have aw:wr.heap.size+1=Q.heap.size:=by rw[B];simp
  have ab:=QA B
  have HX:=QA Z
  clear D S o1 z1 B Z hd T A X C
  obtain ⟨F,N,I⟩:=blk3 U.out rfl rfl rfl
  go_wp2_with fail
  rw[← ab.out]
  refine (wputc w0 b P _ H0.out [32,64] (by show _+2≤_;omega)).mono ?_
  rintro e w1 ⟨rfl,sp,h,e,o,z⟩
  have ad:=e.len
  try simp only[QO,QS,QZ] at ad
  have H1:=QA h
  have E1:=QA (E0.out.comp e)
  have O1:=QA (O0.out.trans o)
  have Z1:=QA (QR Z0.out z)
  have V:=QA (ok8_at o U.out G (by decide))
  clear F N I
  clear h e o z
  clear k0 k1 k2
  obtain ⟨L,J,K⟩:=blk3 V.out rfl rfl rfl
  go_wp2_with fail
  refine (wname_any w0 b sp _ H1.out x.name (by omega)).mono ?_
  rintro e w2 ⟨rfl,s2,h,e,o,z⟩
  have ap:=e.len
  try simp only[QO,QS,QZ] at ap
  have H2:=QA h
  have E2:=QA (E1.out.comp e)
  have O2:=QA (O1.out.trans o)
  have Z2:=QA (QR Z1.out z)
  have Y:=QA (ok8_at o V.out G (by decide))
  clear L J K
  clear h e o z
  obtain ⟨M,H,E⟩:=blk3 Y.out rfl rfl rfl
  go_wp2_with fail
  refine (wargs_any w0 b HE.out h3 x.args at_ hat a1 n1 an.out (by omega) s2 _ H2.out (by omega)).mono ?_
  rintro e w3 ⟨rfl,s3,h,e,o,z⟩
  have ah:=e.len
  try simp only[QO,QS,QZ] at ah
  have H3:=QA h
  have E3:=QA (E2.out.comp e)
  have O3:=QA (O2.out.trans o)
  have Z3:=QA (QR Z2.out z)
  have av:=QA (ok8_at o Y.out G (by decide))
  clear M H E
  clear h e o z
  have EE:Hid (Vl.Eff s (Vl.gds (Vl.ats l (Dq.dirG at_) true) (j+1)) (Vl.tds (Vl.ats l Dq.dirT []) [] (j+1)) (Vl.cds (Vl.ats l Dq.dirC 0) 0 (j+1)) s3):=QA (E3.out.to (by rw[Vl.gds,Vl.ats_some HX.out];unfold Dq.dirG;simp[Bool.and_assoc]) (fun _=>by rw[Vl.tds,Vl.ats_some HX.out];unfold Dq.dirT;simp) (by rw[Vl.cds,Vl.ats_some HX.out];simp only[QO,QS];omega))
  go_wp2_with fail
  go_roundg (l.length+1-(j+1))
  case measure=>rw[HK.out];omega
  case rel=>exact ⟨j+1,s3,rfl,hjn,by go_num,H3.out,EE.out,O3.out,Z3.out⟩
def WSels (w0:World) (b:Nat) (at_:Nat):Prop:=∀ (l:List Dq.Sel) (a:Option Addr) (c:Nat),Reads w0 (fun _=>True) (.seq 7 (l.map Dq.Sel.d)) [.slice a l.length c]→Dq.Sel.costs l≤1000000000→∀ (s:Vl.Sh) (w:World),WW w0 b s w→s.out.length+Dq.Sel.costs l+2≤1000000000000 →
 Calls Tryz.prog 55 #[.pointer (some ⟨b,0,none⟩),.slice a l.length c,.int .i64 at_] w (WPost w0 b s w (Dq.selsG at_ l) (Dq.selsT l) (2+Dq.Sel.costs l))
def WSel (w0:World) (b:Nat) (at_:Nat):Prop:=∀ (x:Dq.Sel) (a1 a2 a4:Option Addr) (n1 n2 n4:Nat),Reads w0 (fun _=>True) x.d [.int .i64 x.kind,.string ⟨x.nick.toArray⟩,.string ⟨x.name.toArray⟩,.slice a1 x.args.length n1,.slice a2 x.dirs.length n2,.slice a4 x.sels.length n4,.int .i64 x.at_]→x.cost≤1000000000→∀ (s:Vl.Sh) (w:World),WW w0 b s w→s.out.length+x.cost≤1000000000000→∀ D:Int,D=at_ →
 Calls Tryz.prog 121 #[.pointer (some ⟨b,0,none⟩),.agg #[.int .i64 x.kind,.string ⟨x.nick.toArray⟩,.string ⟨x.name.toArray⟩,.slice a1 x.args.length n1,.slice a2 x.dirs.length n2,.slice a4 x.sels.length n4,.int .i64 x.at_],.int .i64 D] w (WPost w0 b s w (x.good at_) x.txt x.cost)
theorem enters_sels (cap:Array Value) (w:World) (i:Int):Sem.run Tryz.prog (callFunc 120 (#[.int .i64 i]++cap)) w=.ok (.enter 120 (#[.int .i64 i]++cap)) w:=by kernel_rfl
theorem eff_false {s s':Vl.Sh} {t:List UInt8} {c:Nat} (h:Vl.Eff s false t c s'):s'.bad=true:=by
 cases hb:s.bad
 ·exact h.no hb rfl
 ·exact h.bad hb
theorem costs_len:∀ l:List Dq.Sel,l.length≤Dq.Sel.costs l
 | []=>ZV _
 | x::r=>by have:=costs_len r;rw[Dq.Sel.costs,QO];omega
set_option maxHeartbeats 2000000 in
set_option maxRecDepth 100000 in
theorem wsels1_any (w0:World) (b:Nat) (hE:Env w0) (h3:3≤w0.heap.size) (l:List Dq.Sel) (at_:Nat) (hat:at_<16) (IH:WSel w0 b (at_+1)) (a:Option Addr) (c:Nat) (hR:Reads w0 (fun _=>True) (.seq 7 (l.map Dq.Sel.d)) [.slice a l.length c]) (t3 t4 t5:Nat) (n3:t3≠b) (n4:t4≠b) (n5:t5≠b)
  (i:Nat) (x:Dq.Sel) (hx:l[i]?=some x) (hc:x.cost≤1000000000) (hll:l.length≤1000000000) (s:Vl.Sh) (w:World) (h:WW w0 b s w) (h3':w.heap[t3]?=some (.cells #[.pointer (some ⟨b,0,none⟩)] 175 (0,0))) (h4':w.heap[t4]?=some (.cells #[.slice a l.length c] 94 (0,0))) (h5':w.heap[t5]?=some (.cells #[.int .i64 at_] 3 (0,0)))
  (hl:s.out.length+x.cost≤1000000000000) :
  Calls Tryz.prog 120 (#[.int .i64 i]++#[.pointer (some ⟨t3,0,none⟩),.pointer (some ⟨t4,0,none⟩),.pointer (some ⟨t5,0,none⟩)]) w (WPost w0 b s w (x.good (at_+1)) x.txt x.cost):=by
 have X:i<l.length:=by
  rcases Nat.lt_or_ge i l.length with h'|h'
  ·exact h'
  ·rw[List.getElem?_eq_none h'] at hx;cases hx
 obtain ⟨g,C,cs,ha,-,B,R,A,Y⟩:=hR.el i x.d (by rw[ZI,hx];rfl)
 obtain ⟨a1,a2,a4,u1,u2,u4,rfl,-⟩:=Dq.Sel.opened Y
 subst ha
 have k0:w.cell? ⟨g,C+i*7,none⟩=_:=(h.bel.cell (p:=⟨g,C+i*7,none⟩) B).trans (A 0 _ rfl)
 have k1:w.cell? ⟨g,C+i*7+1,none⟩=_:=(h.bel.cell (p:=⟨g,C+i*7+1,none⟩) B).trans (A 1 _ rfl)
 have k2:w.cell? ⟨g,C+i*7+2,none⟩=_:=(h.bel.cell (p:=⟨g,C+i*7+2,none⟩) B).trans (A 2 _ rfl)
 have k3:w.cell? ⟨g,C+i*7+3,none⟩=_:=(h.bel.cell (p:=⟨g,C+i*7+3,none⟩) B).trans (A 3 _ rfl)
 have k4:w.cell? ⟨g,C+i*7+4,none⟩=_:=(h.bel.cell (p:=⟨g,C+i*7+4,none⟩) B).trans (A 4 _ rfl)
 have k5:w.cell? ⟨g,C+i*7+5,none⟩=_:=(h.bel.cell (p:=⟨g,C+i*7+5,none⟩) B).trans (A 5 _ rfl)
 have k6:w.cell? ⟨g,C+i*7+6,none⟩=_:=(h.bel.cell (p:=⟨g,C+i*7+6,none⟩) B).trans (A 6 _ rfl)
 have HR:=QA Y
 have e9:decide (i<l.length)=true:=decide_eq_true X
 have H0:=QA h
 have E0:=QA (Vl.Eff.refl s)
 have O0:=QA (Lib.OthersKept.refl 5 (some b) w)
 have Z0:=QA (QM w.heap.size)
 have Q:=QA h3'
 have P:=QA h4'
 have S:=QA h5'
 have Z:=QA IH
 clear h h3' h4' h5' Y A R hR hx B IH
 show Calls Tryz.prog 120 #[.int .i64 i,.pointer (some ⟨t3,0,none⟩),.pointer (some ⟨t4,0,none⟩),.pointer (some ⟨t5,0,none⟩)] w _
 go_enter Tryz.func120,Tryz.ntmps120
 have O:=blk_cell Q.out 0 (.pointer (some ⟨b,0,none⟩)) rfl
 have H:=blk_cell P.out 0 (.slice (some ⟨g,C,none⟩) l.length c) rfl
 have I:=blk_cell S.out 0 (.int .i64 at_) rfl
 go_wp2_with fail
 refine wp_region_cuts [7] (by kernel_rfl) (by kernel_rfl) ?_;simp only[wpMix,QF,QN,QE,QL,Nat.sub_zero,Nat.reduceSub,QY]
 repeat (go_big_quiet_step (fail))
 refine wpQuiet_nil ?_;rintro _ ⟨nq,rfl⟩
 go_wp2_with fail
 refine (Z.out x a1 a2 a4 u1 u2 u4 HR.out (by omega) s _ (H0.out.drewN nq) (by omega) _ (by omega)).mono ?_
 rintro e w1 ⟨rfl,s1,h,e,o,z⟩
 have o:OK8 b w w1:=o
 have z:(w).heap.size≤w1.heap.size:=z
 have W:=e.len
 try simp only[QO,QS,QZ] at W
 have T:=QA h
 have E1:=QA (E0.out.comp e)
 have V:=QA (O0.out.trans o)
 have U:=QA (QR Z0.out z)
 have K:=QA (ok8_at o Q.out n3 (by decide))
 have M:=QA (ok8_at o P.out n4 (by decide))
 have J:=QA (ok8_at o S.out n5 (by decide))
 clear O H I
 clear h e o z
 go_wp2_with fail
 refine wpQuiet_nil ?_
 rintro _ ⟨nr,rfl⟩
 obtain ⟨ao,hw⟩:∃ q,q=w1.drewN nr:=⟨_,rfl⟩
 have N:=T.out.drewN nr
 have G:OK8 b w (w1.drewN nr):=V.out
 have L:w.heap.size≤(w1.drewN nr).heap.size:=U.out
 have F:(w1.drewN nr).heap[t3]?=_:=K.out
 have E:(w1.drewN nr).heap[t4]?=_:=M.out
 have D:(w1.drewN nr).heap[t5]?=_:=J.out
 rw[← hw] at N G L F E D ⊢
 clear T V U K M J
 have T:=QA N
 have V:=QA G
 have U:=QA L
 have K:=QA F
 have M:=QA E
 have J:=QA D
 clear hw N G L F E D
 go_wp2_with fail
 go_end0
 exact ⟨rfl,s1,T.out,E1.out.to (Bool.true_and _) (fun _=>rfl) (by omega),V.out,U.out⟩
set_option maxHeartbeats 2000000 in
set_option maxRecDepth 100000 in
theorem wsels_step (w0:World) (b:Nat) (hE:Env w0) (h3:3≤w0.heap.size) (at_:Nat) (hat:at_≤16) (IH:at_<16→WSel w0 b (at_+1)):WSels w0 b at_:=by
 intro l a c hR hc s w h hl
 have aG:=costs_len l
 have aC:Hid (∀ x∈l,1+x.cost≤Dq.Sel.costs l):=QA (fun x W=>by rw[Dq.Sel.costs_sum];exact Vl.sumC_mem Dq.Sel.cost 1 W)
 have aA:=Dq.Sel.costs_sum l
 obtain ⟨Y,E⟩:∃ q,q=(((w.alloc (.cells #[.pointer (some ⟨b,0,none⟩)] 175)).alloc (.cells #[.slice a l.length c] 94)).alloc (.cells #[.int .i64 at_] 3)):=⟨_,rfl⟩
 have H0:Hid (WW w0 b s Y):=by rw[E];exact QA (((h.alloc (.cells #[.pointer (some ⟨b,0,none⟩)] 175)).alloc (.cells #[.slice a l.length c] 94)).alloc (.cells #[.int .i64 at_] 3))
 have O0:Hid (OK8 b w Y):=by rw[E];exact QA ((((Lib.OthersKept.refl 5 (some b) w).alloc _).alloc _).alloc _)
 have Z0:Hid (w.heap.size≤Y.heap.size):=by rw[E];exact QA (by simp;omega)
 have E0:=QA (Vl.Eff.refl s)
 have Q:Hid (Y.heap[w.heap.size]?=some (.cells #[.pointer (some ⟨b,0,none⟩)] 175 (0,0))):=by rw[E];exact QA (box_at3_0 w _ _ _ _ _ _)
 have I:w.heap.size≠b:=by have:=h.lt;omega
 have O:Hid (Y.heap[w.heap.size+1]?=some (.cells #[.slice a l.length c] 94 (0,0))):=by rw[E];exact QA (box_at3_1 w _ _ _ _ _ _)
 have J:w.heap.size+1≠b:=by have:=h.lt;omega
 have P:Hid (Y.heap[w.heap.size+2]?=some (.cells #[.int .i64 at_] 3 (0,0))):=by rw[E];exact QA (box_at3_2 w _ _ _ _ _ _)
 have H:w.heap.size+2≠b:=by have:=h.lt;omega
 have aH:w.heap.size+3=Y.heap.size:=by rw[E];simp
 have Z:=QA E
 clear h E
 have HR:=QA hR
 have HE:=QA hE
 have au:=QA IH
 clear hR hE IH
 by_cases h0:l.length=0
 ·have e0:decide ((0:Int)<(l.length:Int))=false:=decide_eq_false (by omega)
  have e1:decide (0<l.length)=false:=decide_eq_false (by omega)
  have X:Hid (Dq.selsG at_ l=false):=QA (by unfold Dq.selsG;rw[e1];rfl)
  clear h0
  go_enter Tryz.func55,Tryz.ntmps55
  have A:=blk_cell Q.out 0 (.pointer (some ⟨b,0,none⟩)) rfl
  have B:=blk_cell O.out 0 (.slice a l.length c) rfl
  have C:=blk_cell P.out 0 (.int .i64 at_) rfl
  go_wp2_with fail
  rw[← Z.out]
  refine (H0.out.need (false)).mono ?_
  rintro e w1 ⟨rfl,s1,h,e,o,z⟩
  have S:=e.len
  try simp only[QO,QS,QZ] at S
  have T:=QA h
  have V:=QA (E0.out.comp e)
  have O1:=QA (O0.out.trans o)
  have Z1:=QA (QR Z0.out z)
  have N:=QA (ok8_at o Q.out I (by decide))
  have L:=QA (ok8_at o O.out J (by decide))
  have K:=QA (ok8_at o P.out H (by decide))
  clear A B C
  clear h e o z
  have M:=T.out.badCell
  rw[eff_false V.out] at M
  have G:=blk_cell N.out 0 (.pointer (some ⟨b,0,none⟩)) rfl
  have F:=blk_cell L.out 0 (.slice a l.length c) rfl
  have D:=blk_cell K.out 0 (.int .i64 at_) rfl
  go_wp2_with fail
  go_end0
  exact ⟨rfl,s1,T.out,V.out.to (by rw[X.out];rfl) (fun e=>by rw[X.out] at e;cases e) (by omega),O1.out,Z1.out⟩
 have e0:decide ((0:Int)<(l.length:Int))=true:=decide_eq_true (by omega)
 have e1:decide (0<l.length)=true:=decide_eq_true (by omega)
 by_cases h16:at_<16
 rotate_left
 ·have e2:decide ((at_:Int)<16)=false:=decide_eq_false (by omega)
  have X:Hid (Dq.selsG at_ l=false):=QA (by unfold Dq.selsG;rw[e1,decide_eq_false h16];rfl)
  clear h0 h16
  go_enter Tryz.func55,Tryz.ntmps55
  have A:=blk_cell Q.out 0 (.pointer (some ⟨b,0,none⟩)) rfl
  have B:=blk_cell O.out 0 (.slice a l.length c) rfl
  have C:=blk_cell P.out 0 (.int .i64 at_) rfl
  go_wp2_with fail
  rw[← Z.out]
  refine (H0.out.need (false)).mono ?_
  rintro e w1 ⟨rfl,s1,h,e,o,z⟩
  have S:=e.len
  try simp only[QO,QS,QZ] at S
  have T:=QA h
  have V:=QA (E0.out.comp e)
  have O1:=QA (O0.out.trans o)
  have Z1:=QA (QR Z0.out z)
  have N:=QA (ok8_at o Q.out I (by decide))
  have L:=QA (ok8_at o O.out J (by decide))
  have K:=QA (ok8_at o P.out H (by decide))
  clear A B C
  clear h e o z
  have M:=T.out.badCell
  rw[eff_false V.out] at M
  have G:=blk_cell N.out 0 (.pointer (some ⟨b,0,none⟩)) rfl
  have F:=blk_cell L.out 0 (.slice a l.length c) rfl
  have D:=blk_cell K.out 0 (.int .i64 at_) rfl
  go_wp2_with fail
  go_end0
  exact ⟨rfl,s1,T.out,V.out.to (by rw[X.out];rfl) (fun e=>by rw[X.out] at e;cases e) (by omega),O1.out,Z1.out⟩
 have e2:decide ((at_:Int)<16)=true:=decide_eq_true (by omega)
 have X:Hid (Dq.selsG at_ l=Dq.Sel.goods (at_+1) l):=QA (by unfold Dq.selsG;rw[e1,decide_eq_true h16];rfl)
 have U:=QA h16
 clear h0 h16
 go_enter Tryz.func55,Tryz.ntmps55
 have A:=blk_cell Q.out 0 (.pointer (some ⟨b,0,none⟩)) rfl
 have B:=blk_cell O.out 0 (.slice a l.length c) rfl
 have C:=blk_cell P.out 0 (.int .i64 at_) rfl
 go_wp2_with fail
 rw[← Z.out]
 refine (H0.out.need (true)).mono ?_
 rintro e w1 ⟨rfl,s1,h,e,o,z⟩
 have S:=e.len
 try simp only[QO,QS,QZ] at S
 have T:=QA h
 have V:=QA (E0.out.comp e)
 have O1:=QA (O0.out.trans o)
 have Z1:=QA (QR Z0.out z)
 have N:=QA (ok8_at o Q.out I (by decide))
 have L:=QA (ok8_at o O.out J (by decide))
 have K:=QA (ok8_at o P.out H (by decide))
 clear A B C
 clear h e o z
 have M:=T.out.badCell
 cases hbd:s1.bad
 ·rw[hbd] at M
  clear hbd
  have G:=blk_cell N.out 0 (.pointer (some ⟨b,0,none⟩)) rfl
  have F:=blk_cell L.out 0 (.slice a l.length c) rfl
  have D:=blk_cell K.out 0 (.int .i64 at_) rfl
  go_wp2_with fail
  refine (wputc w0 b s1 _ T.out [123] (by show _+1≤_;omega)).mono ?_
  rintro e w2 ⟨rfl,s2,h,e,o,z⟩
  have aE:=e.len
  try simp only[QO,QS,QZ] at aE
  have H2:=QA h
  have E2:=QA (V.out.comp e)
  have O2:=QA (O1.out.trans o)
  have Z2:=QA (QR Z1.out z)
  have ag:=QA (ok8_at o N.out I (by decide))
  have ac:=QA (ok8_at o L.out J (by decide))
  have af:=QA (ok8_at o K.out H (by decide))
  clear G F D
  clear h e o z
  clear M
  have aq:Hid (∀ (i:Nat),i<l.length→∀ s9 w9,WW w0 b s9 w9→OK8 b w2 w9→s9.out.length+Vl.ats l Dq.Sel.cost 0 i≤1000000000000→Calls Tryz.prog 120 (#[.int .i64 i]++#[.pointer (some ⟨w.heap.size,0,none⟩),.pointer (some ⟨w.heap.size+1,0,none⟩),.pointer (some ⟨w.heap.size+2,0,none⟩)]) w9 (WPost w0 b s9 w9 (Vl.ats l (Dq.Sel.good (at_+1)) true i) (Vl.ats l Dq.Sel.txt [] i) (Vl.ats l Dq.Sel.cost 0 i))):=QA (fun i hi s9 w9 h9 o9 hl9=>by
   obtain ⟨x,W⟩:∃ x,l[i]?=some x:=⟨l[i],ZJ hi⟩
   rw[Vl.ats_some W] at hl9
   rw[Vl.ats_some W,Vl.ats_some W,Vl.ats_some W]
   have ar:=ZC W
   exact wsels1_any w0 b HE.out h3 l at_ U.out (au.out U.out) a c HR.out _ _ _ I J H i x W (by have:=aC.out x ar;omega) (by omega) s9 w9 h9 (ok8_at o9 ag.out I (by decide)) (ok8_at o9 ac.out J (by decide)) (ok8_at o9 af.out H (by decide)) hl9)
  have R:=Vl.cds_sum l Dq.Sel.cost 1 l.length (QM _)
  rw[ZG] at R
  have ay:=QA R
  have ad:=blk_cell ag.out 0 (.pointer (some ⟨b,0,none⟩)) rfl
  have ab:=blk_cell ac.out 0 (.slice a l.length c) rfl
  have ai:=blk_cell af.out 0 (.int .i64 at_) rfl
  go_wp2_with fail
  refine (wall_any w0 b l.length [32] _ _ (Vl.ats l (Dq.Sel.good (at_+1)) true) (Vl.ats l Dq.Sel.txt []) (Vl.ats l Dq.Sel.cost 0) (fun w i=>enters_sels _ w i) s2 _ H2.out (by show _+Vl.cds _ 1 _≤_;rw[R];omega) (by omega) (fun i hi s9 w9 h9 o9 _ hl9=>aq.out i hi s9 w9 h9 o9 hl9)).mono ?_
  rintro e w3 ⟨rfl,s3,h,e,o,z⟩
  have ao:=e.len
  try simp only[QO,QS,QZ] at ao
  have H3:=QA h
  have E3:=QA (E2.out.comp e)
  have O3:=QA (O2.out.trans o)
  have Z3:=QA (QR Z2.out z)
  have am:=QA (ok8_at o ag.out I (by decide))
  have an:=QA (ok8_at o ac.out J (by decide))
  have al:=QA (ok8_at o af.out H (by decide))
  clear ad ab ai
  clear h e o z
  have aF:s3.out.length≤s2.out.length+Vl.sumC Dq.Sel.cost 1 l:=by have:=ao;rw[← R];exact this
  clear R
  have ah:=blk_cell am.out 0 (.pointer (some ⟨b,0,none⟩)) rfl
  have aa:=blk_cell an.out 0 (.slice a l.length c) rfl
  have ae:=blk_cell al.out 0 (.int .i64 at_) rfl
  go_wp2_with fail
  refine (wputc w0 b s3 _ H3.out [125] (by show _+1≤_;omega)).mono ?_
  rintro e w4 ⟨rfl,s4,h,e,o,z⟩
  have ax:=e.len
  try simp only[QO,QS,QZ] at ax
  have H4:=QA h
  have E4:=QA (E3.out.comp e)
  have O4:=QA (O3.out.trans o)
  have Z4:=QA (QR Z3.out z)
  have aR:=QA (ok8_at o am.out I (by decide))
  have aM:=QA (ok8_at o an.out J (by decide))
  have aQ:=QA (ok8_at o al.out H (by decide))
  clear ah aa ae
  clear h e o z
  go_wp2_with fail
  go_end0
  exact ⟨rfl,s4,H4.out,E4.out.to (by rw[X.out,Dq.Sel.goods_all,Vl.gds_all l _ _ (QM _),ZG];simp) (fun _=>by unfold Dq.selsT;rw[Dq.Sel.txts_join,Vl.tds_join l _ _ _ (QM _),ZG];simp) (by have:=ay.out;simp only[QO,QS,Nat.zero_add,QY];omega),O4.out,Z4.out⟩
 ·rw[hbd] at M
  have av:=QA hbd
  clear hbd
  have G:=blk_cell N.out 0 (.pointer (some ⟨b,0,none⟩)) rfl
  have F:=blk_cell L.out 0 (.slice a l.length c) rfl
  have D:=blk_cell K.out 0 (.int .i64 at_) rfl
  go_wp2_with fail
  go_end0
  exact ⟨rfl,s1,T.out,(V.out.comp (Vl.Eff.skip av.out (Dq.Sel.goods (at_+1) l) (Dq.selsT l))).to (by rw[X.out];simp) (fun _=>by simp) (by omega),O1.out,Z1.out⟩
end Go.Proofs.YtefjgpkpplkkgaaGreatDoor
