/-
  The reader: Arg, walked. The reader: Value, walked.
-/
import Derived.Test.YtefjgpkpplkkgaaGreatDoorZp11
open Go.Lib renaming hid → QA
open List renaming length_append → QT, length_map → QX
open Nat renaming le_refl → QM, le_trans → QR, reduceAdd → QY
namespace Go.Proofs.YtefjgpkpplkkgaaGreatDoor
set_option linter.unusedSimpArgs false
set_option linter.unusedVariables false
open Go Go.RowKit
theorem blk_cell {w:World} {b:Nat} {cs:Array Value} {T:TypeId} {fz:Nat×Nat} (h:w.heap[b]?=some (.cells cs T fz)) (j:Nat) (v:Value) (hj:cs[j]?=some v):w.cell? ⟨b,j,none⟩=some v:=by
 unfold World.cell?
 rw[h]
 exact hj
theorem blk2 {w : World} {b : Nat} {cs : Array Value} {T : TypeId} {v0 v1 : Value} (h : w.heap[b]? = some (.cells cs T (0, 0))) (h0 : cs[0]? = some v0) (h1 : cs[1]? = some v1) : w.cell? ⟨b, 0, none⟩ = some v0 ∧ w.cell? ⟨b, 1, none⟩ = some v1 := ⟨blk_cell h 0 v0 h0, blk_cell h 1 v1 h1⟩
theorem blk3 {w : World} {b : Nat} {cs : Array Value} {T : TypeId} {v0 v1 v2 : Value} (h : w.heap[b]? = some (.cells cs T (0, 0))) (h0 : cs[0]? = some v0) (h1 : cs[1]? = some v1) (h2 : cs[2]? = some v2) : w.cell? ⟨b, 0, none⟩ = some v0 ∧ w.cell? ⟨b, 1, none⟩ = some v1 ∧ w.cell? ⟨b, 2, none⟩ = some v2 := ⟨blk_cell h 0 v0 h0, blk_cell h 1 v1 h1, blk_cell h 2 v2 h2⟩
theorem blk5 {w : World} {b : Nat} {cs : Array Value} {T : TypeId} {v0 v1 v2 v3 v4 : Value} (h : w.heap[b]? = some (.cells cs T (0, 0))) (h0 : cs[0]? = some v0) (h1 : cs[1]? = some v1) (h2 : cs[2]? = some v2) (h3 : cs[3]? = some v3) (h4 : cs[4]? = some v4) : w.cell? ⟨b, 0, none⟩ = some v0 ∧ w.cell? ⟨b, 1, none⟩ = some v1 ∧ w.cell? ⟨b, 2, none⟩ = some v2 ∧ w.cell? ⟨b, 3, none⟩ = some v3 ∧ w.cell? ⟨b, 4, none⟩ = some v4 := ⟨blk_cell h 0 v0 h0, blk_cell h 1 v1 h1, blk_cell h 2 v2 h2, blk_cell h 3 v3 h3, blk_cell h 4 v4 h4⟩
theorem blk6 {w : World} {b : Nat} {cs : Array Value} {T : TypeId} {v0 v1 v2 v3 v4 v5 : Value} (h : w.heap[b]? = some (.cells cs T (0, 0))) (h0 : cs[0]? = some v0) (h1 : cs[1]? = some v1) (h2 : cs[2]? = some v2) (h3 : cs[3]? = some v3) (h4 : cs[4]? = some v4) (h5 : cs[5]? = some v5) : w.cell? ⟨b, 0, none⟩ = some v0 ∧ w.cell? ⟨b, 1, none⟩ = some v1 ∧ w.cell? ⟨b, 2, none⟩ = some v2 ∧ w.cell? ⟨b, 3, none⟩ = some v3 ∧ w.cell? ⟨b, 4, none⟩ = some v4 ∧ w.cell? ⟨b, 5, none⟩ = some v5 := ⟨blk_cell h 0 v0 h0, blk_cell h 1 v1 h1, blk_cell h 2 v2 h2, blk_cell h 3 v3 h3, blk_cell h 4 v4 h4, blk_cell h 5 v5 h5⟩
theorem blk7 {w : World} {b : Nat} {cs : Array Value} {T : TypeId} {v0 v1 v2 v3 v4 v5 v6 : Value} (h : w.heap[b]? = some (.cells cs T (0, 0))) (h0 : cs[0]? = some v0) (h1 : cs[1]? = some v1) (h2 : cs[2]? = some v2) (h3 : cs[3]? = some v3) (h4 : cs[4]? = some v4) (h5 : cs[5]? = some v5) (h6 : cs[6]? = some v6) : w.cell? ⟨b, 0, none⟩ = some v0 ∧ w.cell? ⟨b, 1, none⟩ = some v1 ∧ w.cell? ⟨b, 2, none⟩ = some v2 ∧ w.cell? ⟨b, 3, none⟩ = some v3 ∧ w.cell? ⟨b, 4, none⟩ = some v4 ∧ w.cell? ⟨b, 5, none⟩ = some v5 ∧ w.cell? ⟨b, 6, none⟩ = some v6 := ⟨blk_cell h 0 v0 h0, blk_cell h 1 v1 h1, blk_cell h 2 v2 h2, blk_cell h 3 v3 h3, blk_cell h 4 v4 h4, blk_cell h 5 v5 h5, blk_cell h 6 v6 h6⟩
theorem blk_free {w:World} {b:Nat} {cs:Array Value} {T:TypeId} (h:w.heap[b]?=some (.cells cs T (0,0))) (j:Nat):w.frozen? ⟨b,j,none⟩=false:=by
 unfold World.frozen?
 rw[h]
 simp
theorem Got.fr {b g:Nat} {w w1:World} {d:D} {s:Rd.St} {r:Ending} {w':World} (h:Got b g w1 d s r w') (hs:w.heap.size≤w1.heap.size):∃ cs:List Value,r=.returned (.agg cs.toArray)∧Reads w' (fun x=>w.heap.size≤x) d cs∧RdAt w' b g s∧Fr b w1 w':=by
 obtain ⟨cs,o,A,B,C⟩:=h
 exact ⟨cs,o,A.to (Stands.sub w' (fun x _ hp=>QR hs hp)),B,C⟩
set_option maxHeartbeats 1000000 in
set_option maxRecDepth 100000 in
theorem rarg_any (b g:Nat) (fixed:Bool) (m:Nat) (s:Rd.St) (w:World) (h:RdAt w b g s)
  (hval:∀ w',RdAt w' b g (Rd.want Rd.colon (Rd.name s).1)→Calls Tryz.prog 39 #[.pointer (some ⟨b,0,none⟩),.bool fixed] w' (Got b g w' (Rd.value fixed m (Rd.want Rd.colon (Rd.name s).1)).2.d (Rd.value fixed m (Rd.want Rd.colon (Rd.name s).1)).1)) :
  Calls Tryz.prog 105 #[.pointer (some ⟨b,0,none⟩),.bool fixed] w (Got b g w (Rd.arg fixed m s).2.d (Rd.arg fixed m s).1):=by
 have aS:=h.lt
 have H:=QA h
 have Z:=QA hval
 have Y:Below w.heap.size w (w.alloc (.cells #[.string ⟨#[]⟩,.int .i64 0,.string ⟨#[]⟩,.slice none 0 0,.slice none 0 0,.int .i64 0,.int .i64 0] 72)):=(Below.refl _ _).alloc (QM _) _
 have HA:=QA Y
 clear h hval Y
 go_enter Tryz.func105,Tryz.ntmps105
 go_wp2_with fail
 refine (rpeek_any b g s _ (H.out.below HA.out)).mono ?_
 rintro r w1 ⟨rfl,hb1⟩
 have R:=QA (HA.out.trans (hb1.mono HA.out.size))
 have af:=QA hb1.size
 have ag:Hid (w1.heap[w.heap.size]?=some (.cells #[.string ⟨#[]⟩,.int .i64 0,.string ⟨#[]⟩,.slice none 0 0,.slice none 0 0,.int .i64 0,.int .i64 0] 72 (0,0))):=QA (by rw[hb1.block w.heap.size (by simp)];exact heap_at_new _ _)
 obtain ⟨J,T⟩:∃ x,x=(Rd.peek s).at_:=⟨_,rfl⟩
 rw[← T]
 have an:=QA T
 clear hb1 T
 go_wp2_with fail
 refine (rname_any b g s w1 (H.out.below R.out)).mono ?_
 rintro r w2 ⟨rfl,h2,f2⟩
 obtain ⟨K,S⟩:∃ x:ByteArray,x=⟨(Rd.name s).2.toArray⟩:=⟨_,rfl⟩
 rw[← S]
 have ad:=QA S
 have H2:=QA h2
 have F2:=QA ((But.of_below R.out).trans f2)
 have F:=QA f2
 clear h2 f2 S
 have W:Below w2.heap.size w2 (w2.alloc (.cells #[.string K,.int .i64 0,.string ⟨#[]⟩,.slice none 0 0,.slice none 0 0,.int .i64 0,.int .i64 J] 72)):=(Below.refl _ _).alloc (QM _) _
 have U:=QA W
 clear W
 go_wp2_with fail
 refine (rwant_any b g (Rd.name s).1 Rd.colon _ (H2.out.below U.out)).mono ?_
 rintro r w3 ⟨rfl,h3,f3⟩
 have H3:=QA h3
 have F3:=QA f3
 clear h3 f3
 go_wp2_with fail
 refine (Z.out w3 H3.out).mono ?_
 rintro r w4 hgot
 obtain ⟨cs,rfl,Q,V,E⟩:=hgot
 obtain ⟨k,a,t,I,G,C,c1,D,c2,rfl⟩:=V_cells Q
 have ab:=QA Q
 have ai:=QA V
 have ac:=QA E
 clear Q V E
 have L:Fr b (w2.alloc (.cells #[.string K,.int .i64 0,.string ⟨#[]⟩,.slice none 0 0,.slice none 0 0,.int .i64 0,.int .i64 J] 72)) w4:=F3.out.trans ac.out
 have g2:w2.heap.size<(w2.alloc (.cells #[.string K,.int .i64 0,.string ⟨#[]⟩,.slice none 0 0,.slice none 0 0,.int .i64 0,.int .i64 J] 72)).heap.size:=by simp
 have s2:=F2.out.size
 have sA:w.heap.size<w1.heap.size:=by have:=R.out;have h1:(w.alloc (.cells #[.string ⟨#[]⟩,.int .i64 0,.string ⟨#[]⟩,.slice none 0 0,.slice none 0 0,.int .i64 0,.int .i64 0] 72)).heap.size≤w1.heap.size:=af.out;simp at h1;omega
 have o:Hid (w4.heap[w2.heap.size]?=some (.cells #[.string K,.int .i64 0,.string ⟨#[]⟩,.slice none 0 0,.slice none 0 0,.int .i64 0,.int .i64 J] 72 (0,0))) :=
  QA (by rw[L.block w2.heap.size g2 (by omega)];exact heap_at_new _ _)
 have B:Hid (w4.heap[w.heap.size]?=some (.cells #[.string ⟨#[]⟩,.int .i64 0,.string ⟨#[]⟩,.slice none 0 0,.slice none 0 0,.int .i64 0,.int .i64 0] 72 (0,0))) :=
  QA (by
   have e2:w2.heap[w.heap.size]?=w1.heap[w.heap.size]?:=F.out.block w.heap.size sA (by omega)
   rw[L.block w.heap.size (by omega) (by omega),U.out.block w.heap.size (by have:=F.out.size;omega),e2]
   exact ag.out)
 have z0:=blk_cell B.out 0 (.string ⟨#[]⟩) rfl
 have aC:=blk_free B.out 0
 have y0:=blk_cell o.out 0 (.string K) rfl
 have aO:=blk_free o.out 0
 have z1:=blk_cell B.out 1 (.int .i64 0) rfl
 have aL:=blk_free B.out 1
 have y1:=blk_cell o.out 1 (.int .i64 0) rfl
 have ay:=blk_free o.out 1
 have z2:=blk_cell B.out 2 (.string ⟨#[]⟩) rfl
 have aA:=blk_free B.out 2
 have y2:=blk_cell o.out 2 (.string ⟨#[]⟩) rfl
 have aD:=blk_free o.out 2
 have z3:=blk_cell B.out 3 (.slice none 0 0) rfl
 have ax:=blk_free B.out 3
 have y3:=blk_cell o.out 3 (.slice none 0 0) rfl
 have aI:=blk_free o.out 3
 have z4:=blk_cell B.out 4 (.slice none 0 0) rfl
 have aJ:=blk_free B.out 4
 have y4:=blk_cell o.out 4 (.slice none 0 0) rfl
 have aB:=blk_free o.out 4
 have z5:=blk_cell B.out 5 (.int .i64 0) rfl
 have az:=blk_free B.out 5
 have y5:=blk_cell o.out 5 (.int .i64 0) rfl
 have aU:=blk_free o.out 5
 have z6:=blk_cell B.out 6 (.int .i64 0) rfl
 have aR:=blk_free B.out 6
 have y6:=blk_cell o.out 6 (.int .i64 J) rfl
 have aK:=blk_free o.out 6
 have n1:¬ w.heap.size=w2.heap.size:=by have:=F.out.size;omega
 have n2:¬ w2.heap.size=w.heap.size:=fun e=>n1 e.symm
 have g3:w2.heap.size<w3.heap.size:=Nat.lt_of_lt_of_le g2 F3.out.size
 have g1:w.heap.size≤w2.heap.size:=by have:=F.out.size;omega
 have X:Hid (Reads (putCells (putCells w4 w2.heap.size 1 [.int .i64 k,.string t,.slice I C c1,.slice G D c2,.int .i64 a]) w.heap.size 0 [.string K,.int .i64 k,.string t,.slice I C c1,.slice G D c2,.int .i64 a,.int .i64 J]) (fun x=>w.heap.size≤x) (Rd.arg fixed m s).2.d [.string K,.int .i64 k,.string t,.slice I C c1,.slice G D c2,.int .i64 a,.int .i64 J] ∧
   RdAt (putCells (putCells w4 w2.heap.size 1 [.int .i64 k,.string t,.slice I C c1,.slice G D c2,.int .i64 a]) w.heap.size 0 [.string K,.int .i64 k,.string t,.slice I C c1,.slice G D c2,.int .i64 a,.int .i64 J]) b g (Rd.arg fixed m s).1 ∧
   Fr b w (putCells (putCells w4 w2.heap.size 1 [.int .i64 k,.string t,.slice I C c1,.slice G D c2,.int .i64 a]) w.heap.size 0 [.string K,.int .i64 k,.string t,.slice I C c1,.slice G D c2,.int .i64 a,.int .i64 J])):=by
  obtain ⟨M,N⟩:∃ M,M=putCells (putCells w4 w2.heap.size 1 [.int .i64 k,.string t,.slice I C c1,.slice G D c2,.int .i64 a]) w.heap.size 0 [.string K,.int .i64 k,.string t,.slice I C c1,.slice G D c2,.int .i64 a,.int .i64 J]:=⟨_,rfl⟩
  rw[← N]
  have hk:∀ x,x≠w.heap.size→x≠w2.heap.size→M.heap[x]?=w4.heap[x]?:=fun x h1 h2=>by rw[N,putCells_ne _ _ h1,putCells_ne _ _ h2]
  have P:M.heap.size=w4.heap.size:=by rw[N,putCells_size,putCells_size]
  have ho:M.os=w4.os∧M.tape=w4.tape∧M.output=w4.output:=by
   rw[N]
   have p1:=putCells_os w.heap.size [.string K,.int .i64 k,.string t,.slice I C c1,.slice G D c2,.int .i64 a,.int .i64 J] 0 (putCells w4 w2.heap.size 1 [.int .i64 k,.string t,.slice I C c1,.slice G D c2,.int .i64 a])
   have p2:=putCells_os w2.heap.size [.int .i64 k,.string t,.slice I C c1,.slice G D c2,.int .i64 a] 1 w4
   exact ⟨p1.1.trans p2.1,p1.2.1.trans p2.2.1,p1.2.2.trans p2.2.2⟩
  have ah:Stands w4 (fun x=>w3.heap.size≤x) M (fun x=>w.heap.size≤x):=⟨by rw[P];exact QM _,fun x hx hp=>by
   have aQ:w3.heap.size≤x:=hp
   exact ⟨by show w.heap.size≤x;omega,hk x (by omega) (by omega)⟩⟩
  have E:Fr b w w4:=(F2.out.trans (But.of_below U.out)).trans L
  refine QA ⟨?_,ai.out.to (by rw[P];exact QM _) (hk b (by omega) (by omega)) (hk g (by omega) (by omega)),⟨ho.1.trans E.os,ho.2.1.trans E.tape,ho.2.2.trans E.output,by rw[P];exact E.size,fun x hx hxb=>by
   rw[hk x (by omega) (by omega)]
   exact E.block x hx hxb⟩⟩
  show Reads M _ (Rd.A.d (.mk (Rd.name s).2 _ (Rd.peek s).at_)) _
  rw[Rd.A.d,← an.out,ad.out]
  exact .obj (.cons (.str _) (.cons (ab.out.to ah) (.cons (.int _) .nil)))
 go_wp2_with fail
 have O:=X.out
 simp only[putCells,QY,Nat.zero_add] at O
 refine bodyPost_ret (v:=.agg #[.string K,.int .i64 k,.string t,.slice I C c1,.slice G D c2,.int .i64 a,.int .i64 J]) (by simp[results,Tryz.results105,go_sem,z0,z1,z2,z3,z4,z5,z6,n1,n2]) rfl ?_
 exact ⟨_,rfl,O⟩
structure VI (w0:World) (b g t5 t6:Nat) (fixed:Bool) (tk:Lx.Tok) (c6:Array Value) (s:Rd.St) (w:World):Prop where
 rd:RdAt w b g s
 b2:w.heap[w0.heap.size]?=some (.cells #[.pointer (some ⟨b,0,none⟩)] 160 (0,0))
 b3:w.heap[w0.heap.size+1]?=some (.cells #[.bool fixed] 4 (0,0))
 b4:w.heap[w0.heap.size+1+1]?=some (.cells #[.int .i64 0,.string ⟨#[]⟩,.slice none 0 0,.slice none 0 0,.int .i64 0] 25 (0,0))
 b5:w.heap[t5]?=some (.cells #[.int .i64 tk.kind,.string ⟨tk.text.toArray⟩,.int .i64 tk.at_] 136 (0,0))
 b6:w.heap[t6]?=some (.cells c6 25 (0,0))
 fr:Fr b w0 w
 o5:w0.heap.size+3≤t5
 o6:t5<t6
 lb:b<w0.heap.size
 lg:g<w0.heap.size
section
variable {w0 w w' : World} {b g t5 t6 : Nat} {fixed : Bool} {tk : Lx.Tok} {c6 : Array Value} {s s' : Rd.St}
theorem VI.step (h:VI w0 b g t5 t6 fixed tk c6 s w) (hr:RdAt w' b g s') (hf:Fr b w w'):VI w0 b g t5 t6 fixed tk c6 s' w':=by
 have lb:=h.lb
 have o5:=h.o5
 have o6:=h.o6
 have e:∀ x o,w.heap[x]?=some o→x≠b→w'.heap[x]?=some o:=fun x o hx hb=>by rw[hf.block x (block_lt hx) hb];exact hx
 exact ⟨hr,e _ _ h.b2 (by omega),e _ _ h.b3 (by omega),e _ _ h.b4 (by omega),e _ _ h.b5 (by omega),e _ _ h.b6 (by omega),h.fr.trans hf,o5,o6,lb,h.lg⟩
theorem VI.below (h:VI w0 b g t5 t6 fixed tk c6 s w) (hb:Below w.heap.size w w'):VI w0 b g t5 t6 fixed tk c6 s w':=h.step (h.rd.below hb) (But.of_below hb)
theorem VI.put (h:VI w0 b g t5 t6 fixed tk c6 s w) (j:Nat) (v:Value):VI w0 b g t5 t6 fixed tk (c6.setIfInBounds j v) s (w.setCell ⟨t6,j,none⟩ v):=by
 have lb:=h.lb
 have lg:=h.lg
 have o5:=h.o5
 have o6:=h.o6
 refine ⟨h.rd.set_ne (by omega) (by omega) _ _,by rw[heap_set_ne (by omega)];exact h.b2,by rw[heap_set_ne (by omega)];exact h.b3,by rw[heap_set_ne (by omega)];exact h.b4,by rw[heap_set_ne (by omega)];exact h.b5,heap_set1 h.b6,?_,o5,o6,lb,lg⟩
 exact h.fr.setCell (.inr (by show w0.heap.size≤t6;omega)) v
theorem VI.fin {d:D} {cs:List Value} {P:Nat→Prop} (h:VI w0 b g t5 t6 fixed tk cs.toArray s w) (hd:Reads w P d cs) (hP:∀ x,P x→t6<x) :
  Reads (putCells w (w0.heap.size+1+1) 0 cs) (fun x=>w0.heap.size≤x) d cs∧RdAt (putCells w (w0.heap.size+1+1) 0 cs) b g s∧Fr b w0 (putCells w (w0.heap.size+1+1) 0 cs):=by
 have lb:=h.lb
 have lg:=h.lg
 have o5:=h.o5
 have o6:=h.o6
 have A:∀ x,x≠w0.heap.size+1+1→(putCells w (w0.heap.size+1+1) 0 cs).heap[x]?=w.heap[x]?:=fun x h1=>putCells_ne _ _ h1 _ _ _
 have o:=putCells_size (w0.heap.size+1+1) cs 0 w
 have B:=putCells_os (w0.heap.size+1+1) cs 0 w
 refine ⟨hd.to ⟨by rw[o];exact QM _,fun x hx hp=>⟨by have:=hP x hp;show w0.heap.size≤x;omega,A x (by have:=hP x hp;omega)⟩⟩,h.rd.to (by rw[o];exact QM _) (A b (by omega)) (A g (by omega)),⟨B.1.trans h.fr.os,B.2.1.trans h.fr.tape,B.2.2.trans h.fr.output,by rw[o];exact h.fr.size,fun x hx hxb=>by
  rw[A x (by omega)]
  exact h.fr.block x hx hxb⟩⟩
theorem leaf_reads (w:World) (k at_:Nat) (t:List UInt8):Reads w (fun _=>False) (Rd.V.d (.mk k t [] [] at_)) [.int .i64 k,.string ⟨t.toArray⟩,.slice none 0 0,.slice none 0 0,.int .i64 at_]:=by
 rw[Rd.V.d,Rd.V.dl,Rd.A.dl]
 exact .obj (.cons (.int _) (.cons (.str _) (.cons (cs:=[.slice none 0 0]) (.seq (cap:=0) .nil) (.cons (cs:=[.slice none 0 0]) (.seq (cap:=0) .nil) (.cons (.int _) .nil)))))
end
theorem ris1N_any (b g N:Nat) (s:Rd.St) (c:List UInt8) (T:TypeId) (w:World) (h:RdAt w b g s) (hN:N=w.heap.size) :
  Calls Tryz.prog 96 #[.pointer (some ⟨b,0,none⟩),.slice (some ⟨N,0,none⟩) 1 1] (w.alloc (.cells #[.string ⟨c.toArray⟩] T)) fun r w'=>r=.returned (.bool (Rd.isS s c))∧Below w.heap.size w w':=by
 subst hN
 exact ris1_any b g s c T w h
def vbx (w0:World) (b t5:Nat) (fixed:Bool) (tk:Lx.Tok):List Box :=
 [(w0.heap.size,.cells #[.pointer (some ⟨b,0,none⟩)] 160 (0,0)),(w0.heap.size+1,.cells #[.bool fixed] 4 (0,0)),
  (w0.heap.size+1+1,.cells #[.int .i64 0,.string ⟨#[]⟩,.slice none 0 0,.slice none 0 0,.int .i64 0] 25 (0,0)),(t5,.cells #[.int .i64 tk.kind,.string ⟨tk.text.toArray⟩,.int .i64 tk.at_] 136 (0,0))]
def VLI {α:Type} (w0:World) (b g t5 t6:Nat) (fixed:Bool) (tk:Lx.Tok) (mk:Value→Array Value) (E:TypeId) (k:Nat) (dd:α→D) (m:Nat) (d1:Int) (s:Rd.St) (out:List α) (w:World):Prop :=
 LI w0 b g t6 (vbx w0 b t5 fixed tk) 25 mk E k s (out.map dd) w∧s.deep=d1∧(s.err=0→s.rest.length≤m∧out.length+s.rest.length≤1601)∧out.length≤1602
theorem VLI.start {α:Type} {w0 w:World} {b g t5 t6:Nat} {fixed:Bool} {tk:Lx.Tok} {mk:Value→Array Value} {E:TypeId} {k:Nat} {dd:α→D} {m:Nat} {s:Rd.St} (h:VI w0 b g t5 t6 fixed tk (mk (.slice none 0 0)) s w)
  (hm:s.err=0→s.rest.length≤m) (hm2:m≤1600):VLI w0 b g t5 t6 fixed tk mk E k dd m s.deep s ([]:List α) w:=by
 have o5:=h.o5
 have o6:=h.o6
 refine ⟨⟨h.rd,fun p hp=>?_,⟨_,h.b6,Grows.nil _ _ _ _ _⟩,h.fr,h.lb,h.lg,fun p hp=>?_,by omega⟩,rfl,fun he=>⟨hm he,by have:=hm he;simp;omega⟩,by simp⟩
 ·unfold vbx at hp
  simp only[List.mem_cons,List.not_mem_nil,or_false] at hp
  rcases hp with rfl|rfl|rfl|rfl
  ·exact h.b2
  ·exact h.b3
  ·exact h.b4
  ·exact h.b5
 ·unfold vbx at hp
  simp only[List.mem_cons,List.not_mem_nil,or_false] at hp
  rcases hp with rfl|rfl|rfl|rfl<;>(simp only;omega)
theorem VI.of_LI {w0 w:World} {b g t5 t6:Nat} {fixed:Bool} {tk:Lx.Tok} {mk:Value→Array Value} {E:TypeId} {k:Nat} {ds:List D} {s:Rd.St} {v:Value} (h:LI w0 b g t6 (vbx w0 b t5 fixed tk) 25 mk E k s ds w) (o5:w0.heap.size+3≤t5) (o6:t5<t6)
  (hv:w.heap[t6]?=some (.cells (mk v) 25 (0,0))):VI w0 b g t5 t6 fixed tk (mk v) s w :=
 ⟨h.rd,h.cb (w0.heap.size,_) (by simp[vbx]),h.cb (w0.heap.size+1,_) (by simp[vbx]),h.cb (w0.heap.size+1+1,_) (by simp[vbx]),h.cb (t5,_) (by simp[vbx]),hv,h.fr,o5,o6,h.lb,h.lg⟩
theorem enters_C1 (cap:Array Value) (w:World):Sem.run Tryz.prog (callFunc 102 cap) w=.ok (.enter 102 cap) w:=by kernel_rfl
theorem enters_C2 (cap:Array Value) (w:World):Sem.run Tryz.prog (callFunc 104 cap) w=.ok (.enter 104 cap) w:=by kernel_rfl
set_option maxHeartbeats 2000000 in
set_option maxRecDepth 100000 in
theorem rvalue_step (b g:Nat) (fixed:Bool) (n:Nat) (s:Rd.St) (w:World) (h:RdAt w b g s) (hn:s.rest.length≤n) (hnb:n≤1600) (hd:0≤s.deep∧s.deep+n≤900000)
  (ih:∀ m,n=m+1→∀ (s:Rd.St) (w:World),RdAt w b g s→s.rest.length≤m→0≤s.deep∧s.deep+m≤900000→Calls Tryz.prog 39 #[.pointer (some ⟨b,0,none⟩),.bool fixed] w (Got b g w (Rd.value fixed (m+1) s).2.d (Rd.value fixed (m+1) s).1)) :
  Calls Tryz.prog 39 #[.pointer (some ⟨b,0,none⟩),.bool fixed] w (Got b g w (Rd.value fixed (n+1) s).2.d (Rd.value fixed (n+1) s).1):=by
 obtain ⟨d0,d1⟩:=hd
 have bC:=h.lt
 have H:=QA h
 have bx:=QA ih
 have bA:Below w.heap.size w (((w.alloc (.cells #[.pointer (some ⟨b,0,none⟩)] 160)).alloc (.cells #[.bool fixed] 4)).alloc (.cells #[.int .i64 0,.string ⟨#[]⟩,.slice none 0 0,.slice none 0 0,.int .i64 0] 25)) :=
  (((Below.refl _ _).alloc (QM _) _).alloc (by simp) _).alloc (by simp;omega) _
 have bu:(((w.alloc (.cells #[.pointer (some ⟨b,0,none⟩)] 160)).alloc (.cells #[.bool fixed] 4)).alloc (.cells #[.int .i64 0,.string ⟨#[]⟩,.slice none 0 0,.slice none 0 0,.int .i64 0] 25)).heap.size=w.heap.size+3:=by simp
 have hA:(((w.alloc (.cells #[.pointer (some ⟨b,0,none⟩)] 160)).alloc (.cells #[.bool fixed] 4)).alloc (.cells #[.int .i64 0,.string ⟨#[]⟩,.slice none 0 0,.slice none 0 0,.int .i64 0] 25)).heap[w.heap.size]?=some (.cells #[.pointer (some ⟨b,0,none⟩)] 160 (0,0)):=by
  rw[Lib.alloc_old _ _ _ (by simp;omega),Lib.alloc_old _ _ _ (by simp)];exact heap_at_new _ _
 have hB:(((w.alloc (.cells #[.pointer (some ⟨b,0,none⟩)] 160)).alloc (.cells #[.bool fixed] 4)).alloc (.cells #[.int .i64 0,.string ⟨#[]⟩,.slice none 0 0,.slice none 0 0,.int .i64 0] 25)).heap[w.heap.size+1]?=some (.cells #[.bool fixed] 4 (0,0)):=by
  rw[Lib.alloc_old _ _ _ (by simp)]
  have:=heap_at_new (w.alloc (.cells #[.pointer (some ⟨b,0,none⟩)] 160)) (.cells #[.bool fixed] 4)
  simpa using this
 have hC:(((w.alloc (.cells #[.pointer (some ⟨b,0,none⟩)] 160)).alloc (.cells #[.bool fixed] 4)).alloc (.cells #[.int .i64 0,.string ⟨#[]⟩,.slice none 0 0,.slice none 0 0,.int .i64 0] 25)).heap[w.heap.size+1+1]?=some (.cells #[.int .i64 0,.string ⟨#[]⟩,.slice none 0 0,.slice none 0 0,.int .i64 0] 25 (0,0)):=by
  have:=heap_at_new ((w.alloc (.cells #[.pointer (some ⟨b,0,none⟩)] 160)).alloc (.cells #[.bool fixed] 4)) (.cells #[.int .i64 0,.string ⟨#[]⟩,.slice none 0 0,.slice none 0 0,.int .i64 0] 25)
  simpa using this
 have HA:=QA hA
 have HB:=QA hB
 have HC:=QA hC
 have bw:=QA bu
 have be:=QA bA
 clear h ih bA hA hB hC bu
 go_enter Tryz.func39,Tryz.ntmps39
 have k2:=blk_cell HA.out 0 _ rfl
 go_wp2_with fail
 refine (rpeek_any b g s _ (H.out.below be.out)).mono ?_
 rintro r w1 ⟨rfl,hb1⟩
 obtain ⟨D,bi⟩:∃ t,t=Rd.peek s:=⟨_,rfl⟩
 have ai:=QA bi
 rw[← bi]
 have bD:VI w b g w1.heap.size (w1.heap.size+1) fixed D #[.int .i64 0,.string ⟨#[]⟩,.slice none 0 0,.slice none 0 0,.int .i64 D.at_] s ((w1.alloc (.cells #[.int .i64 D.kind,.string ⟨D.text.toArray⟩,.int .i64 D.at_] 136)).alloc (.cells #[.int .i64 0,.string ⟨#[]⟩,.slice none 0 0,.slice none 0 0,.int .i64 D.at_] 25)):=by
  have bE:=hb1.size
  rw[bw.out] at bE
  have aH:Below w1.heap.size w1 ((w1.alloc (.cells #[.int .i64 D.kind,.string ⟨D.text.toArray⟩,.int .i64 D.at_] 136)).alloc (.cells #[.int .i64 0,.string ⟨#[]⟩,.slice none 0 0,.slice none 0 0,.int .i64 D.at_] 25)):=((Below.refl _ _).alloc (QM _) _).alloc (by simp) _
  have e:∀ x o,x<w.heap.size+3→(((w.alloc (.cells #[.pointer (some ⟨b,0,none⟩)] 160)).alloc (.cells #[.bool fixed] 4)).alloc (.cells #[.int .i64 0,.string ⟨#[]⟩,.slice none 0 0,.slice none 0 0,.int .i64 0] 25)).heap[x]?=some o →
    ((w1.alloc (.cells #[.int .i64 D.kind,.string ⟨D.text.toArray⟩,.int .i64 D.at_] 136)).alloc (.cells #[.int .i64 0,.string ⟨#[]⟩,.slice none 0 0,.slice none 0 0,.int .i64 D.at_] 25)).heap[x]?=some o:=fun x o hx ho=>by
   rw[aH.block x (by omega),hb1.block x (by rw[bw.out];exact hx)]
   exact ho
  have bo:Below w.heap.size w w1:=be.out.trans (hb1.mono be.out.size)
  refine ⟨(H.out.below bo).below aH,e _ _ (by omega) HA.out,e _ _ (by omega) HB.out,e _ _ (by omega) HC.out,?_,?_,But.of_below (bo.trans (aH.mono bo.size)),by omega,by omega,bC.1,bC.2⟩
  ·rw[Lib.alloc_old _ _ _ (by simp)];exact heap_at_new _ _
  ·have:=heap_at_new (w1.alloc (.cells #[.int .i64 D.kind,.string ⟨D.text.toArray⟩,.int .i64 D.at_] 136)) (.cells #[.int .i64 0,.string ⟨#[]⟩,.slice none 0 0,.slice none 0 0,.int .i64 D.at_] 25)
   simpa using this
 have a9:=QA bD
 clear hb1 bi bD k2
 have k2:=blk_cell a9.out.b2 0 (.pointer (some ⟨b,0,none⟩)) rfl
 go_wp2_with fail
 refine (ris1N_any b g _ s Rd.dollar _ _ a9.out.rd (by simp)).mono ?_
 rintro r w2 ⟨rfl,hb2⟩
 have hV:=a9.out.below hb2
 obtain ⟨t6,bt⟩:∃ x,x=w1.heap.size+1:=⟨_,rfl⟩
 obtain ⟨t5,bB⟩:∃ x,x=w1.heap.size:=⟨_,rfl⟩
 rw[← bt] at hV ⊢
 rw[← bB] at hV ⊢
 have HV:=QA hV
 have o5:=hV.o5
 have o6:=hV.o6
 have n1:¬ t6=w.heap.size:=by omega
 have n2:¬ w.heap.size=t6:=by omega
 have n3:¬ t6=w.heap.size+1:=by omega
 have n4:¬ w.heap.size+1=t6:=by omega
 have n5:¬ t6=w.heap.size+1+1:=by omega
 have n6:¬ w.heap.size+1+1=t6:=by omega
 have n7:¬ t6=t5:=by omega
 have n8:¬ t5=t6:=by omega
 clear hb2 bB bt hV k2 a9
 obtain ⟨B1,bq⟩:∃ B,B=Rd.isS s Rd.dollar:=⟨_,rfl⟩
 have bc:=QA bq
 rw[← bq]
 clear bq
 cases B1
 rotate_left
 ·-- a variable
  have HE:Hid (Rd.value fixed (n+1) s=((Rd.name (Rd.next (if fixed then Rd.wrong s else s))).1,.mk 1 (Rd.name (Rd.next (if fixed then Rd.wrong s else s))).2 [] [] (Rd.peek s).at_)):=by
   unfold Rd.value
   dsimp only
   rw[if_pos bc.out.symm]
   exact QA rfl
  have k2:=blk_cell HV.out.b2 0 (.pointer (some ⟨b,0,none⟩)) rfl
  have k3:=blk_cell HV.out.b3 0 (.bool fixed) rfl
  obtain ⟨a0,a1,a2⟩:=blk3 HV.out.b5 rfl rfl rfl
  have z0:=blk_cell HV.out.b4 0 (.int .i64 0) rfl
  have R:=blk_free HV.out.b4 0
  have y0:=blk_cell HV.out.b6 0 ((.int .i64 0)) rfl
  have Y:=blk_free HV.out.b6 0
  have z1:=blk_cell HV.out.b4 1 (.string ⟨#[]⟩) rfl
  have X:=blk_free HV.out.b4 1
  have y1:=blk_cell HV.out.b6 1 ((.string ⟨#[]⟩)) rfl
  have N:=blk_free HV.out.b6 1
  have z2:=blk_cell HV.out.b4 2 (.slice none 0 0) rfl
  have O:=blk_free HV.out.b4 2
  have y2:=blk_cell HV.out.b6 2 ((.slice none 0 0)) rfl
  have S:=blk_free HV.out.b6 2
  have z3:=blk_cell HV.out.b4 3 (.slice none 0 0) rfl
  have M:=blk_free HV.out.b4 3
  have y3:=blk_cell HV.out.b6 3 ((.slice none 0 0)) rfl
  have U:=blk_free HV.out.b6 3
  have z4:=blk_cell HV.out.b4 4 (.int .i64 0) rfl
  have W:=blk_free HV.out.b4 4
  have y4:=blk_cell HV.out.b6 4 ((.int .i64 D.at_)) rfl
  have P:=blk_free HV.out.b6 4
  cases fixed
  ·skip
   go_wp2_with fail
   refine (rnext_any b g s w2 HV.out.rd).mono ?_
   rintro r w4 ⟨rfl,h4,f4⟩
   have E:=QA (HV.out.step h4 f4)
   clear h4 f4
   clear k2 k3 a0 a1 a2 z0 R y0 Y z1 X y1 N z2 O y2 S z3 M y3 U z4 W y4 P
   have k2:=blk_cell E.out.b2 0 (.pointer (some ⟨b,0,none⟩)) rfl
   have k3:=blk_cell E.out.b3 0 (.bool false) rfl
   obtain ⟨a0,a1,a2⟩:=blk3 E.out.b5 rfl rfl rfl
   have z0:=blk_cell E.out.b4 0 (.int .i64 0) rfl
   have R:=blk_free E.out.b4 0
   have y0:=blk_cell E.out.b6 0 ((.int .i64 0)) rfl
   have Y:=blk_free E.out.b6 0
   have z1:=blk_cell E.out.b4 1 (.string ⟨#[]⟩) rfl
   have X:=blk_free E.out.b4 1
   have y1:=blk_cell E.out.b6 1 ((.string ⟨#[]⟩)) rfl
   have N:=blk_free E.out.b6 1
   have z2:=blk_cell E.out.b4 2 (.slice none 0 0) rfl
   have O:=blk_free E.out.b4 2
   have y2:=blk_cell E.out.b6 2 ((.slice none 0 0)) rfl
   have S:=blk_free E.out.b6 2
   have z3:=blk_cell E.out.b4 3 (.slice none 0 0) rfl
   have M:=blk_free E.out.b4 3
   have y3:=blk_cell E.out.b6 3 ((.slice none 0 0)) rfl
   have U:=blk_free E.out.b6 3
   have z4:=blk_cell E.out.b4 4 (.int .i64 0) rfl
   have W:=blk_free E.out.b4 4
   have y4:=blk_cell E.out.b6 4 ((.int .i64 D.at_)) rfl
   have P:=blk_free E.out.b6 4
   go_wp2_with fail
   refine (rname_any b g (Rd.next s) w4 E.out.rd).mono ?_
   rintro r w5 ⟨rfl,h5,f5⟩
   obtain ⟨nm,aG⟩:∃ x,x=(Rd.name (Rd.next s)).2:=⟨_,rfl⟩
   rw[← aG]
   have ba:=QA aG
   have K:=QA (E.out.step h5 f5)
   clear h5 f5 aG
   clear k2 k3 a0 a1 a2 z0 R y0 Y z1 X y1 N z2 O y2 S z3 M y3 U z4 W y4 P
   have k2:=blk_cell K.out.b2 0 (.pointer (some ⟨b,0,none⟩)) rfl
   have k3:=blk_cell K.out.b3 0 (.bool false) rfl
   obtain ⟨a0,a1,a2⟩:=blk3 K.out.b5 rfl rfl rfl
   have z0:=blk_cell K.out.b4 0 (.int .i64 0) rfl
   have R:=blk_free K.out.b4 0
   have y0:=blk_cell K.out.b6 0 ((.int .i64 0)) rfl
   have Y:=blk_free K.out.b6 0
   have z1:=blk_cell K.out.b4 1 (.string ⟨#[]⟩) rfl
   have X:=blk_free K.out.b4 1
   have y1:=blk_cell K.out.b6 1 ((.string ⟨#[]⟩)) rfl
   have N:=blk_free K.out.b6 1
   have z2:=blk_cell K.out.b4 2 (.slice none 0 0) rfl
   have O:=blk_free K.out.b4 2
   have y2:=blk_cell K.out.b6 2 ((.slice none 0 0)) rfl
   have S:=blk_free K.out.b6 2
   have z3:=blk_cell K.out.b4 3 (.slice none 0 0) rfl
   have M:=blk_free K.out.b4 3
   have y3:=blk_cell K.out.b6 3 ((.slice none 0 0)) rfl
   have U:=blk_free K.out.b6 3
   have z4:=blk_cell K.out.b4 4 (.int .i64 0) rfl
   have W:=blk_free K.out.b4 4
   have y4:=blk_cell K.out.b6 4 ((.int .i64 D.at_)) rfl
   have P:=blk_free K.out.b6 4
   have I:=QA ((K.out.put 0 (.int .i64 1)).put 1 (.string ⟨nm.toArray⟩))
   go_wp2_with fail
   have J:=(I).out.fin (cs:=[.int .i64 1,.string ⟨nm.toArray⟩,.slice none 0 0,.slice none 0 0,.int .i64 D.at_]) (leaf_reads _ 1 D.at_ nm) (fun x hx=>hx.elim)
   simp only[putCells,QY,Nat.zero_add] at J
   refine bodyPost_ret (v:=.agg ([.int .i64 1,.string ⟨nm.toArray⟩,.slice none 0 0,.slice none 0 0,.int .i64 D.at_]).toArray) (by simp[results,Tryz.results39,go_sem,z0,z1,z2,z3,z4,n1,n2,n3,n4,n5,n6,n7,n8]) rfl ?_
   rw[HE.out,← ai.out]
   exact ⟨_,rfl,by rw[ba.out] at J ⊢;exact J⟩
  ·go_wp2_with fail
   refine (rwrong_any b g s w2 HV.out.rd).mono ?_
   rintro r w3 ⟨rfl,h3,f3⟩
   have G:=QA (HV.out.step h3 f3)
   clear h3 f3
   clear k2 k3 a0 a1 a2 z0 R y0 Y z1 X y1 N z2 O y2 S z3 M y3 U z4 W y4 P
   have k2:=blk_cell G.out.b2 0 (.pointer (some ⟨b,0,none⟩)) rfl
   have k3:=blk_cell G.out.b3 0 (.bool true) rfl
   obtain ⟨a0,a1,a2⟩:=blk3 G.out.b5 rfl rfl rfl
   have z0:=blk_cell G.out.b4 0 (.int .i64 0) rfl
   have R:=blk_free G.out.b4 0
   have y0:=blk_cell G.out.b6 0 ((.int .i64 0)) rfl
   have Y:=blk_free G.out.b6 0
   have z1:=blk_cell G.out.b4 1 (.string ⟨#[]⟩) rfl
   have X:=blk_free G.out.b4 1
   have y1:=blk_cell G.out.b6 1 ((.string ⟨#[]⟩)) rfl
   have N:=blk_free G.out.b6 1
   have z2:=blk_cell G.out.b4 2 (.slice none 0 0) rfl
   have O:=blk_free G.out.b4 2
   have y2:=blk_cell G.out.b6 2 ((.slice none 0 0)) rfl
   have S:=blk_free G.out.b6 2
   have z3:=blk_cell G.out.b4 3 (.slice none 0 0) rfl
   have M:=blk_free G.out.b4 3
   have y3:=blk_cell G.out.b6 3 ((.slice none 0 0)) rfl
   have U:=blk_free G.out.b6 3
   have z4:=blk_cell G.out.b4 4 (.int .i64 0) rfl
   have W:=blk_free G.out.b4 4
   have y4:=blk_cell G.out.b6 4 ((.int .i64 D.at_)) rfl
   have P:=blk_free G.out.b6 4
   go_wp2_with fail
   refine (rnext_any b g (Rd.wrong s) w3 G.out.rd).mono ?_
   rintro r w4 ⟨rfl,h4,f4⟩
   have E:=QA (G.out.step h4 f4)
   clear h4 f4
   clear k2 k3 a0 a1 a2 z0 R y0 Y z1 X y1 N z2 O y2 S z3 M y3 U z4 W y4 P
   have k2:=blk_cell E.out.b2 0 (.pointer (some ⟨b,0,none⟩)) rfl
   have k3:=blk_cell E.out.b3 0 (.bool true) rfl
   obtain ⟨a0,a1,a2⟩:=blk3 E.out.b5 rfl rfl rfl
   have z0:=blk_cell E.out.b4 0 (.int .i64 0) rfl
   have R:=blk_free E.out.b4 0
   have y0:=blk_cell E.out.b6 0 ((.int .i64 0)) rfl
   have Y:=blk_free E.out.b6 0
   have z1:=blk_cell E.out.b4 1 (.string ⟨#[]⟩) rfl
   have X:=blk_free E.out.b4 1
   have y1:=blk_cell E.out.b6 1 ((.string ⟨#[]⟩)) rfl
   have N:=blk_free E.out.b6 1
   have z2:=blk_cell E.out.b4 2 (.slice none 0 0) rfl
   have O:=blk_free E.out.b4 2
   have y2:=blk_cell E.out.b6 2 ((.slice none 0 0)) rfl
   have S:=blk_free E.out.b6 2
   have z3:=blk_cell E.out.b4 3 (.slice none 0 0) rfl
   have M:=blk_free E.out.b4 3
   have y3:=blk_cell E.out.b6 3 ((.slice none 0 0)) rfl
   have U:=blk_free E.out.b6 3
   have z4:=blk_cell E.out.b4 4 (.int .i64 0) rfl
   have W:=blk_free E.out.b4 4
   have y4:=blk_cell E.out.b6 4 ((.int .i64 D.at_)) rfl
   have P:=blk_free E.out.b6 4
   go_wp2_with fail
   refine (rname_any b g (Rd.next (Rd.wrong s)) w4 E.out.rd).mono ?_
   rintro r w5 ⟨rfl,h5,f5⟩
   obtain ⟨nm,aG⟩:∃ x,x=(Rd.name (Rd.next (Rd.wrong s))).2:=⟨_,rfl⟩
   rw[← aG]
   have ba:=QA aG
   have K:=QA (E.out.step h5 f5)
   clear h5 f5 aG
   clear k2 k3 a0 a1 a2 z0 R y0 Y z1 X y1 N z2 O y2 S z3 M y3 U z4 W y4 P
   have k2:=blk_cell K.out.b2 0 (.pointer (some ⟨b,0,none⟩)) rfl
   have k3:=blk_cell K.out.b3 0 (.bool true) rfl
   obtain ⟨a0,a1,a2⟩:=blk3 K.out.b5 rfl rfl rfl
   have z0:=blk_cell K.out.b4 0 (.int .i64 0) rfl
   have R:=blk_free K.out.b4 0
   have y0:=blk_cell K.out.b6 0 ((.int .i64 0)) rfl
   have Y:=blk_free K.out.b6 0
   have z1:=blk_cell K.out.b4 1 (.string ⟨#[]⟩) rfl
   have X:=blk_free K.out.b4 1
   have y1:=blk_cell K.out.b6 1 ((.string ⟨#[]⟩)) rfl
   have N:=blk_free K.out.b6 1
   have z2:=blk_cell K.out.b4 2 (.slice none 0 0) rfl
   have O:=blk_free K.out.b4 2
   have y2:=blk_cell K.out.b6 2 ((.slice none 0 0)) rfl
   have S:=blk_free K.out.b6 2
   have z3:=blk_cell K.out.b4 3 (.slice none 0 0) rfl
   have M:=blk_free K.out.b4 3
   have y3:=blk_cell K.out.b6 3 ((.slice none 0 0)) rfl
   have U:=blk_free K.out.b6 3
   have z4:=blk_cell K.out.b4 4 (.int .i64 0) rfl
   have W:=blk_free K.out.b4 4
   have y4:=blk_cell K.out.b6 4 ((.int .i64 D.at_)) rfl
   have P:=blk_free K.out.b6 4
   have I:=QA ((K.out.put 0 (.int .i64 1)).put 1 (.string ⟨nm.toArray⟩))
   go_wp2_with fail
   have J:=(I).out.fin (cs:=[.int .i64 1,.string ⟨nm.toArray⟩,.slice none 0 0,.slice none 0 0,.int .i64 D.at_]) (leaf_reads _ 1 D.at_ nm) (fun x hx=>hx.elim)
   simp only[putCells,QY,Nat.zero_add] at J
   refine bodyPost_ret (v:=.agg ([.int .i64 1,.string ⟨nm.toArray⟩,.slice none 0 0,.slice none 0 0,.int .i64 D.at_]).toArray) (by simp[results,Tryz.results39,go_sem,z0,z1,z2,z3,z4,n1,n2,n3,n4,n5,n6,n7,n8]) rfl ?_
   rw[HE.out,← ai.out]
   exact ⟨_,rfl,by rw[ba.out] at J ⊢;exact J⟩
 have aA:Hid (¬ Rd.isS s Rd.dollar=true):=by rw[← bc.out];exact QA (by simp)
 clear bc
 have k2:=blk_cell HV.out.b2 0 (.pointer (some ⟨b,0,none⟩)) rfl
 go_wp2_with fail
 refine (ris1_any b g s Rd.lbrk _ w2 HV.out.rd).mono ?_
 rintro r w3 ⟨rfl,hb3⟩
 have G:=QA (HV.out.below hb3)
 clear hb3 k2
 obtain ⟨B2,bd⟩:∃ B,B=Rd.isS s Rd.lbrk:=⟨_,rfl⟩
 have az:=QA bd
 rw[← bd]
 clear bd
 cases B2
 rotate_left
 ·-- a list
  have HE:Hid (Rd.value fixed (n+1) s=(Rd.up Rd.rbrk (Rd.loop Rd.rbrk (Rd.value fixed n) ((Rd.down Rd.lbrk s).rest.length+1) (Rd.down Rd.lbrk s) []).1,.mk 8 [] (Rd.loop Rd.rbrk (Rd.value fixed n) ((Rd.down Rd.lbrk s).rest.length+1) (Rd.down Rd.lbrk s) []).2 [] (Rd.peek s).at_)):=by
   unfold Rd.value
   dsimp only
   rw[if_neg aA.out,if_pos az.out.symm]
   exact QA rfl
  obtain ⟨m,hm⟩:∃ m,n=m+1:=⟨n-1,by have:=H.out.rest_len;omega⟩
  have bH:m≤1599:=by omega
  have bI:s.deep+1+(m:Int)≤900000:=by omega
  have HM:=QA hm
  have aP:Hid (∀ (s:Rd.St) (w:World),RdAt w b g s→s.rest.length≤m→0≤s.deep∧s.deep+m≤900000→Calls Tryz.prog 39 #[.pointer (some ⟨b,0,none⟩),.bool fixed] w (Got b g w (Rd.value fixed n s).2.d (Rd.value fixed n s).1)):=by
   have h1:=bx.out m hm
   rw[← hm] at h1
   exact QA h1
  have aK:Hid (∀ s,s.err=0→((Rd.value fixed n) s).1.err≠0∨((Rd.value fixed n) s).1.rest.length<s.rest.length):=by rw[hm];exact QA (Rd.value_goes fixed m)
  have bk:Hid (∀ s,((Rd.value fixed n) s).1.deep=s.deep):=QA (Rd.value_deep fixed n)
  clear hm
  have k2:=blk_cell G.out.b2 0 (.pointer (some ⟨b,0,none⟩)) rfl
  have k3:=blk_cell G.out.b3 0 (.bool fixed) rfl
  obtain ⟨a0,a1,a2⟩:=blk3 G.out.b5 rfl rfl rfl
  have z0:=blk_cell G.out.b4 0 (.int .i64 0) rfl
  have R:=blk_free G.out.b4 0
  have y0:=blk_cell G.out.b6 0 ((.int .i64 0)) rfl
  have Y:=blk_free G.out.b6 0
  have z1:=blk_cell G.out.b4 1 (.string ⟨#[]⟩) rfl
  have X:=blk_free G.out.b4 1
  have y1:=blk_cell G.out.b6 1 ((.string ⟨#[]⟩)) rfl
  have N:=blk_free G.out.b6 1
  have z2:=blk_cell G.out.b4 2 (.slice none 0 0) rfl
  have O:=blk_free G.out.b4 2
  have y2:=blk_cell G.out.b6 2 ((.slice none 0 0)) rfl
  have S:=blk_free G.out.b6 2
  have z3:=blk_cell G.out.b4 3 (.slice none 0 0) rfl
  have M:=blk_free G.out.b4 3
  have y3:=blk_cell G.out.b6 3 ((.slice none 0 0)) rfl
  have U:=blk_free G.out.b6 3
  have z4:=blk_cell G.out.b4 4 (.int .i64 0) rfl
  have W:=blk_free G.out.b4 4
  have y4:=blk_cell G.out.b6 4 ((.int .i64 D.at_)) rfl
  have P:=blk_free G.out.b6 4
  go_wp2_with fail
  refine (rdown_any b g s Rd.lbrk _ ((G.out.put 0 (.int .i64 8)).rd) ⟨by omega,by omega⟩).mono ?_
  rintro r w4 ⟨rfl,h4,f4⟩
  have E:Hid (VI w b g t5 t6 fixed D ((mkItems D.at_) (.slice none 0 0)) (Rd.down Rd.lbrk s) w4):=QA ((G.out.put 0 (.int .i64 8)).step h4 f4)
  clear h4 f4
  clear k2 k3 a0 a1 a2 z0 R y0 Y z1 X y1 N z2 O y2 S z3 M y3 U z4 W y4 P
  have k2:=blk_cell E.out.b2 0 (.pointer (some ⟨b,0,none⟩)) rfl
  have aM:=QA (Rd.down_deep Rd.lbrk s)
  have bj:Hid (VLI w b g t5 t6 fixed D (mkItems D.at_) 25 5 Rd.V.d m (Rd.down Rd.lbrk s).deep (Rd.down Rd.lbrk s) [] w4):=by
   refine QA (VLI.start E.out (fun he=>?_) (by omega))
   rcases Rd.down_goes az.out.symm with h|h
   ·exact absurd he h
   ·have:=HM.out;omega
  go_wp2_with fail
  refine (some_any Rd.rbrk (Rd.value fixed n) (VLI w b g t5 t6 fixed D (mkItems D.at_) 25 5 Rd.V.d m (Rd.down Rd.lbrk s).deep) b g _ _ (enters_C1 _) (fun s out w' h=>h.1.rd) (fun s out w1 w2 h hb=>⟨h.1.below hb,h.2⟩) (fun s1 out w1 h he=>?_) (fun s1 out w1 h he _=>aK.out s1 he) ((Rd.down Rd.lbrk s).rest.length+1) (Rd.down Rd.lbrk s) [] w4 bj.out (.inr (by omega))).mono ?_
  ·have hr:=h.2.2.1 he
   refine (valC1_any w b g t6 (vbx w b t5 fixed D) w.heap.size (w.heap.size+1) fixed D.at_ n (by simp[vbx]) (by simp[vbx]) s1 (out.map Rd.V.d) w1 ?_ h.1 (by rw[QX];omega)).mono ?_
   ·intro w2 hr2
    exact aP.out s1 w2 hr2 hr.1 (by rw[h.2.1,aM.out];omega)
   ·rintro r w2 ⟨hre,aw⟩
    refine ⟨hre,by rw[List.map_append];exact aw,by rw[bk.out];exact h.2.1,fun he2=>?_,by rw[QT];simp;omega⟩
    rcases aK.out s1 he with hx|hx
    ·exact absurd he2 hx
    ·rw[QT]
     simp
     omega
  rintro r w5 ⟨rfl,hL⟩
  obtain ⟨L,aD⟩:∃ x,x=Rd.loop Rd.rbrk (Rd.value fixed n) ((Rd.down Rd.lbrk s).rest.length+1) (Rd.down Rd.lbrk s) []:=⟨_,rfl⟩
  rw[← aD] at hL
  have bh:=QA aD
  have HL:=QA hL
  clear k2 aD hL
  have k2:w5.cell? ⟨w.heap.size,0,none⟩=some (.pointer (some ⟨b,0,none⟩)):=HL.out.1.cellx (T:=160) (by simp[vbx])
  go_wp2_with fail
  refine (rup_any b g L.1 Rd.rbrk w5 HL.out.1.rd (by rw[HL.out.2.1,aM.out];omega)).mono ?_
  rintro r w6 ⟨rfl,h6,f6⟩
  have aw:=HL.out.1.step h6 f6
  obtain ⟨v6,aX,aE⟩:=aw.ex
  obtain ⟨va,vc,aO⟩:=aE.form
  rw[QX] at aO
  subst aO
  have I:=QA (VI.of_LI aw o5 o6 aX)
  have aR:=QA aE
  clear h6 f6 aw aX aE k2
  have k2:=blk_cell I.out.b2 0 (.pointer (some ⟨b,0,none⟩)) rfl
  have k3:=blk_cell I.out.b3 0 (.bool fixed) rfl
  obtain ⟨a0,a1,a2⟩:=blk3 I.out.b5 rfl rfl rfl
  have z0:=blk_cell I.out.b4 0 (.int .i64 0) rfl
  have R:=blk_free I.out.b4 0
  have y0:=blk_cell I.out.b6 0 ((.int .i64 8)) rfl
  have Y:=blk_free I.out.b6 0
  have z1:=blk_cell I.out.b4 1 (.string ⟨#[]⟩) rfl
  have X:=blk_free I.out.b4 1
  have y1:=blk_cell I.out.b6 1 ((.string ⟨#[]⟩)) rfl
  have N:=blk_free I.out.b6 1
  have z2:=blk_cell I.out.b4 2 (.slice none 0 0) rfl
  have O:=blk_free I.out.b4 2
  have y2:=blk_cell I.out.b6 2 ((.slice va L.2.length vc)) rfl
  have S:=blk_free I.out.b6 2
  have z3:=blk_cell I.out.b4 3 (.slice none 0 0) rfl
  have M:=blk_free I.out.b4 3
  have y3:=blk_cell I.out.b6 3 ((.slice none 0 0)) rfl
  have U:=blk_free I.out.b6 3
  have z4:=blk_cell I.out.b4 4 (.int .i64 0) rfl
  have W:=blk_free I.out.b4 4
  have y4:=blk_cell I.out.b6 4 ((.int .i64 D.at_)) rfl
  have P:=blk_free I.out.b6 4
  go_wp2_with fail
  have bp:Hid (Reads w6 (fun x=>t6<x) (Rd.V.d (.mk 8 [] L.2 [] D.at_)) [.int .i64 8,.string ⟨#[]⟩,(.slice va L.2.length vc),(.slice none 0 0),.int .i64 D.at_]):=by
   have h1:=aR.out.reads.to (Stands.sub w6 (Q:=fun x=>t6<x) (fun x _ hp=>by
    rcases hp with hp|hp
    ·exact hp.1
    ·have:=QR (LB_t6 _ _) (aR.out.lt x hp).1;omega))
   refine QA ?_
   rw[Rd.V.d]
   first
   | (rw[Rd.V.dl_map,Rd.A.dl];exact .obj (.cons (.int _) (.cons (.str []) (.cons h1 (.cons (cs:=[.slice none 0 0]) (.seq (cap:=0) .nil) (.cons (.int _) .nil))))))
   | (rw[Rd.A.dl_map,Rd.V.dl];exact .obj (.cons (.int _) (.cons (.str []) (.cons (cs:=[.slice none 0 0]) (.seq (cap:=0) .nil) (.cons h1 (.cons (.int _) .nil))))))
  have J:=(I).out.fin (cs:=[.int .i64 8,.string ⟨#[]⟩,(.slice va L.2.length vc),(.slice none 0 0),.int .i64 D.at_]) bp.out (fun x hx=>hx)
  simp only[putCells,QY,Nat.zero_add] at J
  refine bodyPost_ret (v:=.agg ([.int .i64 8,.string ⟨#[]⟩,(.slice va L.2.length vc),(.slice none 0 0),.int .i64 D.at_]).toArray) (by simp[results,Tryz.results39,go_sem,z0,z1,z2,z3,z4,n1,n2,n3,n4,n5,n6,n7,n8]) rfl ?_
  rw[HE.out,← ai.out,← bh.out]
  exact ⟨_,rfl,J⟩
 have aC:Hid (¬ Rd.isS s Rd.lbrk=true):=by rw[← az.out];exact QA (by simp)
 clear az
 have k2:=blk_cell G.out.b2 0 (.pointer (some ⟨b,0,none⟩)) rfl
 go_wp2_with fail
 refine (ris1_any b g s Rd.lbrc _ w3 G.out.rd).mono ?_
 rintro r wb ⟨rfl,aH⟩
 have F:=QA (G.out.below aH)
 clear aH k2
 obtain ⟨B3,bg⟩:∃ B,B=Rd.isS s Rd.lbrc:=⟨_,rfl⟩
 have az:=QA bg
 rw[← bg]
 clear bg
 cases B3
 rotate_left
 ·-- an object
  have HE:Hid (Rd.value fixed (n+1) s=(Rd.up Rd.rbrc (Rd.loop Rd.rbrc (Rd.arg fixed n) ((Rd.down Rd.lbrc s).rest.length+1) (Rd.down Rd.lbrc s) []).1,.mk 9 [] [] (Rd.loop Rd.rbrc (Rd.arg fixed n) ((Rd.down Rd.lbrc s).rest.length+1) (Rd.down Rd.lbrc s) []).2 (Rd.peek s).at_)):=by
   unfold Rd.value
   dsimp only
   rw[if_neg aA.out,if_neg aC.out,if_pos az.out.symm]
   exact QA rfl
  obtain ⟨m,hm⟩:∃ m,n=m+1:=⟨n-1,by have:=H.out.rest_len;omega⟩
  have bH:m≤1599:=by omega
  have bI:s.deep+1+(m:Int)≤900000:=by omega
  have HM:=QA hm
  have aP:Hid (∀ (s:Rd.St) (w:World),RdAt w b g s→s.rest.length≤m→0≤s.deep∧s.deep+m≤900000→Calls Tryz.prog 39 #[.pointer (some ⟨b,0,none⟩),.bool fixed] w (Got b g w (Rd.value fixed n s).2.d (Rd.value fixed n s).1)):=by
   have h1:=bx.out m hm
   rw[← hm] at h1
   exact QA h1
  have aK:Hid (∀ s,s.err=0→((Rd.arg fixed n) s).1.err≠0∨((Rd.arg fixed n) s).1.rest.length<s.rest.length):=by rw[hm];exact QA (Rd.arg_goes fixed (m+1))
  have bk:Hid (∀ s,((Rd.arg fixed n) s).1.deep=s.deep):=QA (Rd.argOf_deep _ (Rd.value_deep fixed n))
  clear hm
  have k2:=blk_cell F.out.b2 0 (.pointer (some ⟨b,0,none⟩)) rfl
  have k3:=blk_cell F.out.b3 0 (.bool fixed) rfl
  obtain ⟨a0,a1,a2⟩:=blk3 F.out.b5 rfl rfl rfl
  have z0:=blk_cell F.out.b4 0 (.int .i64 0) rfl
  have R:=blk_free F.out.b4 0
  have y0:=blk_cell F.out.b6 0 ((.int .i64 0)) rfl
  have Y:=blk_free F.out.b6 0
  have z1:=blk_cell F.out.b4 1 (.string ⟨#[]⟩) rfl
  have X:=blk_free F.out.b4 1
  have y1:=blk_cell F.out.b6 1 ((.string ⟨#[]⟩)) rfl
  have N:=blk_free F.out.b6 1
  have z2:=blk_cell F.out.b4 2 (.slice none 0 0) rfl
  have O:=blk_free F.out.b4 2
  have y2:=blk_cell F.out.b6 2 ((.slice none 0 0)) rfl
  have S:=blk_free F.out.b6 2
  have z3:=blk_cell F.out.b4 3 (.slice none 0 0) rfl
  have M:=blk_free F.out.b4 3
  have y3:=blk_cell F.out.b6 3 ((.slice none 0 0)) rfl
  have U:=blk_free F.out.b6 3
  have z4:=blk_cell F.out.b4 4 (.int .i64 0) rfl
  have W:=blk_free F.out.b4 4
  have y4:=blk_cell F.out.b6 4 ((.int .i64 D.at_)) rfl
  have P:=blk_free F.out.b6 4
  go_wp2_with fail
  refine (rdown_any b g s Rd.lbrc _ ((F.out.put 0 (.int .i64 9)).rd) ⟨by omega,by omega⟩).mono ?_
  rintro r w4 ⟨rfl,h4,f4⟩
  have E:Hid (VI w b g t5 t6 fixed D ((mkFields D.at_) (.slice none 0 0)) (Rd.down Rd.lbrc s) w4):=QA ((F.out.put 0 (.int .i64 9)).step h4 f4)
  clear h4 f4
  clear k2 k3 a0 a1 a2 z0 R y0 Y z1 X y1 N z2 O y2 S z3 M y3 U z4 W y4 P
  have k2:=blk_cell E.out.b2 0 (.pointer (some ⟨b,0,none⟩)) rfl
  have aM:=QA (Rd.down_deep Rd.lbrc s)
  have bj:Hid (VLI w b g t5 t6 fixed D (mkFields D.at_) 72 7 Rd.A.d m (Rd.down Rd.lbrc s).deep (Rd.down Rd.lbrc s) [] w4):=by
   refine QA (VLI.start E.out (fun he=>?_) (by omega))
   rcases Rd.down_goes az.out.symm with h|h
   ·exact absurd he h
   ·have:=HM.out;omega
  go_wp2_with fail
  refine (some_any Rd.rbrc (Rd.arg fixed n) (VLI w b g t5 t6 fixed D (mkFields D.at_) 72 7 Rd.A.d m (Rd.down Rd.lbrc s).deep) b g _ _ (enters_C2 _) (fun s out w' h=>h.1.rd) (fun s out w1 w2 h hb=>⟨h.1.below hb,h.2⟩) (fun s1 out w1 h he=>?_) (fun s1 out w1 h he _=>aK.out s1 he) ((Rd.down Rd.lbrc s).rest.length+1) (Rd.down Rd.lbrc s) [] w4 bj.out (.inr (by omega))).mono ?_
  ·have hr:=h.2.2.1 he
   refine (valC2_any w b g t6 (vbx w b t5 fixed D) w.heap.size (w.heap.size+1) fixed D.at_ n (by simp[vbx]) (by simp[vbx]) s1 (out.map Rd.A.d) w1 ?_ h.1 (by rw[QX];omega)).mono ?_
   ·intro w2 hr2
    exact rarg_any b g fixed n s1 w2 hr2 (fun w' hr'=>aP.out _ w' hr' (QR ((Rd.ok_name s1).trans (Rd.ok_want Rd.colon _)).len hr.1) (by rw[Rd.want_deep,Rd.name_deep,h.2.1,aM.out];omega))
   ·rintro r w2 ⟨hre,aw⟩
    refine ⟨hre,by rw[List.map_append];exact aw,by rw[bk.out];exact h.2.1,fun he2=>?_,by rw[QT];simp;omega⟩
    rcases aK.out s1 he with hx|hx
    ·exact absurd he2 hx
    ·rw[QT]
     simp
     omega
  rintro r w5 ⟨rfl,hL⟩
  obtain ⟨L,aD⟩:∃ x,x=Rd.loop Rd.rbrc (Rd.arg fixed n) ((Rd.down Rd.lbrc s).rest.length+1) (Rd.down Rd.lbrc s) []:=⟨_,rfl⟩
  rw[← aD] at hL
  have bh:=QA aD
  have HL:=QA hL
  clear k2 aD hL
  have k2:w5.cell? ⟨w.heap.size,0,none⟩=some (.pointer (some ⟨b,0,none⟩)):=HL.out.1.cellx (T:=160) (by simp[vbx])
  go_wp2_with fail
  refine (rup_any b g L.1 Rd.rbrc w5 HL.out.1.rd (by rw[HL.out.2.1,aM.out];omega)).mono ?_
  rintro r w6 ⟨rfl,h6,f6⟩
  have aw:=HL.out.1.step h6 f6
  obtain ⟨v6,aX,aE⟩:=aw.ex
  obtain ⟨va,vc,aO⟩:=aE.form
  rw[QX] at aO
  subst aO
  have I:=QA (VI.of_LI aw o5 o6 aX)
  have aR:=QA aE
  clear h6 f6 aw aX aE k2
  have k2:=blk_cell I.out.b2 0 (.pointer (some ⟨b,0,none⟩)) rfl
  have k3:=blk_cell I.out.b3 0 (.bool fixed) rfl
  obtain ⟨a0,a1,a2⟩:=blk3 I.out.b5 rfl rfl rfl
  have z0:=blk_cell I.out.b4 0 (.int .i64 0) rfl
  have R:=blk_free I.out.b4 0
  have y0:=blk_cell I.out.b6 0 ((.int .i64 9)) rfl
  have Y:=blk_free I.out.b6 0
  have z1:=blk_cell I.out.b4 1 (.string ⟨#[]⟩) rfl
  have X:=blk_free I.out.b4 1
  have y1:=blk_cell I.out.b6 1 ((.string ⟨#[]⟩)) rfl
  have N:=blk_free I.out.b6 1
  have z2:=blk_cell I.out.b4 2 (.slice none 0 0) rfl
  have O:=blk_free I.out.b4 2
  have y2:=blk_cell I.out.b6 2 ((.slice none 0 0)) rfl
  have S:=blk_free I.out.b6 2
  have z3:=blk_cell I.out.b4 3 (.slice none 0 0) rfl
  have M:=blk_free I.out.b4 3
  have y3:=blk_cell I.out.b6 3 ((.slice va L.2.length vc)) rfl
  have U:=blk_free I.out.b6 3
  have z4:=blk_cell I.out.b4 4 (.int .i64 0) rfl
  have W:=blk_free I.out.b4 4
  have y4:=blk_cell I.out.b6 4 ((.int .i64 D.at_)) rfl
  have P:=blk_free I.out.b6 4
  go_wp2_with fail
  have bp:Hid (Reads w6 (fun x=>t6<x) (Rd.V.d (.mk 9 [] [] L.2 D.at_)) [.int .i64 9,.string ⟨#[]⟩,(.slice none 0 0),(.slice va L.2.length vc),.int .i64 D.at_]):=by
   have h1:=aR.out.reads.to (Stands.sub w6 (Q:=fun x=>t6<x) (fun x _ hp=>by
    rcases hp with hp|hp
    ·exact hp.1
    ·have:=QR (LB_t6 _ _) (aR.out.lt x hp).1;omega))
   refine QA ?_
   rw[Rd.V.d]
   first
   | (rw[Rd.V.dl_map,Rd.A.dl];exact .obj (.cons (.int _) (.cons (.str []) (.cons h1 (.cons (cs:=[.slice none 0 0]) (.seq (cap:=0) .nil) (.cons (.int _) .nil))))))
   | (rw[Rd.A.dl_map,Rd.V.dl];exact .obj (.cons (.int _) (.cons (.str []) (.cons (cs:=[.slice none 0 0]) (.seq (cap:=0) .nil) (.cons h1 (.cons (.int _) .nil))))))
  have J:=(I).out.fin (cs:=[.int .i64 9,.string ⟨#[]⟩,(.slice none 0 0),(.slice va L.2.length vc),.int .i64 D.at_]) bp.out (fun x hx=>hx)
  simp only[putCells,QY,Nat.zero_add] at J
  refine bodyPost_ret (v:=.agg ([.int .i64 9,.string ⟨#[]⟩,(.slice none 0 0),(.slice va L.2.length vc),.int .i64 D.at_]).toArray) (by simp[results,Tryz.results39,go_sem,z0,z1,z2,z3,z4,n1,n2,n3,n4,n5,n6,n7,n8]) rfl ?_
  rw[HE.out,← ai.out,← bh.out]
  exact ⟨_,rfl,J⟩
 have aF:Hid (¬ Rd.isS s Rd.lbrc=true):=by rw[← az.out];exact QA (by simp)
 clear az
 have k2:=blk_cell F.out.b2 0 (.pointer (some ⟨b,0,none⟩)) rfl
 have k3:=blk_cell F.out.b3 0 (.bool fixed) rfl
 obtain ⟨a0,a1,a2⟩:=blk3 F.out.b5 rfl rfl rfl
 have z0:=blk_cell F.out.b4 0 (.int .i64 0) rfl
 have R:=blk_free F.out.b4 0
 have y0:=blk_cell F.out.b6 0 ((.int .i64 0)) rfl
 have Y:=blk_free F.out.b6 0
 have z1:=blk_cell F.out.b4 1 (.string ⟨#[]⟩) rfl
 have X:=blk_free F.out.b4 1
 have y1:=blk_cell F.out.b6 1 ((.string ⟨#[]⟩)) rfl
 have N:=blk_free F.out.b6 1
 have z2:=blk_cell F.out.b4 2 (.slice none 0 0) rfl
 have O:=blk_free F.out.b4 2
 have y2:=blk_cell F.out.b6 2 ((.slice none 0 0)) rfl
 have S:=blk_free F.out.b6 2
 have z3:=blk_cell F.out.b4 3 (.slice none 0 0) rfl
 have M:=blk_free F.out.b4 3
 have y3:=blk_cell F.out.b6 3 ((.slice none 0 0)) rfl
 have U:=blk_free F.out.b6 3
 have z4:=blk_cell F.out.b4 4 (.int .i64 0) rfl
 have W:=blk_free F.out.b4 4
 have y4:=blk_cell F.out.b6 4 ((.int .i64 D.at_)) rfl
 have P:=blk_free F.out.b6 4
 by_cases hk2:D.kind=2
 ·have e2:=eqT (n:=D.kind) (k:=2) (by omega)
  have HE:Hid (Rd.value fixed (n+1) s=(Rd.next s,.mk 2 (Rd.peek s).text [] [] (Rd.peek s).at_)):=by
   unfold Rd.value;dsimp only;rw[if_neg aA.out,if_neg aC.out,if_neg aF.out,if_pos (by rw[← ai.out];exact hk2)]
   exact QA rfl
  clear hk2
  go_wp2_with fail
  refine (rnext_any b g s wb F.out.rd).mono ?_
  rintro r wn ⟨rfl,hn5,fn5⟩
  rw[← ai.out]
  have C:=QA (F.out.step hn5 fn5)
  clear hn5 fn5
  clear k2 k3 a0 a1 a2 z0 R y0 Y z1 X y1 N z2 O y2 S z3 M y3 U z4 W y4 P
  have k2:=blk_cell C.out.b2 0 (.pointer (some ⟨b,0,none⟩)) rfl
  have k3:=blk_cell C.out.b3 0 (.bool fixed) rfl
  obtain ⟨a0,a1,a2⟩:=blk3 C.out.b5 rfl rfl rfl
  have z0:=blk_cell C.out.b4 0 (.int .i64 0) rfl
  have R:=blk_free C.out.b4 0
  have y0:=blk_cell C.out.b6 0 ((.int .i64 0)) rfl
  have Y:=blk_free C.out.b6 0
  have z1:=blk_cell C.out.b4 1 (.string ⟨#[]⟩) rfl
  have X:=blk_free C.out.b4 1
  have y1:=blk_cell C.out.b6 1 ((.string ⟨#[]⟩)) rfl
  have N:=blk_free C.out.b6 1
  have z2:=blk_cell C.out.b4 2 (.slice none 0 0) rfl
  have O:=blk_free C.out.b4 2
  have y2:=blk_cell C.out.b6 2 ((.slice none 0 0)) rfl
  have S:=blk_free C.out.b6 2
  have z3:=blk_cell C.out.b4 3 (.slice none 0 0) rfl
  have M:=blk_free C.out.b4 3
  have y3:=blk_cell C.out.b6 3 ((.slice none 0 0)) rfl
  have U:=blk_free C.out.b6 3
  have z4:=blk_cell C.out.b4 4 (.int .i64 0) rfl
  have W:=blk_free C.out.b4 4
  have y4:=blk_cell C.out.b6 4 ((.int .i64 D.at_)) rfl
  have P:=blk_free C.out.b6 4
  have aB:=QA ((C.out.put 0 (.int .i64 2)).put 1 (.string ⟨D.text.toArray⟩))
  go_wp2_with fail
  have J:=(aB).out.fin (cs:=[.int .i64 2,.string ⟨D.text.toArray⟩,.slice none 0 0,.slice none 0 0,.int .i64 D.at_]) (leaf_reads _ 2 D.at_ D.text) (fun x hx=>hx.elim)
  simp only[putCells,QY,Nat.zero_add] at J
  refine bodyPost_ret (v:=.agg ([.int .i64 2,.string ⟨D.text.toArray⟩,.slice none 0 0,.slice none 0 0,.int .i64 D.at_]).toArray) (by simp[results,Tryz.results39,go_sem,z0,z1,z2,z3,z4,n1,n2,n3,n4,n5,n6,n7,n8]) rfl ?_
  rw[HE.out,← ai.out]
  exact ⟨_,rfl,J⟩
 have e2:=eqF (n:=D.kind) (k:=2) (by omega)
 have aI:Hid (¬ (Rd.peek s).kind=2):=by rw[← ai.out];exact QA hk2
 by_cases hk3:D.kind=3
 ·have e3:=eqT (n:=D.kind) (k:=3) (by omega)
  have HE:Hid (Rd.value fixed (n+1) s=(Rd.next s,.mk 3 (Rd.peek s).text [] [] (Rd.peek s).at_)):=by
   unfold Rd.value;dsimp only;rw[if_neg aA.out,if_neg aC.out,if_neg aF.out,if_neg aI.out,if_pos (by rw[← ai.out];exact hk3)]
   exact QA rfl
  clear hk2 hk3
  go_wp2_with fail
  refine (rnext_any b g s wb F.out.rd).mono ?_
  rintro r wn ⟨rfl,hn5,fn5⟩
  rw[← ai.out]
  have C:=QA (F.out.step hn5 fn5)
  clear hn5 fn5
  clear k2 k3 a0 a1 a2 z0 R y0 Y z1 X y1 N z2 O y2 S z3 M y3 U z4 W y4 P
  have k2:=blk_cell C.out.b2 0 (.pointer (some ⟨b,0,none⟩)) rfl
  have k3:=blk_cell C.out.b3 0 (.bool fixed) rfl
  obtain ⟨a0,a1,a2⟩:=blk3 C.out.b5 rfl rfl rfl
  have z0:=blk_cell C.out.b4 0 (.int .i64 0) rfl
  have R:=blk_free C.out.b4 0
  have y0:=blk_cell C.out.b6 0 ((.int .i64 0)) rfl
  have Y:=blk_free C.out.b6 0
  have z1:=blk_cell C.out.b4 1 (.string ⟨#[]⟩) rfl
  have X:=blk_free C.out.b4 1
  have y1:=blk_cell C.out.b6 1 ((.string ⟨#[]⟩)) rfl
  have N:=blk_free C.out.b6 1
  have z2:=blk_cell C.out.b4 2 (.slice none 0 0) rfl
  have O:=blk_free C.out.b4 2
  have y2:=blk_cell C.out.b6 2 ((.slice none 0 0)) rfl
  have S:=blk_free C.out.b6 2
  have z3:=blk_cell C.out.b4 3 (.slice none 0 0) rfl
  have M:=blk_free C.out.b4 3
  have y3:=blk_cell C.out.b6 3 ((.slice none 0 0)) rfl
  have U:=blk_free C.out.b6 3
  have z4:=blk_cell C.out.b4 4 (.int .i64 0) rfl
  have W:=blk_free C.out.b4 4
  have y4:=blk_cell C.out.b6 4 ((.int .i64 D.at_)) rfl
  have P:=blk_free C.out.b6 4
  have aB:=QA ((C.out.put 0 (.int .i64 3)).put 1 (.string ⟨D.text.toArray⟩))
  go_wp2_with fail
  have J:=(aB).out.fin (cs:=[.int .i64 3,.string ⟨D.text.toArray⟩,.slice none 0 0,.slice none 0 0,.int .i64 D.at_]) (leaf_reads _ 3 D.at_ D.text) (fun x hx=>hx.elim)
  simp only[putCells,QY,Nat.zero_add] at J
  refine bodyPost_ret (v:=.agg ([.int .i64 3,.string ⟨D.text.toArray⟩,.slice none 0 0,.slice none 0 0,.int .i64 D.at_]).toArray) (by simp[results,Tryz.results39,go_sem,z0,z1,z2,z3,z4,n1,n2,n3,n4,n5,n6,n7,n8]) rfl ?_
  rw[HE.out,← ai.out]
  exact ⟨_,rfl,J⟩
 have e3:=eqF (n:=D.kind) (k:=3) (by omega)
 have aN:Hid (¬ (Rd.peek s).kind=3):=by rw[← ai.out];exact QA hk3
 by_cases hk4:D.kind=4
 ·have e4:=eqT (n:=D.kind) (k:=4) (by omega)
  have HE:Hid (Rd.value fixed (n+1) s=(Rd.next s,.mk 4 (Rd.peek s).text [] [] (Rd.peek s).at_)):=by
   unfold Rd.value;dsimp only;rw[if_neg aA.out,if_neg aC.out,if_neg aF.out,if_neg aI.out,if_neg aN.out,if_pos (by rw[← ai.out];exact hk4)]
   exact QA rfl
  clear hk2 hk3 hk4
  go_wp2_with fail
  refine (rnext_any b g s wb F.out.rd).mono ?_
  rintro r wn ⟨rfl,hn5,fn5⟩
  rw[← ai.out]
  have C:=QA (F.out.step hn5 fn5)
  clear hn5 fn5
  clear k2 k3 a0 a1 a2 z0 R y0 Y z1 X y1 N z2 O y2 S z3 M y3 U z4 W y4 P
  have k2:=blk_cell C.out.b2 0 (.pointer (some ⟨b,0,none⟩)) rfl
  have k3:=blk_cell C.out.b3 0 (.bool fixed) rfl
  obtain ⟨a0,a1,a2⟩:=blk3 C.out.b5 rfl rfl rfl
  have z0:=blk_cell C.out.b4 0 (.int .i64 0) rfl
  have R:=blk_free C.out.b4 0
  have y0:=blk_cell C.out.b6 0 ((.int .i64 0)) rfl
  have Y:=blk_free C.out.b6 0
  have z1:=blk_cell C.out.b4 1 (.string ⟨#[]⟩) rfl
  have X:=blk_free C.out.b4 1
  have y1:=blk_cell C.out.b6 1 ((.string ⟨#[]⟩)) rfl
  have N:=blk_free C.out.b6 1
  have z2:=blk_cell C.out.b4 2 (.slice none 0 0) rfl
  have O:=blk_free C.out.b4 2
  have y2:=blk_cell C.out.b6 2 ((.slice none 0 0)) rfl
  have S:=blk_free C.out.b6 2
  have z3:=blk_cell C.out.b4 3 (.slice none 0 0) rfl
  have M:=blk_free C.out.b4 3
  have y3:=blk_cell C.out.b6 3 ((.slice none 0 0)) rfl
  have U:=blk_free C.out.b6 3
  have z4:=blk_cell C.out.b4 4 (.int .i64 0) rfl
  have W:=blk_free C.out.b4 4
  have y4:=blk_cell C.out.b6 4 ((.int .i64 D.at_)) rfl
  have P:=blk_free C.out.b6 4
  have aB:=QA ((C.out.put 0 (.int .i64 4)).put 1 (.string ⟨D.text.toArray⟩))
  go_wp2_with fail
  have J:=(aB).out.fin (cs:=[.int .i64 4,.string ⟨D.text.toArray⟩,.slice none 0 0,.slice none 0 0,.int .i64 D.at_]) (leaf_reads _ 4 D.at_ D.text) (fun x hx=>hx.elim)
  simp only[putCells,QY,Nat.zero_add] at J
  refine bodyPost_ret (v:=.agg ([.int .i64 4,.string ⟨D.text.toArray⟩,.slice none 0 0,.slice none 0 0,.int .i64 D.at_]).toArray) (by simp[results,Tryz.results39,go_sem,z0,z1,z2,z3,z4,n1,n2,n3,n4,n5,n6,n7,n8]) rfl ?_
  rw[HE.out,← ai.out]
  exact ⟨_,rfl,J⟩
 have e4:=eqF (n:=D.kind) (k:=4) (by omega)
 have a4:Hid (¬ (Rd.peek s).kind=4):=by rw[← ai.out];exact QA hk4
 clear hk2 hk3 hk4
 go_wp2_with fail
 refine (rword1_any b g s Rd.sNull _ wb F.out.rd).mono ?_
 rintro r wc ⟨rfl,hbc⟩
 have ab:=QA (F.out.below hbc)
 clear k2 k3 a0 a1 a2 z0 R y0 Y z1 X y1 N z2 O y2 S z3 M y3 U z4 W y4 P
 clear hbc e2 e3 e4
 obtain ⟨B4,bn⟩:∃ B,B=Rd.isW s [Rd.sNull]:=⟨_,rfl⟩
 have bl:=QA bn
 rw[← bn]
 clear bn
 have k2:=blk_cell ab.out.b2 0 (.pointer (some ⟨b,0,none⟩)) rfl
 have k3:=blk_cell ab.out.b3 0 (.bool fixed) rfl
 obtain ⟨a0,a1,a2⟩:=blk3 ab.out.b5 rfl rfl rfl
 have z0:=blk_cell ab.out.b4 0 (.int .i64 0) rfl
 have R:=blk_free ab.out.b4 0
 have y0:=blk_cell ab.out.b6 0 ((.int .i64 0)) rfl
 have Y:=blk_free ab.out.b6 0
 have z1:=blk_cell ab.out.b4 1 (.string ⟨#[]⟩) rfl
 have X:=blk_free ab.out.b4 1
 have y1:=blk_cell ab.out.b6 1 ((.string ⟨#[]⟩)) rfl
 have N:=blk_free ab.out.b6 1
 have z2:=blk_cell ab.out.b4 2 (.slice none 0 0) rfl
 have O:=blk_free ab.out.b4 2
 have y2:=blk_cell ab.out.b6 2 ((.slice none 0 0)) rfl
 have S:=blk_free ab.out.b6 2
 have z3:=blk_cell ab.out.b4 3 (.slice none 0 0) rfl
 have M:=blk_free ab.out.b4 3
 have y3:=blk_cell ab.out.b6 3 ((.slice none 0 0)) rfl
 have U:=blk_free ab.out.b6 3
 have z4:=blk_cell ab.out.b4 4 (.int .i64 0) rfl
 have W:=blk_free ab.out.b4 4
 have y4:=blk_cell ab.out.b6 4 ((.int .i64 D.at_)) rfl
 have P:=blk_free ab.out.b6 4
 cases B4
 rotate_left
 ·-- null
  have HE:Hid (Rd.value fixed (n+1) s=(Rd.next s,.mk 6 [] [] [] (Rd.peek s).at_)):=by
   unfold Rd.value;dsimp only;rw[if_neg aA.out,if_neg aC.out,if_neg aF.out,if_neg aI.out,if_neg aN.out,if_neg a4.out,if_pos bl.out.symm]
   exact QA rfl
  go_wp2_with fail
  refine (rnext_any b g s _ ((ab.out.put 0 (.int .i64 6)).rd)).mono ?_
  rintro r wn ⟨rfl,hn5,fn5⟩
  have C:Hid (VI w b g t5 t6 fixed D #[.int .i64 6,.string ⟨#[]⟩,.slice none 0 0,.slice none 0 0,.int .i64 D.at_] (Rd.next s) wn):=QA ((ab.out.put 0 (.int .i64 6)).step hn5 fn5)
  clear hn5 fn5
  clear k2 k3 a0 a1 a2 z0 R y0 Y z1 X y1 N z2 O y2 S z3 M y3 U z4 W y4 P
  have k2:=blk_cell C.out.b2 0 (.pointer (some ⟨b,0,none⟩)) rfl
  have k3:=blk_cell C.out.b3 0 (.bool fixed) rfl
  obtain ⟨a0,a1,a2⟩:=blk3 C.out.b5 rfl rfl rfl
  have z0:=blk_cell C.out.b4 0 (.int .i64 0) rfl
  have R:=blk_free C.out.b4 0
  have y0:=blk_cell C.out.b6 0 ((.int .i64 6)) rfl
  have Y:=blk_free C.out.b6 0
  have z1:=blk_cell C.out.b4 1 (.string ⟨#[]⟩) rfl
  have X:=blk_free C.out.b4 1
  have y1:=blk_cell C.out.b6 1 ((.string ⟨#[]⟩)) rfl
  have N:=blk_free C.out.b6 1
  have z2:=blk_cell C.out.b4 2 (.slice none 0 0) rfl
  have O:=blk_free C.out.b4 2
  have y2:=blk_cell C.out.b6 2 ((.slice none 0 0)) rfl
  have S:=blk_free C.out.b6 2
  have z3:=blk_cell C.out.b4 3 (.slice none 0 0) rfl
  have M:=blk_free C.out.b4 3
  have y3:=blk_cell C.out.b6 3 ((.slice none 0 0)) rfl
  have U:=blk_free C.out.b6 3
  have z4:=blk_cell C.out.b4 4 (.int .i64 0) rfl
  have W:=blk_free C.out.b4 4
  have y4:=blk_cell C.out.b6 4 ((.int .i64 D.at_)) rfl
  have P:=blk_free C.out.b6 4
  go_wp2_with fail
  have J:=(C).out.fin (cs:=[.int .i64 6,.string ⟨#[]⟩,.slice none 0 0,.slice none 0 0,.int .i64 D.at_]) (leaf_reads _ 6 D.at_ []) (fun x hx=>hx.elim)
  simp only[putCells,QY,Nat.zero_add] at J
  refine bodyPost_ret (v:=.agg ([.int .i64 6,.string ⟨#[]⟩,.slice none 0 0,.slice none 0 0,.int .i64 D.at_]).toArray) (by simp[results,Tryz.results39,go_sem,z0,z1,z2,z3,z4,n1,n2,n3,n4,n5,n6,n7,n8]) rfl ?_
  rw[HE.out,← ai.out]
  exact ⟨_,rfl,J⟩
 have bf:Hid (¬ Rd.isW s [Rd.sNull]=true):=by rw[← bl.out];exact QA (by simp)
 clear bl
 go_wp2_with fail
 refine (rword2_any b g s Rd.sTrue Rd.sFalse _ wc ab.out.rd).mono ?_
 rintro r wd ⟨rfl,hbd⟩
 have aa:=QA (ab.out.below hbd)
 clear k2 k3 a0 a1 a2 z0 R y0 Y z1 X y1 N z2 O y2 S z3 M y3 U z4 W y4 P
 clear hbd
 obtain ⟨B5,bb⟩:∃ B,B=Rd.isW s [Rd.sTrue,Rd.sFalse]:=⟨_,rfl⟩
 have bm:=QA bb
 rw[← bb]
 clear bb
 have k2:=blk_cell aa.out.b2 0 (.pointer (some ⟨b,0,none⟩)) rfl
 have k3:=blk_cell aa.out.b3 0 (.bool fixed) rfl
 obtain ⟨a0,a1,a2⟩:=blk3 aa.out.b5 rfl rfl rfl
 have z0:=blk_cell aa.out.b4 0 (.int .i64 0) rfl
 have R:=blk_free aa.out.b4 0
 have y0:=blk_cell aa.out.b6 0 ((.int .i64 0)) rfl
 have Y:=blk_free aa.out.b6 0
 have z1:=blk_cell aa.out.b4 1 (.string ⟨#[]⟩) rfl
 have X:=blk_free aa.out.b4 1
 have y1:=blk_cell aa.out.b6 1 ((.string ⟨#[]⟩)) rfl
 have N:=blk_free aa.out.b6 1
 have z2:=blk_cell aa.out.b4 2 (.slice none 0 0) rfl
 have O:=blk_free aa.out.b4 2
 have y2:=blk_cell aa.out.b6 2 ((.slice none 0 0)) rfl
 have S:=blk_free aa.out.b6 2
 have z3:=blk_cell aa.out.b4 3 (.slice none 0 0) rfl
 have M:=blk_free aa.out.b4 3
 have y3:=blk_cell aa.out.b6 3 ((.slice none 0 0)) rfl
 have U:=blk_free aa.out.b6 3
 have z4:=blk_cell aa.out.b4 4 (.int .i64 0) rfl
 have W:=blk_free aa.out.b4 4
 have y4:=blk_cell aa.out.b6 4 ((.int .i64 D.at_)) rfl
 have P:=blk_free aa.out.b6 4
 cases B5
 rotate_left
 ·-- true,false
  have HE:Hid (Rd.value fixed (n+1) s=(Rd.next s,.mk 5 (Rd.peek s).text [] [] (Rd.peek s).at_)):=by
   unfold Rd.value;dsimp only;rw[if_neg aA.out,if_neg aC.out,if_neg aF.out,if_neg aI.out,if_neg aN.out,if_neg a4.out,if_neg bf.out,if_pos bm.out.symm]
   exact QA rfl
  go_wp2_with fail
  refine (rnext_any b g s wd aa.out.rd).mono ?_
  rintro r wn ⟨rfl,hn5,fn5⟩
  rw[← ai.out]
  have C:=QA (aa.out.step hn5 fn5)
  clear hn5 fn5
  clear k2 k3 a0 a1 a2 z0 R y0 Y z1 X y1 N z2 O y2 S z3 M y3 U z4 W y4 P
  have k2:=blk_cell C.out.b2 0 (.pointer (some ⟨b,0,none⟩)) rfl
  have k3:=blk_cell C.out.b3 0 (.bool fixed) rfl
  obtain ⟨a0,a1,a2⟩:=blk3 C.out.b5 rfl rfl rfl
  have z0:=blk_cell C.out.b4 0 (.int .i64 0) rfl
  have R:=blk_free C.out.b4 0
  have y0:=blk_cell C.out.b6 0 ((.int .i64 0)) rfl
  have Y:=blk_free C.out.b6 0
  have z1:=blk_cell C.out.b4 1 (.string ⟨#[]⟩) rfl
  have X:=blk_free C.out.b4 1
  have y1:=blk_cell C.out.b6 1 ((.string ⟨#[]⟩)) rfl
  have N:=blk_free C.out.b6 1
  have z2:=blk_cell C.out.b4 2 (.slice none 0 0) rfl
  have O:=blk_free C.out.b4 2
  have y2:=blk_cell C.out.b6 2 ((.slice none 0 0)) rfl
  have S:=blk_free C.out.b6 2
  have z3:=blk_cell C.out.b4 3 (.slice none 0 0) rfl
  have M:=blk_free C.out.b4 3
  have y3:=blk_cell C.out.b6 3 ((.slice none 0 0)) rfl
  have U:=blk_free C.out.b6 3
  have z4:=blk_cell C.out.b4 4 (.int .i64 0) rfl
  have W:=blk_free C.out.b4 4
  have y4:=blk_cell C.out.b6 4 ((.int .i64 D.at_)) rfl
  have P:=blk_free C.out.b6 4
  have aB:=QA ((C.out.put 0 (.int .i64 5)).put 1 (.string ⟨D.text.toArray⟩))
  go_wp2_with fail
  have J:=(aB).out.fin (cs:=[.int .i64 5,.string ⟨D.text.toArray⟩,.slice none 0 0,.slice none 0 0,.int .i64 D.at_]) (leaf_reads _ 5 D.at_ D.text) (fun x hx=>hx.elim)
  simp only[putCells,QY,Nat.zero_add] at J
  refine bodyPost_ret (v:=.agg ([.int .i64 5,.string ⟨D.text.toArray⟩,.slice none 0 0,.slice none 0 0,.int .i64 D.at_]).toArray) (by simp[results,Tryz.results39,go_sem,z0,z1,z2,z3,z4,n1,n2,n3,n4,n5,n6,n7,n8]) rfl ?_
  rw[HE.out,← ai.out]
  exact ⟨_,rfl,J⟩
 have bv:Hid (¬ Rd.isW s [Rd.sTrue,Rd.sFalse]=true):=by rw[← bm.out];exact QA (by simp)
 clear bm
 go_wp2_with fail
 refine (rword0_any b g s wd aa.out.rd).mono ?_
 rintro r we ⟨rfl,hbe⟩
 have Z:=QA (aa.out.below hbe)
 clear k2 k3 a0 a1 a2 z0 R y0 Y z1 X y1 N z2 O y2 S z3 M y3 U z4 W y4 P
 clear hbe
 obtain ⟨B6,br⟩:∃ B,B=Rd.isN s:=⟨_,rfl⟩
 have bz:=QA br
 rw[← br]
 clear br
 have k2:=blk_cell Z.out.b2 0 (.pointer (some ⟨b,0,none⟩)) rfl
 have k3:=blk_cell Z.out.b3 0 (.bool fixed) rfl
 obtain ⟨a0,a1,a2⟩:=blk3 Z.out.b5 rfl rfl rfl
 have z0:=blk_cell Z.out.b4 0 (.int .i64 0) rfl
 have R:=blk_free Z.out.b4 0
 have y0:=blk_cell Z.out.b6 0 ((.int .i64 0)) rfl
 have Y:=blk_free Z.out.b6 0
 have z1:=blk_cell Z.out.b4 1 (.string ⟨#[]⟩) rfl
 have X:=blk_free Z.out.b4 1
 have y1:=blk_cell Z.out.b6 1 ((.string ⟨#[]⟩)) rfl
 have N:=blk_free Z.out.b6 1
 have z2:=blk_cell Z.out.b4 2 (.slice none 0 0) rfl
 have O:=blk_free Z.out.b4 2
 have y2:=blk_cell Z.out.b6 2 ((.slice none 0 0)) rfl
 have S:=blk_free Z.out.b6 2
 have z3:=blk_cell Z.out.b4 3 (.slice none 0 0) rfl
 have M:=blk_free Z.out.b4 3
 have y3:=blk_cell Z.out.b6 3 ((.slice none 0 0)) rfl
 have U:=blk_free Z.out.b6 3
 have z4:=blk_cell Z.out.b4 4 (.int .i64 0) rfl
 have W:=blk_free Z.out.b4 4
 have y4:=blk_cell Z.out.b6 4 ((.int .i64 D.at_)) rfl
 have P:=blk_free Z.out.b6 4
 cases B6
 rotate_left
 ·-- a name
  have HE:Hid (Rd.value fixed (n+1) s=(Rd.next s,.mk 7 (Rd.peek s).text [] [] (Rd.peek s).at_)):=by
   unfold Rd.value;dsimp only;rw[if_neg aA.out,if_neg aC.out,if_neg aF.out,if_neg aI.out,if_neg aN.out,if_neg a4.out,if_neg bf.out,if_neg bv.out,if_pos bz.out.symm]
   exact QA rfl
  go_wp2_with fail
  refine (rnext_any b g s we Z.out.rd).mono ?_
  rintro r wn ⟨rfl,hn5,fn5⟩
  rw[← ai.out]
  have C:=QA (Z.out.step hn5 fn5)
  clear hn5 fn5
  clear k2 k3 a0 a1 a2 z0 R y0 Y z1 X y1 N z2 O y2 S z3 M y3 U z4 W y4 P
  have k2:=blk_cell C.out.b2 0 (.pointer (some ⟨b,0,none⟩)) rfl
  have k3:=blk_cell C.out.b3 0 (.bool fixed) rfl
  obtain ⟨a0,a1,a2⟩:=blk3 C.out.b5 rfl rfl rfl
  have z0:=blk_cell C.out.b4 0 (.int .i64 0) rfl
  have R:=blk_free C.out.b4 0
  have y0:=blk_cell C.out.b6 0 ((.int .i64 0)) rfl
  have Y:=blk_free C.out.b6 0
  have z1:=blk_cell C.out.b4 1 (.string ⟨#[]⟩) rfl
  have X:=blk_free C.out.b4 1
  have y1:=blk_cell C.out.b6 1 ((.string ⟨#[]⟩)) rfl
  have N:=blk_free C.out.b6 1
  have z2:=blk_cell C.out.b4 2 (.slice none 0 0) rfl
  have O:=blk_free C.out.b4 2
  have y2:=blk_cell C.out.b6 2 ((.slice none 0 0)) rfl
  have S:=blk_free C.out.b6 2
  have z3:=blk_cell C.out.b4 3 (.slice none 0 0) rfl
  have M:=blk_free C.out.b4 3
  have y3:=blk_cell C.out.b6 3 ((.slice none 0 0)) rfl
  have U:=blk_free C.out.b6 3
  have z4:=blk_cell C.out.b4 4 (.int .i64 0) rfl
  have W:=blk_free C.out.b4 4
  have y4:=blk_cell C.out.b6 4 ((.int .i64 D.at_)) rfl
  have P:=blk_free C.out.b6 4
  have aB:=QA ((C.out.put 0 (.int .i64 7)).put 1 (.string ⟨D.text.toArray⟩))
  go_wp2_with fail
  have J:=(aB).out.fin (cs:=[.int .i64 7,.string ⟨D.text.toArray⟩,.slice none 0 0,.slice none 0 0,.int .i64 D.at_]) (leaf_reads _ 7 D.at_ D.text) (fun x hx=>hx.elim)
  simp only[putCells,QY,Nat.zero_add] at J
  refine bodyPost_ret (v:=.agg ([.int .i64 7,.string ⟨D.text.toArray⟩,.slice none 0 0,.slice none 0 0,.int .i64 D.at_]).toArray) (by simp[results,Tryz.results39,go_sem,z0,z1,z2,z3,z4,n1,n2,n3,n4,n5,n6,n7,n8]) rfl ?_
  rw[HE.out,← ai.out]
  exact ⟨_,rfl,J⟩
 ·-- nothing that fits
  have HE:Hid (Rd.value fixed (n+1) s=(Rd.wrong s,.mk 0 [] [] [] (Rd.peek s).at_)):=by
   unfold Rd.value;dsimp only;rw[if_neg aA.out,if_neg aC.out,if_neg aF.out,if_neg aI.out,if_neg aN.out,if_neg a4.out,if_neg bf.out,if_neg bv.out,if_neg (by rw[← bz.out];simp)]
   exact QA rfl
  go_wp2_with fail
  refine (rwrong_any b g s we Z.out.rd).mono ?_
  rintro r wn ⟨rfl,hn5,fn5⟩
  have C:=QA (Z.out.step hn5 fn5)
  clear hn5 fn5
  clear k2 k3 a0 a1 a2 z0 R y0 Y z1 X y1 N z2 O y2 S z3 M y3 U z4 W y4 P
  have k2:=blk_cell C.out.b2 0 (.pointer (some ⟨b,0,none⟩)) rfl
  have k3:=blk_cell C.out.b3 0 (.bool fixed) rfl
  obtain ⟨a0,a1,a2⟩:=blk3 C.out.b5 rfl rfl rfl
  have z0:=blk_cell C.out.b4 0 (.int .i64 0) rfl
  have R:=blk_free C.out.b4 0
  have y0:=blk_cell C.out.b6 0 ((.int .i64 0)) rfl
  have Y:=blk_free C.out.b6 0
  have z1:=blk_cell C.out.b4 1 (.string ⟨#[]⟩) rfl
  have X:=blk_free C.out.b4 1
  have y1:=blk_cell C.out.b6 1 ((.string ⟨#[]⟩)) rfl
  have N:=blk_free C.out.b6 1
  have z2:=blk_cell C.out.b4 2 (.slice none 0 0) rfl
  have O:=blk_free C.out.b4 2
  have y2:=blk_cell C.out.b6 2 ((.slice none 0 0)) rfl
  have S:=blk_free C.out.b6 2
  have z3:=blk_cell C.out.b4 3 (.slice none 0 0) rfl
  have M:=blk_free C.out.b4 3
  have y3:=blk_cell C.out.b6 3 ((.slice none 0 0)) rfl
  have U:=blk_free C.out.b6 3
  have z4:=blk_cell C.out.b4 4 (.int .i64 0) rfl
  have W:=blk_free C.out.b4 4
  have y4:=blk_cell C.out.b6 4 ((.int .i64 D.at_)) rfl
  have P:=blk_free C.out.b6 4
  go_wp2_with fail
  have J:=(C).out.fin (cs:=[.int .i64 0,.string ⟨#[]⟩,.slice none 0 0,.slice none 0 0,.int .i64 D.at_]) (leaf_reads _ 0 D.at_ []) (fun x hx=>hx.elim)
  simp only[putCells,QY,Nat.zero_add] at J
  refine bodyPost_ret (v:=.agg ([.int .i64 0,.string ⟨#[]⟩,.slice none 0 0,.slice none 0 0,.int .i64 D.at_]).toArray) (by simp[results,Tryz.results39,go_sem,z0,z1,z2,z3,z4,n1,n2,n3,n4,n5,n6,n7,n8]) rfl ?_
  rw[HE.out,← ai.out]
  exact ⟨_,rfl,J⟩
end Go.Proofs.YtefjgpkpplkkgaaGreatDoor
