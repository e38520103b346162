/-
  The reader: how it lies in memory; Peek, Fail, Wrong, Next, walked. The reader: Is, Word, walked. The reader: Take, Want, Name, End, Down, Up, Some, walked. The reader: Type, walked. The lexer's 'Quote', walked.
-/
import Derived.Test.YtefjgpkpplkkgaaGreatDoorZp1
import Derived.Test.YtefjgpkpplkkgaaGreatDoorZp9
import Derived.Test.YtefjgpkpplkkgaaGreatDoorZp5
import Derived.Test.YtefjgpkpplkkgaaGreatDoorZp6
import Derived.Deep.LoopGhost
import Derived.Test.YtefjgpkpplkkgaaGreatDoorZp8
import Derived.Test.YtefjgpkpplkkgaaGreatDoorZp7
open Go.Lib renaming hid → QA
open List renaming length_append → QT, drop_eq_getElem_cons → ZE, append_assoc → ZH, getElem?_eq_getElem → ZJ
open Nat renaming le_refl → QM
namespace Go.Proofs.YtefjgpkpplkkgaaGreatDoor
set_option linter.unusedSimpArgs false
set_option linter.unusedVariables false
open Go Go.RowKit
@[go_sem high] theorem field_tok0 (x y z : Value) (w : World) : (Instr.field 136 (.agg #[x, y, z]) 0).run Tryz.prog w = .ok x w := by kernel_rfl
@[go_sem high] theorem field_tok1 (x y z : Value) (w : World) : (Instr.field 136 (.agg #[x, y, z]) 1).run Tryz.prog w = .ok y w := by kernel_rfl
@[go_sem high] theorem field_tok2 (x y z : Value) (w : World) : (Instr.field 136 (.agg #[x, y, z]) 2).run Tryz.prog w = .ok z w := by kernel_rfl
theorem tok_stored (w:World) (T:TypeId) (x y z k t a:Value) (n m:Nat) :
  ((((((w.alloc (.cells #[x,y,z] T)).drewN n).setCell ⟨w.heap.size,0,none⟩ k).setCell ⟨w.heap.size,1,none⟩ t).setCell ⟨w.heap.size,2,none⟩ a).drewN m)=(w.alloc (.cells #[k,t,a] T)).drewN (n+m):=by
 have o:∀ (v:World) (p:Addr) (u:Value),(v.drewN n).setCell p u=(v.setCell p u).drewN n:=fun _ _ _=>rfl
 rw[o,o,o,drewN_add,World.setCell_alloc_at _ _ _ _ _ rfl,World.setCell_alloc_at _ _ _ _ _ rfl,World.setCell_alloc_at _ _ _ _ _ rfl]
 rfl
structure TsOk (ts:List Lx.Tok):Prop where
 len:ts.length≤1501
 last:∀ t,ts[ts.length-1]?=some t→t.kind=0
 kind:∀ t∈ts,t.kind≤5
 size:∀ t∈ts,t.text.length≤1000000000
 at_:∀ t∈ts,t.at_≤4096
structure RdAt (w:World) (b g:Nat) (s:Rd.St):Prop where
 ex:∃ (T:TypeId) (cap:Nat) (ts:List Lx.Tok) (i:Nat),w.heap[b]?=some (.cells #[.slice (some ⟨g,0,none⟩) ts.length cap,.int .i64 i,.int .i64 s.deep,.int .i64 s.at_,.int .i64 s.err] T (0,0)) ∧
  TokRow w g ts∧s.rest=ts.drop i∧i<ts.length∧TsOk ts
 ne:g≠b
section
variable {w w' : World} {b g : Nat} {s : Rd.St}
theorem RdAt.lt (h:RdAt w b g s):b<w.heap.size∧g<w.heap.size:=by
 obtain ⟨⟨T,B,D,i,o,A,E,F,C⟩,_⟩:=h
 exact ⟨block_lt o,A.lt⟩
theorem TokRow.heap {w w':World} {g:Nat} {ts:List Lx.Tok} (h:TokRow w g ts) (hs:w.heap.size≤w'.heap.size) (he:w'.heap[g]?=w.heap[g]?):TokRow w' g ts:=by
 have e:∀ k,w'.cell? ⟨g,k,none⟩=w.cell? ⟨g,k,none⟩:=fun k=>World.cell?_of_block he
 exact ⟨Nat.lt_of_lt_of_le h.lt hs,fun i t x=>(e _).trans (h.kind i t x),fun i t x=>(e _).trans (h.text i t x),fun i t x=>(e _).trans (h.at_ i t x)⟩
theorem RdAt.to (h:RdAt w b g s) (hs:w.heap.size≤w'.heap.size) (hb:w'.heap[b]?=w.heap[b]?) (hg:w'.heap[g]?=w.heap[g]?):RdAt w' b g s:=by
 obtain ⟨⟨T,o,E,i,B,D,F,G,C⟩,A⟩:=h
 exact ⟨⟨T,o,E,i,by rw[hb];exact B,D.heap hs hg,F,G,C⟩,A⟩
theorem RdAt.but {X:Nat→Prop} (h:RdAt w b g s) (hb:But X w w') (hX:∀ k,X k→k≠b∧k≠g):RdAt w' b g s :=
 h.to hb.size (hb.block b h.lt.1 (fun x=>(hX _ x).1 rfl)) (hb.block g h.lt.2 (fun x=>(hX _ x).2 rfl))
theorem RdAt.below (h:RdAt w b g s) (hb:Below w.heap.size w w'):RdAt w' b g s:=h.to hb.size (hb.block b h.lt.1) (hb.block g h.lt.2)
theorem RdAt.drewN (h:RdAt w b g s) (n:Nat):RdAt (w.drewN n) b g s:=h.to (QM _) rfl rfl
theorem rest_head {ts l:List Lx.Tok} {i:Nat} (h:l=ts.drop i) (hi:i<ts.length):∃ t r,l=t::r∧ts[i]?=some t∧r=ts.drop (i+1) :=
 ⟨ts[i],ts.drop (i+1),by rw[h,ZE hi],ZJ hi,rfl⟩
theorem RdAt.open_ (h:RdAt w b g s):∃ (cap n i:Nat),w.cell? ⟨b,0,none⟩=some (.slice (some ⟨g,0,none⟩) n cap)∧w.cell? ⟨b,1,none⟩=some (.int .i64 i)∧i<n∧n≤1501 ∧
  w.cell? ⟨g,i*3,none⟩=some (.int .i64 (Rd.peek s).kind)∧w.cell? ⟨g,i*3+1,none⟩=some (.string ⟨(Rd.peek s).text.toArray⟩)∧w.cell? ⟨g,i*3+2,none⟩=some (.int .i64 (Rd.peek s).at_):=by
 obtain ⟨⟨T,cap,F,i,C,A,G,D,E⟩,I⟩:=h
 obtain ⟨t,r,H,B,J⟩:=rest_head G D
 have o:Rd.peek s=t:=by unfold Rd.peek;rw[H];rfl
 refine ⟨cap,F.length,i,by simp[World.cell?,C],by simp[World.cell?,C],D,E.len,?_,?_,?_⟩
 ·rw[o,Nat.mul_comm];exact A.kind i t B
 ·rw[o,Nat.mul_comm];exact A.text i t B
 ·rw[o,Nat.mul_comm];exact A.at_ i t B
theorem RdAt.c2 (h:RdAt w b g s):w.cell? ⟨b,2,none⟩=some (.int .i64 s.deep):=by
 obtain ⟨⟨T,A,B,i,o,_⟩,_⟩:=h
 simp[World.cell?,o]
theorem RdAt.c3 (h:RdAt w b g s):w.cell? ⟨b,3,none⟩=some (.int .i64 s.at_):=by
 obtain ⟨⟨T,A,B,i,o,_⟩,_⟩:=h
 simp[World.cell?,o]
theorem RdAt.c4 (h:RdAt w b g s):w.cell? ⟨b,4,none⟩=some (.int .i64 s.err):=by
 obtain ⟨⟨T,A,B,i,o,_⟩,_⟩:=h
 simp[World.cell?,o]
theorem RdAt.fz (h:RdAt w b g s) (k:Nat):w.frozen? ⟨b,k,none⟩=false:=by
 obtain ⟨⟨T,A,B,i,o,_⟩,_⟩:=h
 simp[World.frozen?,o]
theorem heap_set1 {w:World} {b:Nat} {cs:Array Value} {T:TypeId} {fz:Nat×Nat} {k:Nat} {v:Value} (h:w.heap[b]?=some (.cells cs T fz)):(w.setCell ⟨b,k,none⟩ v).heap[b]?=some (.cells (cs.setIfInBounds k v) T fz):=by
 simp[World.setCell,Array.getElem?_modify,h]
theorem heap_set_ne {w:World} {b k c:Nat} {v:Value} (h:c≠b):(w.setCell ⟨b,k,none⟩ v).heap[c]?=w.heap[c]?:=Below.heap_setCell _ _ _ _ (fun e=>h e)
theorem size_set {w:World} {p:Addr} {v:Value}:(w.setCell p v).heap.size=w.heap.size:=by simp[World.setCell]
theorem RdAt.set_ne (h:RdAt w b g s) {c:Nat} (hb:b≠c) (hg:g≠c) (k:Nat) (v:Value):RdAt (w.setCell ⟨c,k,none⟩ v) b g s :=
 h.to (by rw[size_set];exact QM _) (heap_set_ne hb) (heap_set_ne hg)
theorem RdAt.failed (h:RdAt w b g s) (hs:s.err=0) (e:Nat):RdAt ((w.setCell ⟨b,4,none⟩ (.int .i64 e)).setCell ⟨b,3,none⟩ (.int .i64 (Rd.peek s).at_)) b g (Rd.fail e s):=by
 obtain ⟨⟨T,A,E,i,B,D,F,G,C⟩,o⟩:=h
 unfold Rd.fail
 rw[if_pos hs]
 have H:=heap_set1 (k:=3) (v:=.int .i64 (Rd.peek s).at_) (heap_set1 (k:=4) (v:=.int .i64 e) B)
 exact ⟨⟨T,A,E,i,by rw[H];rfl,D.heap (by rw[size_set,size_set];exact QM _) (by rw[heap_set_ne o,heap_set_ne o]),F,G,C⟩,o⟩
theorem RdAt.nexted (h:RdAt w b g s) (hs:s.err=0) (hk:(Rd.peek s).kind≠0) {i:Nat} (hi:w.cell? ⟨b,1,none⟩=some (.int .i64 i)):RdAt (w.setCell ⟨b,1,none⟩ (.int .i64 (i+1))) b g (Rd.next s):=by
 obtain ⟨⟨T,C,o,j,F,M,N,J,E⟩,D⟩:=h
 have A:(i:Int)=j:=by
  simp[World.cell?,F] at hi
  exact hi.symm
 obtain ⟨t,r,G,I,H⟩:=rest_head N J
 have L:Rd.peek s=t:=by unfold Rd.peek;rw[G];rfl
 unfold Rd.next
 rw[if_pos ⟨hs,hk⟩]
 have B:j+1<o.length:=by
  rcases Nat.lt_or_ge (j+1) o.length with h|h
  ·exact h
  ·have:=E.last t (by rw[show o.length-1=j by omega];exact I)
   rw[L] at hk
   exact absurd this hk
 have K:=heap_set1 (k:=1) (v:=.int .i64 (i+1)) F
 exact ⟨⟨T,C,o,j+1,by rw[K,A];rfl,M.heap (by rw[size_set];exact QM _) (by rw[heap_set_ne D]),by show s.rest.drop 1=_;rw[G,H];rfl,B,E⟩,D⟩
end
set_option maxRecDepth 100000 in
theorem rpeek_any (b g:Nat) (s:Rd.St) (w:World) (h:RdAt w b g s) :
  Calls Tryz.prog 72 #[.pointer (some ⟨b,0,none⟩)] w fun e w'=>e=.returned (.agg #[.int .i64 (Rd.peek s).kind,.string ⟨(Rd.peek s).text.toArray⟩,.int .i64 (Rd.peek s).at_])∧Below w.heap.size w w':=by
 obtain ⟨C,n,i,F,k1,hi,D,G,E,I⟩:=h.open_
 have B:=h.lt
 have A:(0:Int)≤(i:Int):=Int.natCast_nonneg _
 have o:(i:Int)<(n:Int):=by omega
 have H:=QA h
 clear h
 go_enter Tryz.func72,Tryz.ntmps72
 go_wp2_with fail
 refine wp_region_cuts [10] (by kernel_rfl) (by kernel_rfl) ?_;simp only[wpMix,List.take_succ_cons,List.take_zero,List.drop_succ_cons,List.drop_zero,Nat.sub_zero,Nat.reduceSub,Nat.reduceAdd]
 repeat (go_big_quiet_step (fail))
 refine wpQuiet_nil ?_;rintro _ ⟨nq,rfl⟩
 go_wp2
 repeat (go_big_quiet_step (fail))
 refine wpQuiet_nil ?_
 rintro _ ⟨nr,rfl⟩
 rw[tok_stored]
 go_wp2
 refine bodyPost_ret (v:=.agg #[.int .i64 (Rd.peek s).kind,.string ⟨(Rd.peek s).text.toArray⟩,.int .i64 (Rd.peek s).at_]) (by simp[results,Tryz.results72,go_sem]) rfl ⟨rfl,?_⟩
 (repeat' (first|(with_reducible assumption)|(with_reducible exact Below.refl _ _)|(with_reducible refine Below.drewN ?_ _)|(with_reducible refine Below.drew ?_)|(with_reducible refine Below.alloc ?_ ?_ _)))<;>(simp;try omega)
set_option maxRecDepth 100000 in
theorem rfail_any (b g e:Nat) (s:Rd.St) (w:World) (h:RdAt w b g s) :
  Calls Tryz.prog 168 #[.pointer (some ⟨b,0,none⟩),.int .i64 e] w fun r w'=>r=.returned (.tuple #[])∧RdAt w' b g (Rd.fail e s)∧Fr b w w':=by
 have C:=h.c4
 have H:=QA h
 clear h
 go_enter Tryz.func168,Tryz.ntmps168
 by_cases hs:s.err=0
 ·have D:=eqT (n:=s.err) (k:=0) (by omega)
  go_wp2_with fail
  refine (rpeek_any b g s w H.out).mono ?_
  rintro r w1 ⟨rfl,hb1⟩
  have o:=H.out.below hb1
  have I:=o.c4
  have G:=o.c3
  have F:=o.fz 4
  have E:=o.fz 3
  have B:=QA o
  have A:=QA hb1
  clear o hb1 C
  go_wp2
  go_end0
  exact ⟨rfl,B.out.failed hs e,Fr.set (Fr.set (But.of_below A.out) _ _) _ _⟩
 ·have D:=eqF (n:=s.err) (k:=0) (by omega)
  go_wp2_with fail
  go_end0
  refine ⟨rfl,?_,But.refl _ _⟩
  unfold Rd.fail
  rw[if_neg hs]
  exact H.out
set_option maxRecDepth 100000 in
theorem rwrong_any (b g:Nat) (s:Rd.St) (w:World) (h:RdAt w b g s) :
  Calls Tryz.prog 97 #[.pointer (some ⟨b,0,none⟩)] w fun r w'=>r=.returned (.tuple #[])∧RdAt w' b g (Rd.wrong s)∧Fr b w w':=by
 have H:=QA h
 clear h
 go_enter Tryz.func97,Tryz.ntmps97
 go_wp2_with fail
 refine (rfail_any b g 41 s w H.out).mono ?_
 rintro r w1 ⟨rfl,h1,hf1⟩
 go_wp2_with fail
 go_end0
 exact ⟨rfl,h1,hf1⟩
structure TkB (w:World) (c:Nat) (t:Lx.Tok):Prop where
 c0:w.cell? ⟨c,0,none⟩=some (.int .i64 t.kind)
 c1:w.cell? ⟨c,1,none⟩=some (.string ⟨t.text.toArray⟩)
 c2:w.cell? ⟨c,2,none⟩=some (.int .i64 t.at_)
theorem tkb_new (w:World) (t:Lx.Tok) (T:TypeId):TkB (w.alloc (.cells #[.int .i64 t.kind,.string ⟨t.text.toArray⟩,.int .i64 t.at_] T)) w.heap.size t:=by
 exact ⟨cell_at_new _ _ _ _ _ _ rfl,cell_at_new _ _ _ _ _ _ rfl,cell_at_new _ _ _ _ _ _ rfl⟩
structure TkZ (w:World) (c:Nat):Prop where
 c0:w.cell? ⟨c,0,none⟩=some (.int .i64 0)
 c1:w.cell? ⟨c,1,none⟩=some (.string ⟨#[]⟩)
 c2:w.cell? ⟨c,2,none⟩=some (.int .i64 0)
 f0:w.frozen? ⟨c,0,none⟩=false
 f1:w.frozen? ⟨c,1,none⟩=false
 f2:w.frozen? ⟨c,2,none⟩=false
theorem tkb_zero (w:World) (T:TypeId):TkZ (w.alloc (.cells #[.int .i64 0,.string ⟨#[]⟩,.int .i64 0] T)) w.heap.size:=by
 exact ⟨cell_at_new _ _ _ _ _ _ rfl,cell_at_new _ _ _ _ _ _ rfl,cell_at_new _ _ _ _ _ _ rfl,frozen_at_new _ _ _ _,frozen_at_new _ _ _ _,frozen_at_new _ _ _ _⟩
theorem TkZ.below {w w':World} {c:Nat} (h:TkZ w c) (hc:c<w.heap.size) (hb:Below w.heap.size w w'):TkZ w' c:=by
 have e:=hb.block c hc
 have o:∀ k,w'.cell? ⟨c,k,none⟩=w.cell? ⟨c,k,none⟩:=fun k=>World.cell?_of_block e
 have A:∀ k,w'.frozen? ⟨c,k,none⟩=w.frozen? ⟨c,k,none⟩:=fun k=>World.frozen?_of_block e
 exact ⟨(o _).trans h.c0,(o _).trans h.c1,(o _).trans h.c2,(A _).trans h.f0,(A _).trans h.f1,(A _).trans h.f2⟩
set_option maxRecDepth 100000 in
theorem rnext_any (b g:Nat) (s:Rd.St) (w:World) (h:RdAt w b g s) :
  Calls Tryz.prog 98 #[.pointer (some ⟨b,0,none⟩)] w fun r w'=>r=.returned (.agg #[.int .i64 (Rd.peek s).kind,.string ⟨(Rd.peek s).text.toArray⟩,.int .i64 (Rd.peek s).at_])∧RdAt w' b g (Rd.next s)∧Fr b w w':=by
 have aa:=h.lt
 have H:=QA h
 clear h
 go_enter Tryz.func98,Tryz.ntmps98
 go_wp2_with fail
 have B:Below w.heap.size w (w.alloc (.cells #[.int .i64 0,.string ⟨#[]⟩,.int .i64 0] 136)):=(Below.refl _ _).alloc (QM _) _
 have V:=tkb_zero w 136
 refine (rpeek_any b g s _ (H.out.below B)).mono ?_
 rintro r w1 ⟨rfl,hb1⟩
 have K:=V.below (by simp) hb1
 have A:=B.trans (hb1.mono B.size)
 obtain ⟨o,G⟩:∃ t,t=Rd.peek s:=⟨_,rfl⟩
 have C:=QA G
 rw[← G]
 have F:Below w.heap.size w (w1.alloc (.cells #[.int .i64 o.kind,.string ⟨o.text.toArray⟩,.int .i64 o.at_] 136)):=A.alloc A.size _
 have X:=tkb_new w1 o 136
 have N:TkZ (w1.alloc (.cells #[.int .i64 o.kind,.string ⟨o.text.toArray⟩,.int .i64 o.at_] 136)) w.heap.size:=K.below (by have:=hb1.size;simp at this;omega) ((Below.refl _ _).alloc (QM _) _)
 have J:=H.out.below F
 have c4:=J.c4
 have f1:=J.fz 1
 obtain ⟨_,_,i,_,c1,_⟩:=J.open_
 obtain ⟨t0,t1,t2⟩:=X
 obtain ⟨T,P,S,y0,y1,y2⟩:=N
 have D:¬ b=w.heap.size:=by omega
 have U:¬ w.heap.size=b:=by omega
 have n3:¬ b=w1.heap.size:=by have:=A.size;omega
 have n4:¬ w1.heap.size=b:=by have:=A.size;omega
 have W:¬ w.heap.size=w1.heap.size:=by have:=hb1.size;simp at this;omega
 have n6:¬ w1.heap.size=w.heap.size:=fun e=>W e.symm
 have I:=QA F
 have R:=QA J
 clear F hb1 A G J V K B
 by_cases hnx:s.err=0∧o.kind≠0
 ·obtain ⟨L,M⟩:=hnx
  have Q:=eqT (n:=s.err) (k:=0) (by omega)
  have Y:=neT (n:=o.kind) (k:=0) (by omega)
  have O:Hid (s.err=0∧(Rd.peek s).kind≠0):=QA ⟨L,by rw[← C.out];exact M⟩
  clear L M
  go_wp2_with fail
  refine bodyPost_ret (v:=.agg #[.int .i64 o.kind,.string ⟨o.text.toArray⟩,.int .i64 o.at_]) (by simp[results,Tryz.results98,go_sem,T,P,S,D,U]) rfl ⟨by rw[C.out],?_,?_⟩
  ·exact (((R.out.nexted O.out.1 O.out.2 c1).set_ne D (by omega) _ _).set_ne D (by omega) _ _).set_ne D (by omega) _ _
  ·exact But.setCell (But.setCell (But.setCell (Fr.set (But.of_below I.out) _ _) (.inr (QM _)) _) (.inr (QM _)) _) (.inr (QM _)) _
 ·have Z:Hid (Rd.next s=s):=by
   unfold Rd.next
   rw[if_neg (by rw[← C.out];exact hnx)]
   exact QA rfl
  have E:(((s.err:Int)==0)=false)∨(((s.err:Int)==0)=true∧((o.kind:Int) != 0)=false):=by
   by_cases L:s.err=0
   ·refine .inr ⟨eqT (by omega),neF ?_⟩
    by_cases M:o.kind=0
    ·omega
    ·exact absurd ⟨L,M⟩ hnx
   ·exact .inl (eqF (by omega))
  clear hnx
  rcases E with Q|⟨Q,Y⟩
  all_goals
   go_wp2_with fail
   refine bodyPost_ret (v:=.agg #[.int .i64 o.kind,.string ⟨o.text.toArray⟩,.int .i64 o.at_]) (by simp[results,Tryz.results98,go_sem,T,P,S,D,U]) rfl ⟨by rw[C.out],?_,?_⟩
   ·rw[Z.out]
    exact ((R.out.set_ne D (by omega) _ _).set_ne D (by omega) _ _).set_ne D (by omega) _ _
   ·exact But.setCell (But.setCell (But.setCell (But.of_below I.out) (.inr (QM _)) _) (.inr (QM _)) _) (.inr (QM _)) _
def Txts (w:World) (v:Value) (ls:List (List UInt8)):Prop :=
 ∃ a cap,v=.slice a ls.length cap∧∀ (i:Nat) s,ls[i]?=some s→∃ b off,a=some ⟨b,off,none⟩∧b<w.heap.size∧w.cell? ⟨b,off+i,none⟩=some (.string ⟨s.toArray⟩)
theorem Txts.form {w:World} {v:Value} {ls:List (List UInt8)} (h:Txts w v ls):∃ a cap,v=.slice a ls.length cap:=by
 obtain ⟨a,cap,o,A⟩:=h
 exact ⟨a,cap,o⟩
theorem Txts.at {w:World} {a:Option Addr} {n cap:Nat} {ls:List (List UInt8)} (h:Txts w (.slice a n cap) ls) {i:Nat} {s:List UInt8} (hi:ls[i]?=some s) :
  ∃ b off,a=some ⟨b,off,none⟩∧b<w.heap.size∧w.cell? ⟨b,off+i,none⟩=some (.string ⟨s.toArray⟩):=by
 obtain ⟨E,o,A,B⟩:=h
 obtain ⟨b,off,e,C,D⟩:=B i s hi
 simp only[Value.slice.injEq] at A
 exact ⟨b,off,by rw[A.1,e],C,D⟩
theorem Txts.below {w w':World} {v:Value} {ls:List (List UInt8)} (h:Txts w v ls) (hb:Below w.heap.size w w'):Txts w' v ls:=by
 obtain ⟨a,A,C,D⟩:=h
 refine ⟨a,A,C,fun i s hi=>?_⟩
 obtain ⟨b,o,e,B,E⟩:=D i s hi
 exact ⟨b,o,e,Nat.lt_of_lt_of_le B hb.size,by rw[hb.cell (p:=⟨b,o+i,none⟩) B];exact E⟩
theorem Txts.nil (w:World):Txts w (.slice none 0 0) []:=⟨none,0,rfl,fun i s h=>by simp at h⟩
theorem txts_lit (w:World) (ls:List (List UInt8)) (cs:Array Value) (T:TypeId) (hc:cs=(ls.map fun s=>Value.string ⟨s.toArray⟩).toArray):Txts (w.alloc (.cells cs T)) (.slice (some ⟨w.heap.size,0,none⟩) ls.length ls.length) ls:=by
 subst hc
 refine ⟨_,_,rfl,fun i s hi=>⟨w.heap.size,0,rfl,by simp,?_⟩⟩
 rw[Nat.zero_add]
 exact cell_at_new _ _ _ _ _ _ (by simp[hi])
theorem any_split {ls:List (List UInt8)} {p:List UInt8→Bool} {j:Nat} {s:List UInt8} (h:ls[j]?=some s):(ls.drop j).any p=(p s||(ls.drop (j+1)).any p):=by
 obtain ⟨o,rfl⟩:=List.getElem?_eq_some_iff.1 h
 rw[ZE o,List.any_cons]
set_option maxHeartbeats 1000000 in
set_option maxRecDepth 100000 in
theorem ris_any (b g:Nat) (s:Rd.St) (v:Value) (ls:List (List UInt8)) (w:World) (h:RdAt w b g s) (hV:Txts w v ls) (hl:ls.length≤1000000) :
  Calls Tryz.prog 96 #[.pointer (some ⟨b,0,none⟩),v] w fun r w'=>r=.returned (.bool (ls.any (Rd.isS s)))∧Below w.heap.size w w':=by
 obtain ⟨va,vc,rfl⟩:=hV.form
 have H:=QA h
 have Y:=QA hV
 clear h hV
 go_enter Tryz.func96,Tryz.ntmps96
 go_wp2_with fail
 refine (rpeek_any b g s w H.out).mono ?_
 rintro r w1 ⟨rfl,hb1⟩
 obtain ⟨A,I⟩:∃ t,t=Rd.peek s:=⟨_,rfl⟩
 have F:=QA I
 rw[← I]
 obtain ⟨R,C⟩:∃ W,W=w1.alloc (.cells #[.int .i64 A.kind,.string ⟨A.text.toArray⟩,.int .i64 A.at_] 136):=⟨_,rfl⟩
 have G:Below w.heap.size w R:=by rw[C];exact hb1.alloc hb1.size _
 have S:=tkb_new w1 A 136
 rw[← C] at S
 have c4:=(H.out.below G).c4
 obtain ⟨t0,t1,t2⟩:=S
 have E:=QA G
 have T:=QA C
 clear G hb1 I C
 go_wp2_with fail
 rw[← T.out]
 go_loopg [12] ls.length (fun k s12 wr=>∃ j:Nat,j≤ls.length∧k=ls.length-j∧s12=.int .i64 (j:Nat)∧(ls.drop j).any (Rd.isS s)=ls.any (Rd.isS s)∧wr=R)
 case atStart=>exact ⟨0,Nat.zero_le _,rfl,rfl,rfl,rfl⟩
 case round =>
  obtain ⟨j,hj,Q,rfl,D,rfl⟩:=hrel
  have M:=QA Q
  have o:=QA D
  clear Q D
  have V:(0:Int)≤(j:Int):=Int.natCast_nonneg _
  by_cases hjn:j<ls.length
  ·have L:(j:Int)<(ls.length:Int):=by omega
   obtain ⟨c,P⟩:∃ c,ls[j]?=some c:=⟨_,ZJ hjn⟩
   obtain ⟨cb,Z,rfl,_,O⟩:=(Y.out.below E.out).at P
   have B:=QA (any_split (p:=Rd.isS s) P)
   clear P
   by_cases he:s.err=0
   ·have U:=eqT (n:=s.err) (k:=0) (by omega)
    by_cases hkd:A.kind=5
    ·have X:=eqT (n:=A.kind) (k:=5) (by omega)
     by_cases htx:A.text=c
     ·have K:(A.text==c)=true:=by rw[htx];simp
      have N:Hid (true=ls.any (Rd.isS s)):=by
       rw[← o.out,B.out]
       unfold Rd.isS
       rw[← F.out,he,hkd,htx]
       exact QA (by simp)
      clear htx he hkd
      go_wp2
      go_ret
      exact ⟨congrArg (fun b=>Ending.returned (.bool b)) N.out,E.out⟩
     ·have K:(A.text==c)=false:=by rw[beq_eq_false_iff_ne];exact htx
      have J:Hid (Rd.isS s c=false):=by
       unfold Rd.isS
       rw[← F.out,decide_eq_false htx,Bool.and_false]
       exact QA rfl
      clear htx he hkd
      go_wp2
      go_roundg (ls.length-(j+1))
      case measure=>rw[M.out];omega
      case rel=>exact ⟨j+1,hjn,rfl,by simp,by rw[← o.out,B.out,J.out,Bool.false_or],rfl⟩
    ·have X:=eqF (n:=A.kind) (k:=5) (by omega)
     have J:Hid (Rd.isS s c=false):=by
      unfold Rd.isS
      rw[← F.out,decide_eq_false hkd,Bool.and_false,Bool.false_and]
      exact QA rfl
     clear he hkd
     go_wp2
     go_roundg (ls.length-(j+1))
     case measure=>rw[M.out];omega
     case rel=>exact ⟨j+1,hjn,rfl,by simp,by rw[← o.out,B.out,J.out,Bool.false_or],rfl⟩
   ·have U:=eqF (n:=s.err) (k:=0) (by omega)
    have J:Hid (Rd.isS s c=false):=by
     unfold Rd.isS
     rw[decide_eq_false he,Bool.false_and,Bool.false_and]
     exact QA rfl
    clear he
    go_wp2
    go_roundg (ls.length-(j+1))
    case measure=>rw[M.out];omega
    case rel=>exact ⟨j+1,hjn,rfl,by simp,by rw[← o.out,B.out,J.out,Bool.false_or],rfl⟩
  ·have L:(ls.length:Int)≤(j:Int):=by omega
   have N:Hid (false=ls.any (Rd.isS s)):=by
    rw[← o.out,List.drop_of_length_le (by omega)]
    exact QA rfl
   go_wp2
   go_ret
   exact ⟨congrArg (fun b=>Ending.returned (.bool b)) N.out,E.out⟩
theorem ris1_any (b g:Nat) (s:Rd.St) (c:List UInt8) (T:TypeId) (w:World) (h:RdAt w b g s) :
  Calls Tryz.prog 96 #[.pointer (some ⟨b,0,none⟩),.slice (some ⟨w.heap.size,0,none⟩) 1 1] (w.alloc (.cells #[.string ⟨c.toArray⟩] T)) fun r w'=>r=.returned (.bool (Rd.isS s c))∧Below w.heap.size w w':=by
 have o:Below w.heap.size w (w.alloc (.cells #[.string ⟨c.toArray⟩] T)):=(Below.refl _ _).alloc (QM _) _
 refine (ris_any b g s _ [c] _ (h.below o) (txts_lit w [c] _ T rfl) (by simp)).mono ?_
 rintro r w' ⟨rfl,hb2⟩
 exact ⟨by simp,o.trans (hb2.mono o.size)⟩
set_option maxHeartbeats 1000000 in
set_option maxRecDepth 100000 in
theorem rword_any (b g:Nat) (s:Rd.St) (v:Value) (ls:List (List UInt8)) (w:World) (h:RdAt w b g s) (hV:Txts w v ls) (hl:ls.length≤1000000) :
  Calls Tryz.prog 106 #[.pointer (some ⟨b,0,none⟩),v] w fun r w'=>r=.returned (.bool (Rd.isW s ls))∧Below w.heap.size w w':=by
 obtain ⟨va,vc,rfl⟩:=hV.form
 have H:=QA h
 have HV:=QA hV
 clear h hV
 go_enter Tryz.func106,Tryz.ntmps106
 go_wp2_with fail
 refine (rpeek_any b g s w H.out).mono ?_
 rintro r w1 ⟨rfl,hb1⟩
 obtain ⟨o,I⟩:∃ t,t=Rd.peek s:=⟨_,rfl⟩
 have J:=QA I
 rw[← I]
 obtain ⟨V,C⟩:∃ W,W=w1.alloc (.cells #[.int .i64 o.kind,.string ⟨o.text.toArray⟩,.int .i64 o.at_] 136):=⟨_,rfl⟩
 have G:Below w.heap.size w V:=by rw[C];exact hb1.alloc hb1.size _
 have X:=tkb_new w1 o 136
 rw[← C] at X
 have Q:=(H.out.below G).c4
 have c4:=Q
 rw[C] at c4
 obtain ⟨t0,t1,t2⟩:=X
 have A:=QA G
 have N:=QA C
 clear G hb1 I C
 by_cases he:s.err=0
 ·have Z:=eqT (n:=s.err) (k:=0) (by omega)
  have T:=neF (n:=s.err) (k:=0) (by omega)
  by_cases hkd:o.kind=1
  ·have e5:=neF (n:=o.kind) (k:=1) (by omega)
   have P:Hid (∀ ws,Rd.isW s ws=(ws.any (fun w=>decide (o.text=w))||ws.isEmpty)):=QA fun ws=>by
    unfold Rd.isW Rd.isN
    rw[← J.out,decide_eq_true he,decide_eq_true hkd]
    rfl
   clear he hkd
   go_wp2_with fail
   rw[← N.out]
   go_loopg [22] ls.length (fun k s22 wr=>∃ j:Nat,j≤ls.length∧k=ls.length-j∧s22=.int .i64 (j:Nat)∧(ls.drop j).any (fun w=>decide (o.text=w))=ls.any (fun w=>decide (o.text=w))∧wr=V)
   case atStart=>exact ⟨0,Nat.zero_le _,rfl,rfl,rfl,rfl⟩
   case round =>
    obtain ⟨j,hj,U,rfl,E,rfl⟩:=hrel
    have Y:=QA U
    have B:=QA E
    clear U E
    have ab:(0:Int)≤(j:Int):=Int.natCast_nonneg _
    by_cases hjn:j<ls.length
    ·have M:(j:Int)<(ls.length:Int):=by omega
     obtain ⟨c,S⟩:∃ c,ls[j]?=some c:=⟨_,ZJ hjn⟩
     obtain ⟨cb,co,rfl,_,R⟩:=(HV.out.below A.out).at S
     have L:=QA (any_split (p:=fun w=>decide (o.text=w)) S)
     clear S
     by_cases htx:o.text=c
     ·have K:(o.text==c)=true:=by rw[htx];simp
      have D:Hid (true=Rd.isW s ls):=by
       rw[P.out,← B.out,L.out,decide_eq_true htx]
       exact QA rfl
      clear htx
      go_wp2
      go_ret
      exact ⟨congrArg (fun b=>Ending.returned (.bool b)) D.out,A.out⟩
     ·have K:(o.text==c)=false:=by rw[beq_eq_false_iff_ne];exact htx
      have HF:=QA (decide_eq_false htx)
      clear htx
      go_wp2
      go_roundg (ls.length-(j+1))
      case measure=>rw[Y.out];omega
      case rel=>exact ⟨j+1,hjn,rfl,by simp,by rw[← B.out,L.out];show _=(decide (o.text=c)||_);rw[HF.out,Bool.false_or],rfl⟩
    ·have M:(ls.length:Int)≤(j:Int):=by omega
     have F:Hid (ls.any (fun w=>decide (o.text=w))=false):=by
      rw[← B.out,List.drop_of_length_le (by omega)]
      exact QA rfl
     by_cases hz:ls=[]
     ·have D:Hid (true=Rd.isW s ls):=by rw[P.out,F.out,hz];exact QA rfl
      have O:=eqT (n:=ls.length) (k:=0) (by simp[hz])
      clear hz
      go_wp2
      go_ret
      exact ⟨congrArg (fun b=>Ending.returned (.bool b)) D.out,A.out⟩
     ·have D:Hid (false=Rd.isW s ls):=by
       rw[P.out,F.out]
       cases hls:ls with
       | nil=>exact absurd hls hz
       | cons=>exact QA rfl
      have O:=eqF (n:=ls.length) (k:=0) (by
       intro e
       exact hz (List.eq_nil_of_length_eq_zero (by omega)))
      clear hz
      go_wp2
      go_ret
      exact ⟨congrArg (fun b=>Ending.returned (.bool b)) D.out,A.out⟩
  ·have e5:=neT (n:=o.kind) (k:=1) (by omega)
   have D:Hid (false=Rd.isW s ls):=by
    unfold Rd.isW Rd.isN
    rw[← J.out,decide_eq_false hkd,Bool.and_false,Bool.false_and]
    exact QA rfl
   clear he hkd
   go_wp2_with fail
   rw[← N.out]
   go_ret
   exact ⟨congrArg (fun b=>Ending.returned (.bool b)) D.out,A.out⟩
 ·have Z:=eqF (n:=s.err) (k:=0) (by omega)
  have T:=neT (n:=s.err) (k:=0) (by omega)
  have D:Hid (false=Rd.isW s ls):=by
   unfold Rd.isW Rd.isN
   rw[decide_eq_false he,Bool.false_and,Bool.false_and]
   exact QA rfl
  clear he
  go_wp2_with fail
  rw[← N.out]
  go_ret
  exact ⟨congrArg (fun b=>Ending.returned (.bool b)) D.out,A.out⟩
theorem rword0_any (b g:Nat) (s:Rd.St) (w:World) (h:RdAt w b g s) :
  Calls Tryz.prog 106 #[.pointer (some ⟨b,0,none⟩),.slice none 0 0] w fun r w'=>r=.returned (.bool (Rd.isN s))∧Below w.heap.size w w':=by
 refine (rword_any b g s _ [] w h (Txts.nil w) (by simp)).mono ?_
 rintro r w' ⟨rfl,hb⟩
 exact ⟨by unfold Rd.isW;simp,hb⟩
theorem rword1_any (b g:Nat) (s:Rd.St) (c:List UInt8) (T:TypeId) (w:World) (h:RdAt w b g s) :
  Calls Tryz.prog 106 #[.pointer (some ⟨b,0,none⟩),.slice (some ⟨w.heap.size,0,none⟩) 1 1] (w.alloc (.cells #[.string ⟨c.toArray⟩] T)) fun r w'=>r=.returned (.bool (Rd.isW s [c]))∧Below w.heap.size w w':=by
 have o:Below w.heap.size w (w.alloc (.cells #[.string ⟨c.toArray⟩] T)):=(Below.refl _ _).alloc (QM _) _
 refine (rword_any b g s _ [c] _ (h.below o) (txts_lit w [c] _ T rfl) (by simp)).mono ?_
 rintro r w' ⟨rfl,hb2⟩
 exact ⟨rfl,o.trans (hb2.mono o.size)⟩
theorem rword2_any (b g:Nat) (s:Rd.St) (c d:List UInt8) (T:TypeId) (w:World) (h:RdAt w b g s) :
  Calls Tryz.prog 106 #[.pointer (some ⟨b,0,none⟩),.slice (some ⟨w.heap.size,0,none⟩) 2 2] (w.alloc (.cells #[.string ⟨c.toArray⟩,.string ⟨d.toArray⟩] T)) fun r w'=>r=.returned (.bool (Rd.isW s [c,d]))∧Below w.heap.size w w':=by
 have o:Below w.heap.size w (w.alloc (.cells #[.string ⟨c.toArray⟩,.string ⟨d.toArray⟩] T)):=(Below.refl _ _).alloc (QM _) _
 refine (rword_any b g s _ [c,d] _ (h.below o) (txts_lit w [c,d] _ T rfl) (by simp)).mono ?_
 rintro r w' ⟨rfl,hb2⟩
 exact ⟨rfl,o.trans (hb2.mono o.size)⟩
set_option maxRecDepth 100000 in
theorem rtake_any (b g:Nat) (s:Rd.St) (c:List UInt8) (w:World) (h:RdAt w b g s) :
  Calls Tryz.prog 142 #[.pointer (some ⟨b,0,none⟩),.string ⟨c.toArray⟩] w fun r w'=>r=.returned (.bool (Rd.isS s c))∧RdAt w' b g (Rd.take c s)∧Fr b w w':=by
 have H:=QA h
 clear h
 go_enter Tryz.func142,Tryz.ntmps142
 go_wp2_with fail
 refine (ris1_any b g s c _ w H.out).mono ?_
 rintro r w1 ⟨rfl,hb1⟩
 obtain ⟨B,hB⟩:∃ B,B=Rd.isS s c:=⟨_,rfl⟩
 have A:=QA hB
 have C:=QA (H.out.below hb1)
 have o:=QA hb1
 rw[← hB]
 clear hB hb1
 cases B
 ·go_wp2_with fail
  go_ret
  refine ⟨congrArg (fun b=>Ending.returned (.bool b)) A.out,?_,But.of_below o.out⟩
  unfold Rd.take
  rw[if_neg (by rw[← A.out];simp)]
  exact C.out
 ·go_wp2_with fail
  refine (rnext_any b g s w1 C.out).mono ?_
  rintro r w2 ⟨rfl,h2,f2⟩
  have D:=QA h2
  have E:=QA f2
  clear h2 f2
  go_wp2_with fail
  go_ret
  refine ⟨congrArg (fun b=>Ending.returned (.bool b)) A.out,?_,(But.of_below o.out).trans E.out⟩
  unfold Rd.take
  rw[if_pos A.out.symm]
  exact D.out
set_option maxRecDepth 100000 in
theorem rwant_any (b g:Nat) (s:Rd.St) (c:List UInt8) (w:World) (h:RdAt w b g s) :
  Calls Tryz.prog 169 #[.pointer (some ⟨b,0,none⟩),.string ⟨c.toArray⟩] w fun r w'=>r=.returned (.tuple #[])∧RdAt w' b g (Rd.want c s)∧Fr b w w':=by
 have H:=QA h
 clear h
 go_enter Tryz.func169,Tryz.ntmps169
 go_wp2_with fail
 refine (rtake_any b g s c w H.out).mono ?_
 rintro r w1 ⟨rfl,h1,f1⟩
 obtain ⟨B,hB⟩:∃ B,B=Rd.isS s c:=⟨_,rfl⟩
 have o:=QA hB
 have A:=QA h1
 have C:=QA f1
 rw[← hB]
 clear hB h1 f1
 cases B
 ·have D:Hid (RdAt w1 b g s):=by
   have:=A.out
   unfold Rd.take at this
   rw[if_neg (by rw[← o.out];simp)] at this
   exact QA this
  go_wp2_with fail
  refine (rwrong_any b g s w1 D.out).mono ?_
  rintro r w2 ⟨rfl,h2,f2⟩
  go_wp2_with fail
  go_end0
  refine ⟨rfl,?_,C.out.trans f2⟩
  unfold Rd.want
  rw[if_neg (by rw[← o.out];simp)]
  exact h2
 ·go_wp2_with fail
  go_end0
  refine ⟨rfl,?_,C.out⟩
  have:=A.out
  unfold Rd.take at this
  unfold Rd.want
  rw[if_pos o.out.symm] at this ⊢
  exact this
set_option maxRecDepth 100000 in
theorem rname_any (b g:Nat) (s:Rd.St) (w:World) (h:RdAt w b g s) :
  Calls Tryz.prog 99 #[.pointer (some ⟨b,0,none⟩)] w fun r w'=>r=.returned (.string ⟨(Rd.name s).2.toArray⟩)∧RdAt w' b g (Rd.name s).1∧Fr b w w':=by
 have H:=QA h
 clear h
 go_enter Tryz.func99,Tryz.ntmps99
 go_wp2_with fail
 refine (rword0_any b g s w H.out).mono ?_
 rintro r w1 ⟨rfl,hb1⟩
 obtain ⟨B,hB⟩:∃ B,B=Rd.isN s:=⟨_,rfl⟩
 have E:=QA hB
 have F:=QA (H.out.below hb1)
 have o:=QA hb1
 rw[← hB]
 clear hB hb1
 cases B
 ·go_wp2_with fail
  refine (rwrong_any b g s w1 F.out).mono ?_
  rintro r w2 ⟨rfl,h2,f2⟩
  have C:=QA h2
  have D:=QA f2
  clear h2 f2
  have e:Rd.name s=(Rd.wrong s,[]):=by unfold Rd.name;rw[if_neg (by rw[← E.out];simp)]
  have A:=QA e
  clear e
  go_wp2_with fail
  go_ret
  exact ⟨by rw[A.out];rfl,by rw[A.out];exact C.out,(But.of_below o.out).trans D.out⟩
 ·go_wp2_with fail
  refine (rnext_any b g s w1 F.out).mono ?_
  rintro r w2 ⟨rfl,h2,f2⟩
  have C:=QA h2
  have D:=QA f2
  clear h2 f2
  have e:Rd.name s=(Rd.next s,(Rd.peek s).text):=by unfold Rd.name;rw[if_pos E.out.symm]
  have A:=QA e
  clear e
  go_wp2_with fail
  go_ret
  exact ⟨by rw[A.out];rfl,by rw[A.out];exact C.out,(But.of_below o.out).trans D.out⟩
theorem RdAt.deeped {w:World} {b g:Nat} {s:Rd.St} (h:RdAt w b g s) (d:Int):RdAt (w.setCell ⟨b,2,none⟩ (.int .i64 d)) b g { s with deep:=d }:=by
 obtain ⟨⟨T,o,E,i,B,D,F,G,C⟩,A⟩:=h
 have H:=heap_set1 (k:=2) (v:=.int .i64 d) B
 exact ⟨⟨T,o,E,i,by rw[H];rfl,D.heap (by rw[size_set];exact QM _) (by rw[heap_set_ne A]),F,G,C⟩,A⟩
set_option maxRecDepth 100000 in
theorem rup_any (b g:Nat) (s:Rd.St) (c:List UInt8) (w:World) (h:RdAt w b g s) (hd:-1000000≤s.deep∧s.deep≤1000000) :
  Calls Tryz.prog 103 #[.pointer (some ⟨b,0,none⟩),.string ⟨c.toArray⟩] w fun r w'=>r=.returned (.tuple #[])∧RdAt w' b g (Rd.up c s)∧Fr b w w':=by
 have H:=QA h
 obtain ⟨D,B⟩:=hd
 clear h
 go_enter Tryz.func103,Tryz.ntmps103
 go_wp2_with fail
 refine (rwant_any b g s c w H.out).mono ?_
 rintro r w1 ⟨rfl,h1,f1⟩
 have c2:=h1.c2
 rw[Rd.want_deep] at c2
 have C:=h1.fz 2
 have o:=QA h1
 have A:=QA f1
 clear h1 f1
 go_wp2
 go_end0
 refine ⟨rfl,?_,A.out.setCell (.inl rfl) _⟩
 have:=o.out.deeped (s.deep-1)
 show RdAt _ b g { Rd.want c s with deep:=(Rd.want c s).deep-1 }
 rw[Rd.want_deep]
 exact this
set_option maxRecDepth 100000 in
theorem rdown_any (b g:Nat) (s:Rd.St) (c:List UInt8) (w:World) (h:RdAt w b g s) (hd:-1000000≤s.deep∧s.deep≤1000000) :
  Calls Tryz.prog 100 #[.pointer (some ⟨b,0,none⟩),.string ⟨c.toArray⟩] w fun r w'=>r=.returned (.tuple #[])∧RdAt w' b g (Rd.down c s)∧Fr b w w':=by
 have H:=QA h
 obtain ⟨O,N⟩:=hd
 clear h
 go_enter Tryz.func100,Tryz.ntmps100
 go_wp2_with fail
 refine (ris1_any b g s c _ w H.out).mono ?_
 rintro r w1 ⟨rfl,hb1⟩
 obtain ⟨B,hB⟩:∃ B,B=Rd.isS s c:=⟨_,rfl⟩
 have J:=QA hB
 have I:=QA (H.out.below hb1)
 have c2:=(H.out.below hb1).c2
 have C:=QA hb1
 rw[← hB]
 clear hB hb1
 by_cases hx:B=true∧s.deep=16
 ·obtain ⟨rfl,o⟩:=hx
  have G:(s.deep==16)=true:=by rw[o];rfl
  have E:Hid (Rd.down c s={ Rd.want c (Rd.fail 42 s) with deep:=(Rd.want c (Rd.fail 42 s)).deep+1 }):=by
   unfold Rd.down
   rw[if_pos ⟨J.out.symm,o⟩]
   exact QA rfl
  clear o
  go_wp2_with fail
  refine (rfail_any b g 42 s w1 I.out).mono ?_
  rintro r w2 ⟨rfl,h2,f2⟩
  have M:=QA h2
  have K:=QA f2
  clear h2 f2 c2
  go_wp2_with fail
  refine (rwant_any b g (Rd.fail 42 s) c w2 M.out).mono ?_
  rintro r w3 ⟨rfl,h3,f3⟩
  have c2:=h3.c2
  rw[Rd.want_deep,Rd.fail_deep] at c2
  have L:=h3.fz 2
  have F:=QA h3
  have D:=QA f3
  clear h3 f3
  go_wp2
  go_end0
  refine ⟨rfl,?_,(((But.of_below C.out).trans K.out).trans D.out).setCell (.inl rfl) _⟩
  rw[E.out,Rd.want_deep,Rd.fail_deep]
  exact F.out.deeped (s.deep+1)
 ·have E:Hid (Rd.down c s={ Rd.want c s with deep:=(Rd.want c s).deep+1 }):=by
   unfold Rd.down
   rw[if_neg (fun h=>hx ⟨by rw[J.out];exact h.1,h.2⟩)]
   exact QA rfl
  have A:B=false∨(B=true∧(s.deep==16)=false):=by
   cases B
   ·exact .inl rfl
   ·refine .inr ⟨rfl,?_⟩
    rw[beq_eq_false_iff_ne]
    exact fun h=>hx ⟨rfl,h⟩
  clear hx
  rcases A with rfl|⟨rfl,G⟩
  all_goals
   go_wp2_with fail
   refine (rwant_any b g s c w1 I.out).mono ?_
   rintro r w3 ⟨rfl,h3,f3⟩
   clear c2
   have c2:=h3.c2
   rw[Rd.want_deep] at c2
   have L:=h3.fz 2
   have F:=QA h3
   have D:=QA f3
   clear h3 f3
   go_wp2
   go_end0
   refine ⟨rfl,?_,((But.of_below C.out).trans D.out).setCell (.inl rfl) _⟩
   rw[E.out,Rd.want_deep]
   exact F.out.deeped (s.deep+1)
namespace Rd
section
variable {α : Type} (c : List UInt8) (f : St → St × α)
end
end Rd
set_option maxHeartbeats 1000000 in
set_option maxRecDepth 100000 in
theorem some_any {α:Type} (c:List UInt8) (f:Rd.St→Rd.St×α) (I:Rd.St→List α→World→Prop) (b g:Nat) (k:FuncId) (cap:Array Value) (hk:∀ w,Sem.run Tryz.prog (callFunc k cap) w=.ok (.enter k cap) w)
  (hR:∀ s out w,I s out w→RdAt w b g s) (hB:∀ s out w w',I s out w→Below w.heap.size w w'→I s out w')
  (hdo:∀ s out w,I s out w→s.err=0→Calls Tryz.prog k cap w fun r w'=>r=.returned (.tuple #[])∧I (f s).1 (out++[(f s).2]) w')
  (hG:∀ s out w,I s out w→s.err=0→Rd.isS s c=false→(f s).1.err≠0∨(f s).1.rest.length<s.rest.length)
  (n:Nat) (s0:Rd.St) (out0:List α) (w:World) (h0:I s0 out0 w) (hn:s0.err≠0∨s0.rest.length<n) :
  Calls Tryz.prog 101 #[.pointer (some ⟨b,0,none⟩),.string ⟨c.toArray⟩,.bool false,.func (.func k) #[] cap] w fun r w'=>r=.returned (.tuple #[])∧I (Rd.loop c f n s0 out0).1 (Rd.loop c f n s0 out0).2 w':=by
 have Y:=QA h0
 have H:=QA hR
 have M:=QA hB
 have P:=QA hdo
 have U:=QA hG
 obtain ⟨L,N⟩:∃ L,L=Rd.loop c f n s0 out0:=⟨_,rfl⟩
 have W:=QA N
 rw[← N]
 clear h0 hR hB hdo hG N
 go_enter Tryz.func101,Tryz.ntmps101
 go_wp2_with fail
 go_loopg [] (n+1) (fun q wr=>∃ (m:Nat) (s:Rd.St) (out:List α),q=m+1∧I s out wr∧(s.err≠0∨s.rest.length<m)∧Rd.loop c f m s out=L)
 case atStart=>exact ⟨n,_,_,rfl,Y.out,hn,W.out.symm⟩
 case round =>
  obtain ⟨m,s,out,rfl,Q,S,A⟩:=hrel
  have R:=QA Q
  have F:=QA A
  have T:=QA S
  have Z:=(H.out _ _ _ Q).c4
  clear Q A S
  by_cases he:s.err=0
  ·have V:=eqT (n:=s.err) (k:=0) (by omega)
   have o:=QA he
   clear he
   go_wp2_with fail
   refine (ris1_any b g s c _ wr (H.out _ _ _ R.out)).mono ?_
   rintro r w1 ⟨rfl,hb1⟩
   obtain ⟨B,D⟩:∃ B,B=Rd.isS s c:=⟨_,rfl⟩
   have E:=QA D
   have K:=QA (M.out _ _ _ _ R.out hb1)
   rw[← D]
   clear D hb1
   cases B
   ·obtain ⟨G,rfl⟩:∃ G,m=G+1:=by
     rcases T.out with h|h
     ·exact absurd o.out h
     ·exact ⟨m-1,by omega⟩
    have O:Hid (Rd.loop c f G (f s).1 (out++[(f s).2])=L):=by
     rw[← F.out,Rd.loop,if_pos ⟨o.out,E.out.symm⟩]
     exact QA rfl
    go_wp2_with fail
    refine (P.out s out w1 K.out o.out).mono ?_
    rintro r w2 ⟨rfl,h2⟩
    have X:=QA h2
    clear h2
    have J:Hid ((f s).1.err≠0∨(f s).1.rest.length<G):=by
     rcases U.out s out w1 K.out o.out E.out.symm with h|h
     ·exact QA (.inl h)
     ·rcases T.out with h2|h2
      ·exact absurd o.out h2
      ·exact QA (.inr (by omega))
    go_wp2_with fail
    go_roundg (G+1)
    case measure=>omega
    case rel=>exact ⟨G,(f s).1,out++[(f s).2],rfl,X.out,J.out,O.out⟩
   ·have C:Hid (L=(s,out)):=by
     rw[← F.out]
     cases m with
     | zero=>exact QA rfl
     | succ m=>rw[Rd.loop,if_neg (fun h=>by have:=h.2;rw[← E.out] at this;cases this)];exact QA rfl
    go_wp2_with fail
    go_end0
    exact ⟨rfl,by rw[C.out];exact K.out⟩
  ·have V:=eqF (n:=s.err) (k:=0) (by omega)
   have C:Hid (L=(s,out)):=by
    rw[← F.out]
    cases m with
    | zero=>exact QA rfl
    | succ m=>rw[Rd.loop,if_neg (fun h=>he h.1)];exact QA rfl
   clear he
   go_wp2_with fail
   go_end0
   exact ⟨rfl,by rw[C.out];exact R.out⟩
set_option maxHeartbeats 1000000 in
set_option maxRecDepth 100000 in
theorem some1_any {α:Type} (c:List UInt8) (f:Rd.St→Rd.St×α) (I:Rd.St→List α→World→Prop) (b g:Nat) (k:FuncId) (cap:Array Value) (hk:∀ w,Sem.run Tryz.prog (callFunc k cap) w=.ok (.enter k cap) w)
  (hR:∀ s out w,I s out w→RdAt w b g s) (hB:∀ s out w w',I s out w→Below w.heap.size w w'→I s out w')
  (hdo:∀ s out w,I s out w→s.err=0→Calls Tryz.prog k cap w fun r w'=>r=.returned (.tuple #[])∧I (f s).1 (out++[(f s).2]) w')
  (hG:∀ s out w,I s out w→s.err=0→Rd.isS s c=false→(f s).1.err≠0∨(f s).1.rest.length<s.rest.length)
  (n:Nat) (s0:Rd.St) (w:World) (hfirst:Calls Tryz.prog k cap w fun r w'=>r=.returned (.tuple #[])∧I (f s0).1 [(f s0).2] w') (hn:(f s0).1.err≠0∨(f s0).1.rest.length<n) :
  Calls Tryz.prog 101 #[.pointer (some ⟨b,0,none⟩),.string ⟨c.toArray⟩,.bool true,.func (.func k) #[] cap] w fun r w'=>r=.returned (.tuple #[])∧I (Rd.loop1 c f n s0).1 (Rd.loop1 c f n s0).2 w':=by
 have S:=QA hfirst
 have H:=QA hR
 have M:=QA hB
 have P:=QA hdo
 have V:=QA hG
 obtain ⟨L,N⟩:∃ L,L=Rd.loop1 c f n s0:=⟨_,rfl⟩
 have X:Hid (L=Rd.loop c f n (f s0).1 [(f s0).2]):=QA N
 rw[← N]
 clear hfirst hR hB hdo hG N
 go_enter Tryz.func101,Tryz.ntmps101
 go_wp2_with fail
 refine S.out.mono ?_
 rintro r w0 ⟨rfl,h0⟩
 have Z:=QA h0
 clear h0
 go_wp2_with fail
 go_loopg [] (n+1) (fun q wr=>∃ (m:Nat) (s:Rd.St) (out:List α),q=m+1∧I s out wr∧(s.err≠0∨s.rest.length<m)∧Rd.loop c f m s out=L)
 case atStart=>exact ⟨n,_,_,rfl,Z.out,hn,X.out.symm⟩
 case round =>
  obtain ⟨m,s,out,rfl,Q,T,A⟩:=hrel
  have R:=QA Q
  have F:=QA A
  have U:=QA T
  have c4:=(H.out _ _ _ Q).c4
  clear Q A T
  by_cases he:s.err=0
  ·have W:=eqT (n:=s.err) (k:=0) (by omega)
   have o:=QA he
   clear he
   go_wp2_with fail
   refine (ris1_any b g s c _ wr (H.out _ _ _ R.out)).mono ?_
   rintro r w1 ⟨rfl,hb1⟩
   obtain ⟨B,D⟩:∃ B,B=Rd.isS s c:=⟨_,rfl⟩
   have E:=QA D
   have K:=QA (M.out _ _ _ _ R.out hb1)
   rw[← D]
   clear D hb1
   cases B
   ·obtain ⟨G,rfl⟩:∃ G,m=G+1:=by
     rcases U.out with h|h
     ·exact absurd o.out h
     ·exact ⟨m-1,by omega⟩
    have O:Hid (Rd.loop c f G (f s).1 (out++[(f s).2])=L):=by
     rw[← F.out,Rd.loop,if_pos ⟨o.out,E.out.symm⟩]
     exact QA rfl
    go_wp2_with fail
    refine (P.out s out w1 K.out o.out).mono ?_
    rintro r w2 ⟨rfl,h2⟩
    have Y:=QA h2
    clear h2
    have J:Hid ((f s).1.err≠0∨(f s).1.rest.length<G):=by
     rcases V.out s out w1 K.out o.out E.out.symm with h|h
     ·exact QA (.inl h)
     ·rcases U.out with h2|h2
      ·exact absurd o.out h2
      ·exact QA (.inr (by omega))
    go_wp2_with fail
    go_roundg (G+1)
    case measure=>omega
    case rel=>exact ⟨G,(f s).1,out++[(f s).2],rfl,Y.out,J.out,O.out⟩
   ·have C:Hid (L=(s,out)):=by
     rw[← F.out]
     cases m with
     | zero=>exact QA rfl
     | succ m=>rw[Rd.loop,if_neg (fun h=>by have:=h.2;rw[← E.out] at this;cases this)];exact QA rfl
    go_wp2_with fail
    go_end0
    exact ⟨rfl,by rw[C.out];exact K.out⟩
  ·have W:=eqF (n:=s.err) (k:=0) (by omega)
   have C:Hid (L=(s,out)):=by
    rw[← F.out]
    cases m with
    | zero=>exact QA rfl
    | succ m=>rw[Rd.loop,if_neg (fun h=>he h.1)];exact QA rfl
   clear he
   go_wp2_with fail
   go_end0
   exact ⟨rfl,by rw[C.out];exact R.out⟩
theorem RdAt.texts {w:World} {b g:Nat} {s:Rd.St} (h:RdAt w b g s):∀ t∈s.rest,t.text.length≤1000000000:=by
 obtain ⟨⟨T,B,F,i,D,E,A,G,o⟩,C⟩:=h
 intro t ht
 rw[A] at ht
 exact o.size t (List.mem_of_mem_drop ht)
theorem RdAt.rest_len {w:World} {b g:Nat} {s:Rd.St} (h:RdAt w b g s):1≤s.rest.length∧s.rest.length≤1501:=by
 obtain ⟨⟨T,B,F,i,D,E,A,G,o⟩,C⟩:=h
 rw[A,List.length_drop]
 have:=o.len
 omega
theorem ba_app (a b:List UInt8):((⟨a.toArray⟩:ByteArray)++(⟨b.toArray⟩:ByteArray))=⟨(a++b).toArray⟩:=by
 apply ByteArray.ext
 simp
theorem ba_size (a:List UInt8):(⟨a.toArray⟩:ByteArray).size=a.length:=by
 show a.toArray.size=_
 simp
set_option maxHeartbeats 1000000 in
set_option maxRecDepth 100000 in
theorem rtype_any (b g:Nat):∀ (n:Nat) (s:Rd.St) (w:World),RdAt w b g s→(s.err≠0∨s.rest.length≤n)→n≤1600→0≤s.deep∧s.deep+n≤900000 →
  Calls Tryz.prog 191 #[.pointer (some ⟨b,0,none⟩)] w fun r w'=>r=.returned (.string ⟨(Rd.type (n+1) s).2.toArray⟩)∧RdAt w' b g (Rd.type (n+1) s).1∧Fr b w w':=by
 intro n
 induction n using Nat.strongRecOn with
 | _ n ih =>
 intro s w h hn hnb hd
 have Z:=QA ih
 have HN:=QA hn
 have H:=QA h
 obtain ⟨d0,d1⟩:=hd
 clear ih hn h
 go_enter Tryz.func191,Tryz.ntmps191
 go_wp2_with fail
 refine (ris1_any b g s Rd.lbrk _ w H.out).mono ?_
 rintro r w1 ⟨rfl,hb1⟩
 obtain ⟨B,hB⟩:∃ B,B=Rd.isS s Rd.lbrk:=⟨_,rfl⟩
 have V:=QA hB
 have H1:=QA (H.out.below hb1)
 have U:=QA hb1
 rw[← hB]
 clear hB hb1
 cases B
 ·have HC:Hid (Rd.typeCore (Rd.type n) s=Rd.name s):=by
   unfold Rd.typeCore
   rw[if_neg (by rw[← V.out];simp)]
   exact QA rfl
  go_wp2_with fail
  refine (rname_any b g s w1 H1.out).mono ?_
  rintro r w8 ⟨rfl,h8,f8⟩
  obtain ⟨E,C⟩:∃ x,x=(Rd.name s).1:=⟨_,rfl⟩
  obtain ⟨J,D⟩:∃ x,x=(Rd.name s).2:=⟨_,rfl⟩
  obtain ⟨S,A⟩:∃ x:ByteArray,x=⟨(Rd.name s).2.toArray⟩:=⟨_,rfl⟩
  rw[← C] at h8
  rw[← A]
  have I:Hid (Rd.typeCore (Rd.type n) s=(E,J)):=by rw[HC.out,C,D];exact QA rfl
  have F:Hid (S=⟨J.toArray⟩):=by rw[A,D];exact QA rfl
  have X:S.size≤1000010000:=by
   have h1:J.length≤(Rd.type (n+1) s).2.length:=by
    show _≤(Rd.bangOf (Rd.typeCore (Rd.type n) s)).2.length
    rw[I.out]
    unfold Rd.bangOf
    split
    ·simp
    ·simp
   have P:=Rd.type_len 1000000000 (n+1) s H.out.texts
   rw[F.out,ba_size]
   omega
  have HT:=QA h8
  have M:=QA ((But.of_below U.out).trans f8)
  clear C D A h8 f8 HC
  go_wp2_with fail
  refine (rtake_any b g E Rd.bang w8 HT.out).mono ?_
  rintro r w9 ⟨rfl,h9,f9⟩
  obtain ⟨Y,G⟩:∃ B,B=Rd.isS E Rd.bang:=⟨_,rfl⟩
  have o:=QA G
  have R:=QA h9
  have T:=QA (But.trans M.out f9)
  rw[← G]
  clear G h9 f9
  cases Y
  ·have K:Hid (Rd.type (n+1) s=(E,J)):=by
    show Hid (Rd.bangOf (Rd.typeCore (Rd.type n) s)=_)
    rw[I.out]
    unfold Rd.bangOf
    rw[if_neg (by rw[← o.out];simp)]
    exact QA rfl
   have O:Hid (RdAt w9 b g E):=by
    have:=R.out
    unfold Rd.take at this
    rw[if_neg (by rw[← o.out];simp)] at this
    exact QA this
   go_wp2_with fail
   go_ret
   exact ⟨by rw[K.out];exact congrArg (fun x=>Ending.returned (.string x)) F.out,by rw[K.out];exact O.out,T.out⟩
  ·have K:Hid (Rd.type (n+1) s=(Rd.next E,J++Rd.bang)):=by
    show Hid (Rd.bangOf (Rd.typeCore (Rd.type n) s)=_)
    rw[I.out]
    unfold Rd.bangOf
    rw[if_pos o.out.symm]
    exact QA rfl
   have O:Hid (RdAt w9 b g (Rd.next E)):=by
    have:=R.out
    unfold Rd.take at this
    rw[if_pos o.out.symm] at this
    exact QA this
   have W:(⟨#[33]⟩:ByteArray).size=1:=rfl
   go_wp2_with fail
   go_ret
   exact ⟨by rw[K.out];exact congrArg (fun x=>Ending.returned (.string x)) (by rw[F.out];exact ba_app J Rd.bang),by rw[K.out];exact O.out,T.out⟩
 ·have N:s.err=0:=by
   have:=V.out
   unfold Rd.isS at this
   cases he:decide (s.err=0)
   ·rw[he] at this;simp at this
   ·simpa using he
  obtain ⟨m,rfl⟩:∃ m,n=m+1:=by
   have:=H.out.rest_len
   rcases HN.out with h|h
   ·exact absurd N h
   ·exact ⟨n-1,by omega⟩
  have ac:Hid ((Rd.down Rd.lbrk s).err≠0∨(Rd.down Rd.lbrk s).rest.length≤m):=by
   refine QA ?_
   rcases Rd.down_goes V.out.symm with h|h
   ·exact .inl h
   ·rcases HN.out with P|P
    ·exact absurd N P
    ·exact .inr (by omega)
  have Q:=QA (Rd.down_deep Rd.lbrk s)
  clear N
  go_wp2_with fail
  refine (rdown_any b g s Rd.lbrk w1 H1.out ⟨by omega,by omega⟩).mono ?_
  rintro r w2 ⟨rfl,P,f2⟩
  have H2:=QA P
  have F2:=QA f2
  clear P f2
  go_wp2_with fail
  refine (Z.out m (by omega) (Rd.down Rd.lbrk s) w2 H2.out ac.out (by omega) (by rw[Q.out];omega)).mono ?_
  rintro r w3 ⟨rfl,h3,f3⟩
  have H3:=QA h3
  have F3:=QA f3
  obtain ⟨tv,L⟩:∃ x:ByteArray,x=⟨(Rd.type (m+1) (Rd.down Rd.lbrk s)).2.toArray⟩:=⟨_,rfl⟩
  have am:tv.size≤1000005000:=by
   have:=Rd.type_len 1000000000 (m+1) (Rd.down Rd.lbrk s) (fun t ht=>H.out.texts t ((Rd.ok_down _ s).sub t ht))
   rw[L,ba_size]
   omega
  have aa:=QA L
  have ak:(⟨#[91]⟩:ByteArray).size=1:=rfl
  have ao:(⟨#[93]⟩:ByteArray).size=1:=rfl
  rw[← L]
  clear h3 f3 L
  go_wp2_with fail
  refine (rup_any b g (Rd.type (m+1) (Rd.down Rd.lbrk s)).1 Rd.rbrk w3 H3.out (by rw[Rd.type_deep,Q.out];omega)).mono ?_
  rintro r w8 ⟨rfl,h8,f8⟩
  obtain ⟨E,C⟩:∃ x,x=Rd.up Rd.rbrk (Rd.type (m+1) (Rd.down Rd.lbrk s)).1:=⟨_,rfl⟩
  obtain ⟨J,D⟩:∃ x,x=Rd.lbrk++(Rd.type (m+1) (Rd.down Rd.lbrk s)).2++Rd.rbrk:=⟨_,rfl⟩
  obtain ⟨S,A⟩:∃ x:ByteArray,x=⟨#[91]⟩++tv++⟨#[93]⟩:=⟨_,rfl⟩
  rw[← C] at h8
  rw[← A]
  have I:Hid (Rd.typeCore (Rd.type (m+1)) s=(E,J)):=by
   unfold Rd.typeCore
   rw[if_pos V.out.symm,C,D]
   exact QA rfl
  have F:Hid (S=⟨J.toArray⟩):=by
   rw[A,D,aa.out]
   exact QA (by rw[← ba_app,← ba_app];rfl)
  have X:S.size≤1000010000:=by
   have h1:J.length≤(Rd.type ((m+1)+1) s).2.length:=by
    show _≤(Rd.bangOf (Rd.typeCore (Rd.type (m+1)) s)).2.length
    rw[I.out]
    unfold Rd.bangOf
    split
    ·simp
    ·simp
   have P:=Rd.type_len 1000000000 ((m+1)+1) s H.out.texts
   rw[F.out,ba_size]
   omega
  have HT:=QA h8
  have M:=QA ((((But.of_below U.out).trans F2.out).trans F3.out).trans f8)
  clear C D A h8 f8
  go_wp2_with fail
  refine (rtake_any b g E Rd.bang w8 HT.out).mono ?_
  rintro r w9 ⟨rfl,h9,f9⟩
  obtain ⟨Y,G⟩:∃ B,B=Rd.isS E Rd.bang:=⟨_,rfl⟩
  have o:=QA G
  have R:=QA h9
  have T:=QA (But.trans M.out f9)
  rw[← G]
  clear G h9 f9
  cases Y
  ·have K:Hid (Rd.type ((m+1)+1) s=(E,J)):=by
    show Hid (Rd.bangOf (Rd.typeCore (Rd.type (m+1)) s)=_)
    rw[I.out]
    unfold Rd.bangOf
    rw[if_neg (by rw[← o.out];simp)]
    exact QA rfl
   have O:Hid (RdAt w9 b g E):=by
    have:=R.out
    unfold Rd.take at this
    rw[if_neg (by rw[← o.out];simp)] at this
    exact QA this
   go_wp2_with fail
   go_ret
   exact ⟨by rw[K.out];exact congrArg (fun x=>Ending.returned (.string x)) F.out,by rw[K.out];exact O.out,T.out⟩
  ·have K:Hid (Rd.type ((m+1)+1) s=(Rd.next E,J++Rd.bang)):=by
    show Hid (Rd.bangOf (Rd.typeCore (Rd.type (m+1)) s)=_)
    rw[I.out]
    unfold Rd.bangOf
    rw[if_pos o.out.symm]
    exact QA rfl
   have O:Hid (RdAt w9 b g (Rd.next E)):=by
    have:=R.out
    unfold Rd.take at this
    rw[if_pos o.out.symm] at this
    exact QA this
   have W:(⟨#[33]⟩:ByteArray).size=1:=rfl
   go_wp2_with fail
   go_ret
   exact ⟨by rw[K.out];exact congrArg (fun x=>Ending.returned (.string x)) (by rw[F.out];exact ba_app J Rd.bang),by rw[K.out];exact O.out,T.out⟩
structure QW (w0:World) (bo:Nat) (out:List UInt8) (w:World):Prop where
 bld:IsB bo out w
 bel:Below bo w0 w
 hi:bo=w0.heap.size
theorem QW.le {w0 w:World} {bo:Nat} {out:List UInt8} (h:QW w0 bo out w):bo≤w.heap.size:=by
 have:=h.bel.size
 have:=h.hi
 omega
theorem QW.start (w:World):QW w w.heap.size [] (w.alloc (.cells #[.pointer none,.slice none 0 0] 65)):=by
 refine ⟨.inl ⟨QM _,.slice none 0 0,?_,⟨rfl,.inl ⟨rfl,rfl⟩⟩,by simp[Value.ownBlock]⟩,(Below.refl _ _).alloc (QM _) _,rfl⟩
 show (w.heap.push _)[w.heap.size]?=_
 simp
theorem QW.byte {w0 w:World} {bo:Nat} {out:List UInt8} (h:QW w0 bo out w) (hl:out.length≤10000000000) (c:UInt8) :
  Calls Tryz.prog 162 #[.pointer (some ⟨bo,0,none⟩),.int .u8 c.toNat] w fun e w'=>e=.returned .nilIface∧QW w0 bo (out++[c]) w':=by
 refine (WriteByte_k bo bo _ c.toNat w h.bld (by rw[Lib.byteCells_length];omega) h.le).mono ?_
 rintro e w' ⟨rfl,h1,h2,_⟩
 refine ⟨rfl,.inr ?_,h.bel.trans h2,h.hi⟩
 rw[Lib.byteCells_append]
 exact h1
theorem QW.str {w0 w:World} {bo:Nat} {out:List UInt8} (h:QW w0 bo out w) (hl:out.length≤10000000000) (l:List UInt8) (hl2:l.length≤5000) :
  Calls Tryz.prog 88 #[.pointer (some ⟨bo,0,none⟩),.string ⟨l.toArray⟩] w fun e w'=>(∃ n:Int,e=.returned (.tuple #[.int .i64 n,.nilIface]))∧QW w0 bo (out++l) w':=by
 refine (WriteString_k bo bo _ ⟨l.toArray⟩ w h.bld (by rw[Lib.byteCells_length];show _+l.length≤_;omega) h.le).mono ?_
 rintro e w' ⟨rfl,h1,h2,_⟩
 refine ⟨⟨_,rfl⟩,.inr ?_,h.bel.trans h2,h.hi⟩
 rw[Lib.byteCells_append]
 exact h1
theorem QW.string {w0 w:World} {bo:Nat} {out:List UInt8} (h:QW w0 bo out w) :
  Calls Tryz.prog 33 #[.pointer (some ⟨bo,0,none⟩)] w fun e w'=>e=.returned (.string ⟨out.toArray⟩)∧QW w0 bo out w':=by
 refine (Tryz.Builder_String_any_k bo bo out w h.bld h.le).mono ?_
 rintro e w' ⟨rfl,h1,h2,_⟩
 exact ⟨rfl,h1,h.bel.trans h2,h.hi⟩
theorem qsIdx (c:UInt8) (w:World) :
  Calls Tryz.prog 163 #[.string ⟨#[34,92,8,9,10,12,13]⟩,.int .u8 c.toNat] w fun e w'=>e=.returned (.int .i64 (Lib.indexByte Lx.spl c))∧w'=w:=by
 refine (Tryz.strings_IndexByte _ _ _).mono ?_
 rintro e w' ⟨rfl,rfl⟩
 refine ⟨?_,rfl⟩
 have o:((c.toNat:Int)).toNat.toUInt8=c:=by simp
 rw[o]
 rfl
def qsIdxOk (c:UInt8):Bool :=
 if (Lx.qs c).toNat=0 then decide (Lib.indexByte Lx.spl c<0) else decide (0≤Lib.indexByte Lx.spl c∧Lib.indexByte Lx.spl c<7∧Lx.asl.getD (Lib.indexByte Lx.spl c).toNat 0=Lx.qs c)
set_option maxRecDepth 100000 in
theorem qsIdx_fin:∀ n:Fin 256,qsIdxOk (UInt8.ofNat n.val)=true:=by decide +kernel
theorem qsIdx_any (c:UInt8):((Lx.qs c).toNat=0∧Lib.indexByte Lx.spl c<0)∨((Lx.qs c).toNat≠0∧∃ k:Nat,k<7∧Lib.indexByte Lx.spl c=k∧bt ⟨#[34,92,98,116,110,102,114]⟩ k=Lx.qs c):=by
 have h:qsIdxOk c=true:=by
  have:=qsIdx_fin ⟨c.toNat,UInt8.toNat_lt c⟩
  simpa using this
 unfold qsIdxOk at h
 by_cases h0:(Lx.qs c).toNat=0
 ·rw[if_pos h0] at h
  exact .inl ⟨h0,of_decide_eq_true h⟩
 ·rw[if_neg h0] at h
  obtain ⟨B,A,o⟩:=of_decide_eq_true h
  exact .inr ⟨h0,(Lib.indexByte Lx.spl c).toNat,by omega,by omega,o⟩
set_option maxHeartbeats 1000000 in
set_option maxRecDepth 100000 in
theorem lexQuote_any (s:ByteArray) (w:World) (hs:s.size≤1000000000) (hE:Env w) :
  Calls Tryz.prog 90 #[.string s] w fun e w'=>Below w.heap.size w w'∧((Lx.valid s.data.toList=true∧e=.returned (.tuple #[.string ⟨(Lx.quote s.data.toList).toArray⟩,.int .i64 0]))∨(Lx.valid s.data.toList=false∧e=.returned (.tuple #[.string ⟨#[]⟩,.int .i64 2]))):=by
 have V:(0:Int)≤(s.size:Int):=Int.natCast_nonneg _
 cases hv:Lx.valid s.data.toList
 ·have M:=QA hv
  clear hv
  go_enter Tryz.func90,Tryz.ntmps90
  go_wp2_with (go_at_call 161;refine (valid_any _ _ (by omega) hE).mono ?_;rintro e w1 ⟨rfl,hb1⟩;rw[validD_eq,M.out])
  refine bodyPost_ret (v:=.tuple #[.string ⟨#[]⟩,.int .i64 2]) (by simp[results,Tryz.results90,go_sem]) rfl ?_
  exact ⟨hb1,by simp⟩
 ·have M:=QA hv
  clear hv
  go_enter Tryz.func90,Tryz.ntmps90
  go_wp2_with (first|(go_at_call 161;refine (valid_any _ _ (by omega) hE).mono ?_;rintro e w1 ⟨rfl,hb1⟩;rw[validD_eq,M.out])|fail)
  have G:=QW.start w1
  refine (G.byte (by simp) 34).mono ?_
  rintro e w2 ⟨rfl,B⟩
  clear G
  have N:=QA B
  clear B
  go_wp2_with fail
  go_loopg [14] s.size (fun k s14 wr=>∃ a,a≤s.size∧k=s.size-a∧s14=.int .i64 (a:Nat)∧QW w1 w1.heap.size (34::(s.data.toList.take a).flatMap Lx.qb) wr)
  case atStart=>exact ⟨0,Nat.zero_le _,by omega,rfl,N.out⟩
  case round =>
   obtain ⟨a,W,P,rfl,B⟩:=hrel
   have H:=QA P
   have K:(34::(s.data.toList.take a).flatMap Lx.qb).length≤6000000001:=by
    rw[List.length_cons]
    have:=qb_flat_le (s.data.toList.take a)
    rw[List.length_take] at this
    omega
   clear P N
   have U:(0:Int)≤(a:Int):=Int.natCast_nonneg _
   by_cases hlt:a<s.size
   ·have E:(a:Int)<s.size:=by omega
    have T:=QA (take_flat s a hlt Lx.qb)
    generalize hO:34::(s.data.toList.take a).flatMap Lx.qb=O at B K
    have Q:=QA hO
    clear hO
    have I:=QA (qsIdx (bt s a))
    have J:Hid (∀ O',O'=O++Lx.qb (bt s a)→O'=34::(s.data.toList.take (a+1)).flatMap Lx.qb):=QA (fun O' h=>by rw[h,← Q.out,T.out];rfl)
    rcases qsIdx_any (bt s a) with ⟨h0,hneg⟩|⟨h0,kk,hk7,hkk,hbt⟩
    ·generalize hkk:Lib.indexByte Lx.spl (bt s a)=kk at hneg
     have A:=QA hkk
     clear hkk
     by_cases hc:(bt s a).toNat<32∨(bt s a).toNat=127
     ·have o:Hid (Lx.qb (bt s a)=[92,117,48,48]++[Lx.hexd ((bt s a).toNat / 16)]++[Lx.hexd ((bt s a).toNat % 16)]):=by unfold Lx.qb;rw[if_neg (by simp[h0]),if_pos hc];exact QA rfl
      have D:=QA (hexd_bt ((bt s a).toNat / 16) (by have:=bt_lt s a;omega))
      have F:=QA (hexd_bt ((bt s a).toNat % 16) (by omega))
      have S:=bt_lt s a
      clear h0
      rcases hc with hc|hc
      ·have c1:((bt s a).toNat:Int)<32:=by omega
       go_wp2_with fail
       refine (I.out _).mono ?_
       rintro e w' ⟨rfl,hw'⟩
       obtain rfl:=hw'.symm
       rw[A.out]
       go_wp2_with fail
       refine (B.str (by omega) [92,117,48,48] (by simp)).mono ?_
       rintro e w3 ⟨⟨n3,rfl⟩,hQ3⟩
       go_wp2_with fail
       refine (hQ3.byte (by rw[QT];simp;omega) (bt ⟨#[48,49,50,51,52,53,54,55,56,57,97,98,99,100,101,102]⟩ ((bt s a).toNat / 16))).mono ?_
       rintro e w4 ⟨rfl,hQ4⟩
       rw[D.out] at hQ4
       go_wp2_with fail
       refine (hQ4.byte (by rw[QT,QT];simp;omega) (bt ⟨#[48,49,50,51,52,53,54,55,56,57,97,98,99,100,101,102]⟩ ((bt s a).toNat % 16))).mono ?_
       rintro e w5 ⟨rfl,hQ5⟩
       rw[F.out] at hQ5
       go_wp2
       go_roundg (s.size-(a+1))
       case measure=>rw[H.out];omega
       case rel=>exact ⟨a+1,hlt,rfl,by simp,by rw[← J.out _ (by rw[o.out])];rw[ZH,ZH] at hQ5;exact hQ5⟩
      ·have c1:(32:Int)≤((bt s a).toNat:Int):=by omega
       have c2:=eqT (n:=(bt s a).toNat) (k:=127) (by omega)
       clear hc
       go_wp2_with fail
       refine (I.out _).mono ?_
       rintro e w' ⟨rfl,hw'⟩
       obtain rfl:=hw'.symm
       rw[A.out]
       go_wp2_with fail
       refine (B.str (by omega) [92,117,48,48] (by simp)).mono ?_
       rintro e w3 ⟨⟨n3,rfl⟩,hQ3⟩
       go_wp2_with fail
       refine (hQ3.byte (by rw[QT];simp;omega) (bt ⟨#[48,49,50,51,52,53,54,55,56,57,97,98,99,100,101,102]⟩ ((bt s a).toNat / 16))).mono ?_
       rintro e w4 ⟨rfl,hQ4⟩
       rw[D.out] at hQ4
       go_wp2_with fail
       refine (hQ4.byte (by rw[QT,QT];simp;omega) (bt ⟨#[48,49,50,51,52,53,54,55,56,57,97,98,99,100,101,102]⟩ ((bt s a).toNat % 16))).mono ?_
       rintro e w5 ⟨rfl,hQ5⟩
       rw[F.out] at hQ5
       go_wp2
       go_roundg (s.size-(a+1))
       case measure=>rw[H.out];omega
       case rel=>exact ⟨a+1,hlt,rfl,by simp,by rw[← J.out _ (by rw[o.out])];rw[ZH,ZH] at hQ5;exact hQ5⟩
     ·have o:Hid (Lx.qb (bt s a)=[bt s a]):=by unfold Lx.qb;rw[if_neg (by simp[h0]),if_neg hc];exact QA rfl
      have c1:(32:Int)≤((bt s a).toNat:Int):=by omega
      have c2:=eqF (n:=(bt s a).toNat) (k:=127) (by omega)
      clear h0
      go_wp2_with fail
      refine (I.out _).mono ?_
      rintro e w' ⟨rfl,hw'⟩
      obtain rfl:=hw'.symm
      rw[A.out]
      go_wp2_with fail
      refine (B.byte (by omega) (bt s a)).mono ?_
      rintro e w3 ⟨rfl,hQ3⟩
      go_wp2
      go_roundg (s.size-(a+1))
      case measure=>rw[H.out];omega
      case rel=>exact ⟨a+1,hlt,rfl,by simp,by rw[← J.out _ (by rw[o.out])];exact hQ3⟩
    ·have A:=QA hkk
     clear hkk
     have o:Hid (Lx.qb (bt s a)=[92]++[Lx.qs (bt s a)]):=by unfold Lx.qb;rw[if_pos h0];exact QA rfl
     have L:=QA hbt
     clear hbt h0
     go_wp2_with fail
     refine (I.out _).mono ?_
     rintro e w' ⟨rfl,hw'⟩
     obtain rfl:=hw'.symm
     rw[A.out]
     go_wp2_with fail
     refine (B.byte (by omega) 92).mono ?_
     rintro e w3 ⟨rfl,hQ3⟩
     go_wp2_with fail
     refine (hQ3.byte (by rw[QT];simp;omega) (bt ⟨#[34,92,98,116,110,102,114]⟩ kk)).mono ?_
     rintro e w4 ⟨rfl,hQ4⟩
     go_wp2
     go_roundg (s.size-(a+1))
     case measure=>rw[H.out];omega
     case rel=>exact ⟨a+1,hlt,rfl,by simp,by rw[← J.out _ (by rw[o.out])];rw[L.out,ZH] at hQ4;exact hQ4⟩
   ·have E:(s.size:Int)≤a:=by omega
    have C:34::(s.data.toList.take a).flatMap Lx.qb++[34]=Lx.quote s.data.toList:=by rw[List.take_of_length_le (by show s.size≤a;omega)];rfl
    have R:=QA C
    clear C
    go_wp2_with fail
    refine (B.byte (by omega) 34).mono ?_
    rintro e w3 ⟨rfl,hQ3⟩
    rw[R.out] at hQ3
    go_wp2_with fail
    refine (hQ3.string).mono ?_
    rintro e w4 ⟨rfl,hQ4⟩
    go_wp2
    refine bodyPost_ret (v:=.tuple #[.string ⟨(Lx.quote s.data.toList).toArray⟩,.int .i64 0]) (by simp[results,Tryz.results90,go_sem]) rfl ?_
    exact ⟨hb1.trans (hQ4.bel.mono (by have:=hb1.size;omega)),.inl ⟨trivial,rfl⟩⟩
end Go.Proofs.YtefjgpkpplkkgaaGreatDoor
