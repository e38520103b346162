/-
  The reader: how it lies in memory; Peek, Fail, Wrong, Next, walked. The reader: Is, Word, walked. The reader: Take, Want, Name, End, Down, Up, Some, walked. The reader: Type, walked.
-/
import Derived.Test.YtedeapbonbbacaaGreatDoorZr3
import Derived.Test.YtedeapbonbbacaaGreatDoorZr13
import Derived.Test.YtedeapbonbbacaaGreatDoorZr8
import Derived.Test.YtedeapbonbbacaaGreatDoorZr7
import Derived.Deep.LoopGhost
open Go.Lib renaming hid → QA
open List renaming drop_eq_getElem_cons → ZC, getElem?_eq_getElem → ZH
open Nat renaming le_refl → QM
namespace Go.Proofs.YtedeapbonbbacaaGreatDoor
set_option maxRecDepth 100000
set_option maxHeartbeats 4000000
set_option linter.unusedSimpArgs false
set_option linter.unusedVariables false
open Go Go.RowKit
@[go_sem high] theorem LA (x y z : Value) (w : World) : (Instr.field 70 (.agg #[x, y, z]) 0).run Tryz.prog w = .ok x w := by kernel_rfl
@[go_sem high] theorem Kw (x y z : Value) (w : World) : (Instr.field 70 (.agg #[x, y, z]) 1).run Tryz.prog w = .ok y w := by kernel_rfl
@[go_sem high] theorem Kx (x y z : Value) (w : World) : (Instr.field 70 (.agg #[x, y, z]) 2).run Tryz.prog w = .ok z w := by kernel_rfl
theorem Hv (w:World) (n m:Nat):(w.drewN n).drewN m=w.drewN (n+m):=by simp[World.drewN,Nat.add_assoc]
theorem Gi (w:World) (T:TypeId) (x y z k t a:Value) (n m:Nat) :
  ((((((w.alloc (.cells #[x,y,z] T)).drewN n).setCell ⟨w.heap.size,0,none⟩ k).setCell ⟨w.heap.size,1,none⟩ t).setCell ⟨w.heap.size,2,none⟩ a).drewN m)=(w.alloc (.cells #[k,t,a] T)).drewN (n+m):=by
 have o:∀(v:World) (p:Addr) (u:Value),(v.drewN n).setCell p u=(v.setCell p u).drewN n:=λ_ _ _=>rfl
 rw[o,o,o,Hv,World.setCell_alloc_at _ _ _ _ _ rfl,World.setCell_alloc_at _ _ _ _ _ rfl,World.setCell_alloc_at _ _ _ _ _ rfl];rfl
structure Je (ts:List Lx.Tok):Prop where
 len:ts.length≤1501
 last:∀t,ts[ts.length-1]?=some t→t.kind=0
 kind:∀t∈ts,t.kind≤5
 size:∀t∈ts,t.text.length≤1000000000
 at_:∀t∈ts,t.at_≤4096
structure AL (w:World) (b g:Nat) (s:Rd.St):Prop where
 ex:∃(T:TypeId) (cap:Nat) (ts:List Lx.Tok) (i:Nat),w.heap[b]?=some (.cells #[.slice (some ⟨g,0,none⟩) ts.length cap,.int .i64 i,.int .i64 s.deep,.int .i64 s.at_,.int .i64 s.err] T (0,0)) ∧
  BH w g ts∧s.rest=ts.drop i∧i<ts.length∧Je ts
 ne:g≠b
section
variable {w w' : World} {b g : Nat} {s : Rd.St}
theorem AL.lt (h:AL w b g s):b<w.heap.size∧g<w.heap.size:=by
 obtain⟨⟨T,B,D,i,o,A,C,F,E⟩,_⟩:=h;exact⟨block_lt o,A.lt⟩
theorem BH.heap {w w':World} {g:Nat} {ts:List Lx.Tok} (h:BH w g ts) (hs:w.heap.size≤w'.heap.size) (he:w'.heap[g]?=w.heap[g]?):BH w' g ts:=by
 have e:∀k,w'.cell? ⟨g,k,none⟩=w.cell? ⟨g,k,none⟩:=λk=>World.cell?_of_block he
 exact⟨Nat.lt_of_lt_of_le h.lt hs,λi t x=>(e _).trans (h.kind i t x),λi t x=>(e _).trans (h.text i t x),λi t x=>(e _).trans (h.at_ i t x)⟩
theorem AL.to (h:AL w b g s) (hs:w.heap.size≤w'.heap.size) (hb:w'.heap[b]?=w.heap[b]?) (hg:w'.heap[g]?=w.heap[g]?):AL w' b g s:=by
 obtain⟨⟨T,o,C,i,B,F,A,G,D⟩,E⟩:=h;exact⟨⟨T,o,C,i,by rw[hb];exact B,F.heap hs hg,A,G,D⟩,E⟩
theorem AL.but {X:Nat→Prop} (h:AL w b g s) (hb:But X w w') (hX:∀k,X k→k≠b∧k≠g):AL w' b g s :=
 h.to hb.size (hb.block b h.lt.1 (λx=>(hX _ x).1 rfl)) (hb.block g h.lt.2 (λx=>(hX _ x).2 rfl))
theorem AL.below (h:AL w b g s) (hb:Below w.heap.size w w'):AL w' b g s:=h.to hb.size (hb.block b h.lt.1) (hb.block g h.lt.2)
theorem AL.drewN (h:AL w b g s) (n:Nat):AL (w.drewN n) b g s:=h.to (QM _) rfl rfl
theorem FB {ts l:List Lx.Tok} {i:Nat} (h:l=ts.drop i) (hi:i<ts.length):∃t r,l=t::r∧ts[i]?=some t∧r=ts.drop (i+1) :=
 ⟨ts[i],ts.drop (i+1),by rw[h,ZC hi],ZH hi,rfl⟩
theorem AL.open_ (h:AL w b g s):∃(cap n i:Nat),w.cell? ⟨b,0,none⟩=some (.slice (some ⟨g,0,none⟩) n cap)∧w.cell? ⟨b,1,none⟩=some (.int .i64 i)∧i<n∧n≤1501 ∧
  w.cell? ⟨g,i*3,none⟩=some (.int .i64 (Rd.peek s).kind)∧w.cell? ⟨g,i*3+1,none⟩=some (.string ⟨(Rd.peek s).text.toArray⟩)∧w.cell? ⟨g,i*3+2,none⟩=some (.int .i64 (Rd.peek s).at_):=by
 obtain⟨⟨T,cap,G,i,C,B,E,D,H⟩,J⟩:=h;obtain⟨t,r,F,A,I⟩:=FB E D;have o:Rd.peek s=t:=by unfold Rd.peek;rw[F];rfl
 refine⟨cap,G.length,i,by simp[World.cell?,C],by simp[World.cell?,C],D,H.len,?_,?_,?_⟩
 ·rw[o,Nat.mul_comm];exact B.kind i t A
 ·rw[o,Nat.mul_comm];exact B.text i t A
 ·rw[o,Nat.mul_comm];exact B.at_ i t A
theorem AL.c2 (h:AL w b g s):w.cell? ⟨b,2,none⟩=some (.int .i64 s.deep):=by
 obtain⟨⟨T,A,B,i,o,_⟩,_⟩:=h;simp[World.cell?,o]
theorem AL.c3 (h:AL w b g s):w.cell? ⟨b,3,none⟩=some (.int .i64 s.at_):=by
 obtain⟨⟨T,A,B,i,o,_⟩,_⟩:=h;simp[World.cell?,o]
theorem AL.c4 (h:AL w b g s):w.cell? ⟨b,4,none⟩=some (.int .i64 s.err):=by
 obtain⟨⟨T,A,B,i,o,_⟩,_⟩:=h;simp[World.cell?,o]
theorem AL.fz (h:AL w b g s) (k:Nat):w.frozen? ⟨b,k,none⟩=false:=by
 obtain⟨⟨T,A,B,i,o,_⟩,_⟩:=h;simp[World.frozen?,o]
theorem Ai {w:World} {b:Nat} {cs:Array Value} {T:TypeId} {fz:Nat×Nat} {k:Nat} {v:Value} (h:w.heap[b]?=some (.cells cs T fz)):(w.setCell ⟨b,k,none⟩ v).heap[b]?=some (.cells (cs.setIfInBounds k v) T fz):=by
 simp[World.setCell,Array.getElem?_modify,h]
theorem AJ {w:World} {b k c:Nat} {v:Value} (h:c≠b):(w.setCell ⟨b,k,none⟩ v).heap[c]?=w.heap[c]?:=Below.heap_setCell _ _ _ _ (λe=>h e)
theorem AP {w:World} {p:Addr} {v:Value}:(w.setCell p v).heap.size=w.heap.size:=by simp[World.setCell]
theorem AL.set_ne (h:AL w b g s) {c:Nat} (hb:b≠c) (hg:g≠c) (k:Nat) (v:Value):AL (w.setCell ⟨c,k,none⟩ v) b g s :=
 h.to (by rw[AP];exact QM _) (AJ hb) (AJ hg)
theorem AL.failed (h:AL w b g s) (hs:s.err=0) (e:Nat):AL ((w.setCell ⟨b,4,none⟩ (.int .i64 e)).setCell ⟨b,3,none⟩ (.int .i64 (Rd.peek s).at_)) b g (Rd.fail e s):=by
 obtain⟨⟨T,A,D,i,C,G,B,H,E⟩,o⟩:=h;unfold Rd.fail;rw[if_pos hs];have F:=Ai (k:=3) (v:=.int .i64 (Rd.peek s).at_) (Ai (k:=4) (v:=.int .i64 e) C);exact⟨⟨T,A,D,i,by rw[F];rfl,G.heap (by rw[AP,AP];exact QM _) (by rw[AJ o,AJ o]),B,H,E⟩,o⟩
theorem AL.nexted (h:AL w b g s) (hs:s.err=0) (hk:(Rd.peek s).kind≠0) {i:Nat} (hi:w.cell? ⟨b,1,none⟩=some (.int .i64 i)):AL (w.setCell ⟨b,1,none⟩ (.int .i64 (i+1))) b g (Rd.next s):=by
 obtain⟨⟨T,B,o,j,G,N,K,J,F⟩,D⟩:=h;have C:(i:Int)=j:=by
  simp[World.cell?,G]at hi;exact hi.symm
 obtain⟨t,r,E,L,I⟩:=FB K J;have M:Rd.peek s=t:=by unfold Rd.peek;rw[E];rfl
 unfold Rd.next;rw[if_pos ⟨hs,hk⟩];have A:j+1<o.length:=by
  rcases Nat.lt_or_ge (j+1) o.length with h|h
  ·exact h
  ·have:=F.last t (by rw[show o.length-1=j by omega];exact L);rw[M]at hk;exact absurd this hk
 have H:=Ai (k:=1) (v:=.int .i64 (i+1)) G;exact⟨⟨T,B,o,j+1,by rw[H,C];rfl,N.heap (by rw[AP];exact QM _) (by rw[AJ D]),by show s.rest.drop 1=_;rw[E,I];rfl,A,F⟩,D⟩
end
theorem A3 (b g:Nat) (s:Rd.St) (w:World) (h:AL w b g s) :
  Calls Tryz.prog 20 #[.pointer (some ⟨b,0,none⟩)] w λe w'=>e=.returned (.agg #[.int .i64 (Rd.peek s).kind,.string ⟨(Rd.peek s).text.toArray⟩,.int .i64 (Rd.peek s).at_])∧Below w.heap.size w w':=by
 obtain⟨C,n,i,F,k1,hi,I,D,E,G⟩:=h.open_;have A:=h.lt;have o:(0:Int)≤(i:Int):=Int.natCast_nonneg _;have B:(i:Int)<(n:Int):=by omega
 have H:=QA h;clear h;go_enter Tryz.func20,Tryz.ntmps20;go_wp2_with fail;refine AO [10] (by kernel_rfl) (by kernel_rfl) ?_;simp only[BM,List.take_succ_cons,List.take_zero,List.drop_succ_cons,List.drop_zero,Nat.sub_zero,Nat.reduceSub,Nat.reduceAdd]
 repeat (go_big_quiet_step (fail))
 refine wpQuiet_nil ?_;rintro _ ⟨nq,rfl⟩;go_wp2
 repeat (go_big_quiet_step (fail))
 refine wpQuiet_nil ?_;rintro _ ⟨nr,rfl⟩;rw[Gi];go_wp2;refine bodyPost_ret (v:=.agg #[.int .i64 (Rd.peek s).kind,.string ⟨(Rd.peek s).text.toArray⟩,.int .i64 (Rd.peek s).at_]) (by simp[results,Tryz.results20,go_sem]) rfl ⟨rfl,?_⟩
 (repeat' (first|(with_reducible assumption)|(with_reducible exact Below.refl _ _)|(with_reducible refine Below.drewN ?_ _)|(with_reducible refine Below.drew ?_)|(with_reducible refine Below.alloc ?_ ?_ _)))<;>(simp;try omega)
theorem E9 (b g e:Nat) (s:Rd.St) (w:World) (h:AL w b g s) :
  Calls Tryz.prog 52 #[.pointer (some ⟨b,0,none⟩),.int .i64 e] w λr w'=>r=.returned (.tuple #[])∧AL w' b g (Rd.fail e s)∧Fr b w w':=by
 have D:=h.c4;have H:=QA h;clear h;go_enter Tryz.func52,Tryz.ntmps52;by_cases hs:s.err=0
 ·have A:=eqT (n:=s.err) (k:=0) (by omega);go_wp2_with fail;refine (A3 b g s w H.out).mono ?_;rintro r w1 ⟨rfl,hb1⟩;have o:=H.out.below hb1;have E:=o.c4;have G:=o.c3;have I:=o.fz 4;have F:=o.fz 3;have C:=QA o;have B:=QA hb1;clear o hb1 D;go_wp2;go_end0;exact⟨rfl,C.out.failed hs e,Fr.set (Fr.set (But.of_below B.out) _ _) _ _⟩
 ·have A:=eqF (n:=s.err) (k:=0) (by omega);go_wp2_with fail;go_end0;refine⟨rfl,?_,But.refl _ _⟩;unfold Rd.fail;rw[if_neg hs];exact H.out
theorem A6 (b g:Nat) (s:Rd.St) (w:World) (h:AL w b g s) :
  Calls Tryz.prog 26 #[.pointer (some ⟨b,0,none⟩)] w λr w'=>r=.returned (.tuple #[])∧AL w' b g (Rd.wrong s)∧Fr b w w':=by
 have H:=QA h;clear h;go_enter Tryz.func26,Tryz.ntmps26;go_wp2_with fail;refine (E9 b g 41 s w H.out).mono ?_;rintro r w1 ⟨rfl,h1,hf1⟩;go_wp2_with fail;go_end0;exact⟨rfl,h1,hf1⟩
structure TkB (w:World) (c:Nat) (t:Lx.Tok):Prop where
 c0:w.cell? ⟨c,0,none⟩=some (.int .i64 t.kind)
 c1:w.cell? ⟨c,1,none⟩=some (.string ⟨t.text.toArray⟩)
 c2:w.cell? ⟨c,2,none⟩=some (.int .i64 t.at_)
theorem FF (w:World) (t:Lx.Tok) (T:TypeId):TkB (w.alloc (.cells #[.int .i64 t.kind,.string ⟨t.text.toArray⟩,.int .i64 t.at_] T)) w.heap.size t:=by
 exact⟨AK _ _ _ _ _ _ rfl,AK _ _ _ _ _ _ rfl,AK _ _ _ _ _ _ rfl⟩
structure TkZ (w:World) (c:Nat):Prop where
 c0:w.cell? ⟨c,0,none⟩=some (.int .i64 0)
 c1:w.cell? ⟨c,1,none⟩=some (.string ⟨#[]⟩)
 c2:w.cell? ⟨c,2,none⟩=some (.int .i64 0)
 f0:w.frozen? ⟨c,0,none⟩=false
 f1:w.frozen? ⟨c,1,none⟩=false
 f2:w.frozen? ⟨c,2,none⟩=false
theorem JD (w:World) (T:TypeId):TkZ (w.alloc (.cells #[.int .i64 0,.string ⟨#[]⟩,.int .i64 0] T)) w.heap.size:=by
 exact⟨AK _ _ _ _ _ _ rfl,AK _ _ _ _ _ _ rfl,AK _ _ _ _ _ _ rfl,Bq _ _ _ _,Bq _ _ _ _,Bq _ _ _ _⟩
theorem TkZ.below {w w':World} {c:Nat} (h:TkZ w c) (hc:c<w.heap.size) (hb:Below w.heap.size w w'):TkZ w' c:=by
 have e:=hb.block c hc;have A:∀k,w'.cell? ⟨c,k,none⟩=w.cell? ⟨c,k,none⟩:=λk=>World.cell?_of_block e
 have o:∀k,w'.frozen? ⟨c,k,none⟩=w.frozen? ⟨c,k,none⟩:=λk=>World.frozen?_of_block e
 exact⟨(A _).trans h.c0,(A _).trans h.c1,(A _).trans h.c2,(o _).trans h.f0,(o _).trans h.f1,(o _).trans h.f2⟩
theorem Aa (b g:Nat) (s:Rd.St) (w:World) (h:AL w b g s) :
  Calls Tryz.prog 42 #[.pointer (some ⟨b,0,none⟩)] w λr w'=>r=.returned (.agg #[.int .i64 (Rd.peek s).kind,.string ⟨(Rd.peek s).text.toArray⟩,.int .i64 (Rd.peek s).at_])∧AL w' b g (Rd.next s)∧Fr b w w':=by
 have W:=h.lt;have H:=QA h;clear h;go_enter Tryz.func42,Tryz.ntmps42;go_wp2_with fail;have A:Below w.heap.size w (w.alloc (.cells #[.int .i64 0,.string ⟨#[]⟩,.int .i64 0] 70)):=(Below.refl _ _).alloc (QM _) _;have N:=JD w 70;refine (A3 b g s _ (H.out.below A)).mono ?_;rintro r w1 ⟨rfl,hb1⟩;have G:=N.below (by simp) hb1;have o:=A.trans (hb1.mono A.size);obtain⟨tk,D⟩:∃t,t=Rd.peek s:=⟨_,rfl⟩
 have B:=QA D;rw[← D];have F:Below w.heap.size w (w1.alloc (.cells #[.int .i64 tk.kind,.string ⟨tk.text.toArray⟩,.int .i64 tk.at_] 70)):=o.alloc o.size _;have X:=FF w1 tk 70;have M:TkZ (w1.alloc (.cells #[.int .i64 tk.kind,.string ⟨tk.text.toArray⟩,.int .i64 tk.at_] 70)) w.heap.size:=G.below (by have:=hb1.size;simp at this;omega) ((Below.refl _ _).alloc (QM _) _);have J:=H.out.below F;have c4:=J.c4;have f1:=J.fz 1;obtain⟨_,_,i,_,c1,_⟩:=J.open_;obtain⟨t0,t1,t2⟩:=X;obtain⟨S,Q,O,y0,y1,y2⟩:=M;have C:¬b=w.heap.size:=by omega
 have U:¬w.heap.size=b:=by omega
 have n3:¬b=w1.heap.size:=by have:=o.size;omega
 have n4:¬w1.heap.size=b:=by have:=o.size;omega
 have Z:¬w.heap.size=w1.heap.size:=by have:=hb1.size;simp at this;omega
 have n6:¬w1.heap.size=w.heap.size:=λe=>Z e.symm
 have I:=QA F;have T:=QA J;clear F hb1 o D J N G A;by_cases hnx:s.err=0∧tk.kind≠0
 ·obtain⟨L,K⟩:=hnx;have R:=eqT (n:=s.err) (k:=0) (by omega);have V:=neT (n:=tk.kind) (k:=0) (by omega);have P:Hid (s.err=0∧(Rd.peek s).kind≠0):=QA ⟨L,by rw[← B.out];exact K⟩;clear L K;go_wp2_with fail;refine bodyPost_ret (v:=.agg #[.int .i64 tk.kind,.string ⟨tk.text.toArray⟩,.int .i64 tk.at_]) (by simp[results,Tryz.results42,go_sem,S,Q,O,C,U]) rfl ⟨by rw[B.out],?_,?_⟩
  ·exact (((T.out.nexted P.out.1 P.out.2 c1).set_ne C (by omega) _ _).set_ne C (by omega) _ _).set_ne C (by omega) _ _
  ·exact But.setCell (But.setCell (But.setCell (Fr.set (But.of_below I.out) _ _) (.inr (QM _)) _) (.inr (QM _)) _) (.inr (QM _)) _
 ·have Y:Hid (Rd.next s=s):=by
   unfold Rd.next;rw[if_neg (by rw[← B.out];exact hnx)];exact QA rfl
  have E:(((s.err:Int)==0)=false)∨(((s.err:Int)==0)=true∧((tk.kind:Int) != 0)=false):=by
   by_cases L:s.err=0
   ·refine .inr ⟨eqT (by omega),neF ?_⟩;by_cases K:tk.kind=0
    ·omega
    ·exact absurd ⟨L,K⟩ hnx
   ·exact .inl (eqF (by omega))
  clear hnx;rcases E with R|⟨R,V⟩
  all_goals
   go_wp2_with fail;refine bodyPost_ret (v:=.agg #[.int .i64 tk.kind,.string ⟨tk.text.toArray⟩,.int .i64 tk.at_]) (by simp[results,Tryz.results42,go_sem,S,Q,O,C,U]) rfl ⟨by rw[B.out],?_,?_⟩
   ·rw[Y.out];exact ((T.out.set_ne C (by omega) _ _).set_ne C (by omega) _ _).set_ne C (by omega) _ _
   ·exact But.setCell (But.setCell (But.setCell (But.of_below I.out) (.inr (QM _)) _) (.inr (QM _)) _) (.inr (QM _)) _
def BB (w:World) (v:Value) (ls:List (List UInt8)):Prop :=
 ∃a cap,v=.slice a ls.length cap∧∀(i:Nat) s,ls[i]?=some s→∃b off,a=some ⟨b,off,none⟩∧b<w.heap.size∧w.cell? ⟨b,off+i,none⟩=some (.string ⟨s.toArray⟩)
theorem BB.form {w:World} {v:Value} {ls:List (List UInt8)} (h:BB w v ls):∃a cap,v=.slice a ls.length cap:=by
 obtain⟨a,cap,o,A⟩:=h;exact⟨a,cap,o⟩
theorem BB.at {w:World} {a:Option Addr} {n cap:Nat} {ls:List (List UInt8)} (h:BB w (.slice a n cap) ls) {i:Nat} {s:List UInt8} (hi:ls[i]?=some s) :
  ∃b off,a=some ⟨b,off,none⟩∧b<w.heap.size∧w.cell? ⟨b,off+i,none⟩=some (.string ⟨s.toArray⟩):=by
 obtain⟨E,o,A,C⟩:=h;obtain⟨b,off,e,B,D⟩:=C i s hi;simp only[Value.slice.injEq]at A;exact⟨b,off,by rw[A.1,e],B,D⟩
theorem BB.below {w w':World} {v:Value} {ls:List (List UInt8)} (h:BB w v ls) (hb:Below w.heap.size w w'):BB w' v ls:=by
 obtain⟨a,A,C,D⟩:=h;refine⟨a,A,C,λi s hi=>?_⟩;obtain⟨b,o,e,B,E⟩:=D i s hi;exact⟨b,o,e,Nat.lt_of_lt_of_le B hb.size,by rw[hb.cell (p:=⟨b,o+i,none⟩) B];exact E⟩
theorem BB.nil (w:World):BB w (.slice none 0 0) []:=⟨none,0,rfl,λi s h=>by simp at h⟩
theorem Bh (w:World) (ls:List (List UInt8)) (cs:Array Value) (T:TypeId) (hc:cs=(ls.map λs=>Value.string ⟨s.toArray⟩).toArray):BB (w.alloc (.cells cs T)) (.slice (some ⟨w.heap.size,0,none⟩) ls.length ls.length) ls:=by
 subst hc;refine⟨_,_,rfl,λi s hi=>⟨w.heap.size,0,rfl,by simp,?_⟩⟩;rw[Nat.zero_add];exact AK _ _ _ _ _ _ (by simp[hi])
theorem Eu {ls:List (List UInt8)} {p:List UInt8→Bool} {j:Nat} {s:List UInt8} (h:ls[j]?=some s):(ls.drop j).any p=(p s||(ls.drop (j+1)).any p):=by
 obtain⟨o,rfl⟩:=List.getElem?_eq_some_iff.1 h;rw[ZC o,List.any_cons]
theorem Bn (b g:Nat) (s:Rd.St) (v:Value) (ls:List (List UInt8)) (w:World) (h:AL w b g s) (hV:BB w v ls) (hl:ls.length≤1000000) :
  Calls Tryz.prog 23 #[.pointer (some ⟨b,0,none⟩),v] w λr w'=>r=.returned (.bool (ls.any (Rd.isS s)))∧Below w.heap.size w w':=by
 obtain⟨va,Z,rfl⟩:=hV.form;have H:=QA h;have T:=QA hV;clear h hV;go_enter Tryz.func23,Tryz.ntmps23;go_wp2_with fail;refine (A3 b g s w H.out).mono ?_;rintro r w1 ⟨rfl,hb1⟩;obtain⟨tk,D⟩:∃t,t=Rd.peek s:=⟨_,rfl⟩
 have E:=QA D;rw[← D];obtain⟨P,B⟩:∃W,W=w1.alloc (.cells #[.int .i64 tk.kind,.string ⟨tk.text.toArray⟩,.int .i64 tk.at_] 70):=⟨_,rfl⟩
 have G:Below w.heap.size w P:=by rw[B];exact hb1.alloc hb1.size _
 have R:=FF w1 tk 70;rw[← B]at R;have c4:=(H.out.below G).c4;obtain⟨t0,t1,t2⟩:=R;have F:=QA G;have V:=QA B;clear G hb1 D B;go_wp2_with fail;rw[← V.out]
 go_loopg [12] ls.length (λk s12 wr=>∃j:Nat,j≤ls.length∧k=ls.length-j∧s12=.int .i64 (j:Nat)∧(ls.drop j).any (Rd.isS s)=ls.any (Rd.isS s)∧wr=P)
 case atStart=>exact⟨0,Nat.zero_le _,rfl,rfl,rfl,rfl⟩
 case round =>
  obtain⟨j,Y,Q,rfl,C,rfl⟩:=hrel;have N:=QA Q;have o:=QA C;clear Q C;have U:(0:Int)≤(j:Int):=Int.natCast_nonneg _;by_cases hjn:j<ls.length
  ·have I:(j:Int)<(ls.length:Int):=by omega
   obtain⟨c,L⟩:∃c,ls[j]?=some c:=⟨_,ZH hjn⟩
   obtain⟨cb,co,rfl,_,M⟩:=(T.out.below F.out).at L;have A:=QA (Eu (p:=Rd.isS s) L);clear L;by_cases he:s.err=0
   ·have X:=eqT (n:=s.err) (k:=0) (by omega);by_cases hkd:tk.kind=5
    ·have S:=eqT (n:=tk.kind) (k:=5) (by omega);by_cases htx:tk.text=c
     ·have J:(tk.text==c)=true:=by rw[htx];simp
      have O:Hid (true=ls.any (Rd.isS s)):=by
       rw[← o.out,A.out];unfold Rd.isS;rw[← E.out,he,hkd,htx];exact QA (by simp)
      clear htx he hkd;go_wp2;go_ret;exact⟨congrArg (λb=>Ending.returned (.bool b)) O.out,F.out⟩
     ·have J:(tk.text==c)=false:=by rw[beq_eq_false_iff_ne];exact htx
      have K:Hid (Rd.isS s c=false):=by
       unfold Rd.isS;rw[← E.out,decide_eq_false htx,Bool.and_false];exact QA rfl
      clear htx he hkd;go_wp2;go_roundg (ls.length-(j+1))
      case measure=>rw[N.out];omega
      case rel=>exact⟨j+1,hjn,rfl,by simp,by rw[← o.out,A.out,K.out,Bool.false_or],rfl⟩
    ·have S:=eqF (n:=tk.kind) (k:=5) (by omega);have K:Hid (Rd.isS s c=false):=by
      unfold Rd.isS;rw[← E.out,decide_eq_false hkd,Bool.and_false,Bool.false_and];exact QA rfl
     clear he hkd;go_wp2;go_roundg (ls.length-(j+1))
     case measure=>rw[N.out];omega
     case rel=>exact⟨j+1,hjn,rfl,by simp,by rw[← o.out,A.out,K.out,Bool.false_or],rfl⟩
   ·have X:=eqF (n:=s.err) (k:=0) (by omega);have K:Hid (Rd.isS s c=false):=by
     unfold Rd.isS;rw[decide_eq_false he,Bool.false_and,Bool.false_and];exact QA rfl
    clear he;go_wp2;go_roundg (ls.length-(j+1))
    case measure=>rw[N.out];omega
    case rel=>exact⟨j+1,hjn,rfl,by simp,by rw[← o.out,A.out,K.out,Bool.false_or],rfl⟩
  ·have I:(ls.length:Int)≤(j:Int):=by omega
   have O:Hid (false=ls.any (Rd.isS s)):=by
    rw[← o.out,List.drop_of_length_le (by omega)];exact QA rfl
   go_wp2;go_ret;exact⟨congrArg (λb=>Ending.returned (.bool b)) O.out,F.out⟩
theorem BX (b g:Nat) (s:Rd.St) (c:List UInt8) (T:TypeId) (w:World) (h:AL w b g s) :
  Calls Tryz.prog 23 #[.pointer (some ⟨b,0,none⟩),.slice (some ⟨w.heap.size,0,none⟩) 1 1] (w.alloc (.cells #[.string ⟨c.toArray⟩] T)) λr w'=>r=.returned (.bool (Rd.isS s c))∧Below w.heap.size w w':=by
 have o:Below w.heap.size w (w.alloc (.cells #[.string ⟨c.toArray⟩] T)):=(Below.refl _ _).alloc (QM _) _;refine (Bn b g s _ [c] _ (h.below o) (Bh w [c] _ T rfl) (by simp)).mono ?_;rintro r w' ⟨rfl,hb2⟩;exact⟨by simp,o.trans (hb2.mono o.size)⟩
theorem An (b g:Nat) (s:Rd.St) (v:Value) (ls:List (List UInt8)) (w:World) (h:AL w b g s) (hV:BB w v ls) (hl:ls.length≤1000000) :
  Calls Tryz.prog 21 #[.pointer (some ⟨b,0,none⟩),v] w λr w'=>r=.returned (.bool (Rd.isW s ls))∧Below w.heap.size w w':=by
 obtain⟨va,vc,rfl⟩:=hV.form;have H:=QA h;have Y:=QA hV;clear h hV;go_enter Tryz.func21,Tryz.ntmps21;go_wp2_with fail;refine (A3 b g s w H.out).mono ?_;rintro r w1 ⟨rfl,hb1⟩;obtain⟨tk,F⟩:∃t,t=Rd.peek s:=⟨_,rfl⟩
 have L:=QA F;rw[← F];obtain⟨T,B⟩:∃W,W=w1.alloc (.cells #[.int .i64 tk.kind,.string ⟨tk.text.toArray⟩,.int .i64 tk.at_] 70):=⟨_,rfl⟩
 have G:Below w.heap.size w T:=by rw[B];exact hb1.alloc hb1.size _
 have V:=FF w1 tk 70;rw[← B]at V;have R:=(H.out.below G).c4;have c4:=R;rw[B]at c4;obtain⟨t0,t1,t2⟩:=V;have o:=QA G;have O:=QA B;clear G hb1 F B;by_cases he:s.err=0
 ·have e4:=eqT (n:=s.err) (k:=0) (by omega);have P:=neF (n:=s.err) (k:=0) (by omega);by_cases hkd:tk.kind=1
  ·have X:=neF (n:=tk.kind) (k:=1) (by omega);have Q:Hid (∀ws,Rd.isW s ws=(ws.any (λw=>decide (tk.text=w))||ws.isEmpty)):=QA λws=>by
    unfold Rd.isW Rd.isN;rw[← L.out,decide_eq_true he,decide_eq_true hkd];rfl
   clear he hkd;go_wp2_with fail;rw[← O.out]
   go_loopg [22] ls.length (λk s22 wr=>∃j:Nat,j≤ls.length∧k=ls.length-j∧s22=.int .i64 (j:Nat)∧(ls.drop j).any (λw=>decide (tk.text=w))=ls.any (λw=>decide (tk.text=w))∧wr=T)
   case atStart=>exact⟨0,Nat.zero_le _,rfl,rfl,rfl,rfl⟩
   case round =>
    obtain⟨j,hj,U,rfl,D,rfl⟩:=hrel;have HK:=QA U;have A:=QA D;clear U D;have ab:(0:Int)≤(j:Int):=Int.natCast_nonneg _;by_cases hjn:j<ls.length
    ·have I:(j:Int)<(ls.length:Int):=by omega
     obtain⟨c,M⟩:∃c,ls[j]?=some c:=⟨_,ZH hjn⟩
     obtain⟨cb,co,rfl,_,N⟩:=(Y.out.below o.out).at M;have J:=QA (Eu (p:=λw=>decide (tk.text=w)) M);clear M;by_cases htx:tk.text=c
     ·have K:(tk.text==c)=true:=by rw[htx];simp
      have C:Hid (true=Rd.isW s ls):=by
       rw[Q.out,← A.out,J.out,decide_eq_true htx];exact QA rfl
      clear htx;go_wp2;go_ret;exact⟨congrArg (λb=>Ending.returned (.bool b)) C.out,o.out⟩
     ·have K:(tk.text==c)=false:=by rw[beq_eq_false_iff_ne];exact htx
      have Z:=QA (decide_eq_false htx);clear htx;go_wp2;go_roundg (ls.length-(j+1))
      case measure=>rw[HK.out];omega
      case rel=>exact⟨j+1,hjn,rfl,by simp,by rw[← A.out,J.out];show _=(decide (tk.text=c)||_);rw[Z.out,Bool.false_or],rfl⟩
    ·have I:(ls.length:Int)≤(j:Int):=by omega
     have E:Hid (ls.any (λw=>decide (tk.text=w))=false):=by
      rw[← A.out,List.drop_of_length_le (by omega)];exact QA rfl
     by_cases hz:ls=[]
     ·have C:Hid (true=Rd.isW s ls):=by rw[Q.out,E.out,hz];exact QA rfl
      have S:=eqT (n:=ls.length) (k:=0) (by simp[hz]);clear hz;go_wp2;go_ret;exact⟨congrArg (λb=>Ending.returned (.bool b)) C.out,o.out⟩
     ·have C:Hid (false=Rd.isW s ls):=by
       rw[Q.out,E.out];cases hls:ls with
       | nil=>exact absurd hls hz
       | cons=>exact QA rfl
      have S:=eqF (n:=ls.length) (k:=0) (by
       intro e;exact hz (List.eq_nil_of_length_eq_zero (by omega)))
      clear hz;go_wp2;go_ret;exact⟨congrArg (λb=>Ending.returned (.bool b)) C.out,o.out⟩
  ·have X:=neT (n:=tk.kind) (k:=1) (by omega);have C:Hid (false=Rd.isW s ls):=by
    unfold Rd.isW Rd.isN;rw[← L.out,decide_eq_false hkd,Bool.and_false,Bool.false_and];exact QA rfl
   clear he hkd;go_wp2_with fail;rw[← O.out];go_ret;exact⟨congrArg (λb=>Ending.returned (.bool b)) C.out,o.out⟩
 ·have e4:=eqF (n:=s.err) (k:=0) (by omega);have P:=neT (n:=s.err) (k:=0) (by omega);have C:Hid (false=Rd.isW s ls):=by
   unfold Rd.isW Rd.isN;rw[decide_eq_false he,Bool.false_and,Bool.false_and];exact QA rfl
  clear he;go_wp2_with fail;rw[← O.out];go_ret;exact⟨congrArg (λb=>Ending.returned (.bool b)) C.out,o.out⟩
theorem B9 (b g:Nat) (s:Rd.St) (w:World) (h:AL w b g s) :
  Calls Tryz.prog 21 #[.pointer (some ⟨b,0,none⟩),.slice none 0 0] w λr w'=>r=.returned (.bool (Rd.isN s))∧Below w.heap.size w w':=by
 refine (An b g s _ [] w h (BB.nil w) (by simp)).mono ?_;rintro r w' ⟨rfl,hb⟩;exact⟨by unfold Rd.isW;simp,hb⟩
theorem Gc (b g:Nat) (s:Rd.St) (c:List UInt8) (T:TypeId) (w:World) (h:AL w b g s) :
  Calls Tryz.prog 21 #[.pointer (some ⟨b,0,none⟩),.slice (some ⟨w.heap.size,0,none⟩) 1 1] (w.alloc (.cells #[.string ⟨c.toArray⟩] T)) λr w'=>r=.returned (.bool (Rd.isW s [c]))∧Below w.heap.size w w':=by
 have o:Below w.heap.size w (w.alloc (.cells #[.string ⟨c.toArray⟩] T)):=(Below.refl _ _).alloc (QM _) _;refine (An b g s _ [c] _ (h.below o) (Bh w [c] _ T rfl) (by simp)).mono ?_;rintro r w' ⟨rfl,hb2⟩;exact⟨rfl,o.trans (hb2.mono o.size)⟩
theorem G8 (b g:Nat) (s:Rd.St) (c d:List UInt8) (T:TypeId) (w:World) (h:AL w b g s) :
  Calls Tryz.prog 21 #[.pointer (some ⟨b,0,none⟩),.slice (some ⟨w.heap.size,0,none⟩) 2 2] (w.alloc (.cells #[.string ⟨c.toArray⟩,.string ⟨d.toArray⟩] T)) λr w'=>r=.returned (.bool (Rd.isW s [c,d]))∧Below w.heap.size w w':=by
 have o:Below w.heap.size w (w.alloc (.cells #[.string ⟨c.toArray⟩,.string ⟨d.toArray⟩] T)):=(Below.refl _ _).alloc (QM _) _;refine (An b g s _ [c,d] _ (h.below o) (Bh w [c,d] _ T rfl) (by simp)).mono ?_;rintro r w' ⟨rfl,hb2⟩;exact⟨rfl,o.trans (hb2.mono o.size)⟩
theorem BC (b g:Nat) (s:Rd.St) (c:List UInt8) (w:World) (h:AL w b g s) :
  Calls Tryz.prog 47 #[.pointer (some ⟨b,0,none⟩),.string ⟨c.toArray⟩] w λr w'=>r=.returned (.bool (Rd.isS s c))∧AL w' b g (Rd.take c s)∧Fr b w w':=by
 have H:=QA h;clear h;go_enter Tryz.func47,Tryz.ntmps47;go_wp2_with fail;refine (BX b g s c _ w H.out).mono ?_;rintro r w1 ⟨rfl,hb1⟩;obtain⟨B,C⟩:∃B,B=Rd.isS s c:=⟨_,rfl⟩
 have A:=QA C;have D:=QA (H.out.below hb1);have o:=QA hb1;rw[← C];clear C hb1;cases B
 ·go_wp2_with fail;go_ret;refine⟨congrArg (λb=>Ending.returned (.bool b)) A.out,?_,But.of_below o.out⟩;unfold Rd.take;rw[if_neg (by rw[← A.out];simp)];exact D.out
 ·go_wp2_with fail;refine (Aa b g s w1 D.out).mono ?_;rintro r w2 ⟨rfl,h2,f2⟩;have E:=QA h2;have F:=QA f2;clear h2 f2;go_wp2_with fail;go_ret;refine⟨congrArg (λb=>Ending.returned (.bool b)) A.out,?_,(But.of_below o.out).trans F.out⟩;unfold Rd.take;rw[if_pos A.out.symm];exact E.out
theorem BE (b g:Nat) (s:Rd.St) (c:List UInt8) (w:World) (h:AL w b g s) :
  Calls Tryz.prog 51 #[.pointer (some ⟨b,0,none⟩),.string ⟨c.toArray⟩] w λr w'=>r=.returned (.tuple #[])∧AL w' b g (Rd.want c s)∧Fr b w w':=by
 have H:=QA h;clear h;go_enter Tryz.func51,Tryz.ntmps51;go_wp2_with fail;refine (BC b g s c w H.out).mono ?_;rintro r w1 ⟨rfl,h1,f1⟩;obtain⟨B,A⟩:∃B,B=Rd.isS s c:=⟨_,rfl⟩
 have o:=QA A;have D:=QA h1;have C:=QA f1;rw[← A];clear A h1 f1;cases B
 ·have E:Hid (AL w1 b g s):=by
   have:=D.out;unfold Rd.take at this;rw[if_neg (by rw[← o.out];simp)]at this;exact QA this
  go_wp2_with fail;refine (A6 b g s w1 E.out).mono ?_;rintro r w2 ⟨rfl,h2,f2⟩;go_wp2_with fail;go_end0;refine⟨rfl,?_,C.out.trans f2⟩;unfold Rd.want;rw[if_neg (by rw[← o.out];simp)];exact h2
 ·go_wp2_with fail;go_end0;refine⟨rfl,?_,C.out⟩;have:=D.out;unfold Rd.take at this;unfold Rd.want;rw[if_pos o.out.symm]at this ⊢;exact this
theorem Ac (b g:Nat) (s:Rd.St) (w:World) (h:AL w b g s) :
  Calls Tryz.prog 44 #[.pointer (some ⟨b,0,none⟩)] w λr w'=>r=.returned (.string ⟨(Rd.name s).2.toArray⟩)∧AL w' b g (Rd.name s).1∧Fr b w w':=by
 have H:=QA h;clear h;go_enter Tryz.func44,Tryz.ntmps44;go_wp2_with fail;refine (B9 b g s w H.out).mono ?_;rintro r w1 ⟨rfl,hb1⟩;obtain⟨B,C⟩:∃B,B=Rd.isN s:=⟨_,rfl⟩
 have F:=QA C;have G:=QA (H.out.below hb1);have o:=QA hb1;rw[← C];clear C hb1;cases B
 ·go_wp2_with fail;refine (A6 b g s w1 G.out).mono ?_;rintro r w2 ⟨rfl,h2,f2⟩;have D:=QA h2;have E:=QA f2;clear h2 f2;have e:Rd.name s=(Rd.wrong s,[]):=by unfold Rd.name;rw[if_neg (by rw[← F.out];simp)]
  have A:=QA e;clear e;go_wp2_with fail;go_ret;exact⟨by rw[A.out];rfl,by rw[A.out];exact D.out,(But.of_below o.out).trans E.out⟩
 ·go_wp2_with fail;refine (Aa b g s w1 G.out).mono ?_;rintro r w2 ⟨rfl,h2,f2⟩;have D:=QA h2;have E:=QA f2;clear h2 f2;have e:Rd.name s=(Rd.next s,(Rd.peek s).text):=by unfold Rd.name;rw[if_pos F.out.symm]
  have A:=QA e;clear e;go_wp2_with fail;go_ret;exact⟨by rw[A.out];rfl,by rw[A.out];exact D.out,(But.of_below o.out).trans E.out⟩
theorem AL.deeped {w:World} {b g:Nat} {s:Rd.St} (h:AL w b g s) (d:Int):AL (w.setCell ⟨b,2,none⟩ (.int .i64 d)) b g { s with deep:=d }:=by
 obtain⟨⟨T,o,D,i,C,G,B,H,E⟩,A⟩:=h;have F:=Ai (k:=2) (v:=.int .i64 d) C;exact⟨⟨T,o,D,i,by rw[F];rfl,G.heap (by rw[AP];exact QM _) (by rw[AJ A]),B,H,E⟩,A⟩
theorem Dx (b g:Nat) (s:Rd.St) (c:List UInt8) (w:World) (h:AL w b g s) (hd:-1000000≤s.deep∧s.deep≤1000000) :
  Calls Tryz.prog 66 #[.pointer (some ⟨b,0,none⟩),.string ⟨c.toArray⟩] w λr w'=>r=.returned (.tuple #[])∧AL w' b g (Rd.up c s)∧Fr b w w':=by
 have H:=QA h;obtain⟨C,B⟩:=hd;clear h;go_enter Tryz.func66,Tryz.ntmps66;go_wp2_with fail;refine (BE b g s c w H.out).mono ?_;rintro r w1 ⟨rfl,h1,f1⟩;have c2:=h1.c2;rw[Rd.want_deep]at c2;have D:=h1.fz 2;have A:=QA h1;have o:=QA f1;clear h1 f1;go_wp2;go_end0;refine⟨rfl,?_,o.out.setCell (.inl rfl) _⟩;have:=A.out.deeped (s.deep-1);show AL _ b g { Rd.want c s with deep:=(Rd.want c s).deep-1 };rw[Rd.want_deep];exact this
theorem CZ (b g:Nat) (s:Rd.St) (c:List UInt8) (w:World) (h:AL w b g s) (hd:-1000000≤s.deep∧s.deep≤1000000) :
  Calls Tryz.prog 63 #[.pointer (some ⟨b,0,none⟩),.string ⟨c.toArray⟩] w λr w'=>r=.returned (.tuple #[])∧AL w' b g (Rd.down c s)∧Fr b w w':=by
 have H:=QA h;obtain⟨O,P⟩:=hd;clear h;go_enter Tryz.func63,Tryz.ntmps63;go_wp2_with fail;refine (BX b g s c _ w H.out).mono ?_;rintro r w1 ⟨rfl,hb1⟩;obtain⟨B,I⟩:∃B,B=Rd.isS s c:=⟨_,rfl⟩
 have K:=QA I;have J:=QA (H.out.below hb1);have c2:=(H.out.below hb1).c2;have C:=QA hb1;rw[← I];clear I hb1;by_cases hx:B=true∧s.deep=16
 ·obtain⟨rfl,o⟩:=hx;have D:(s.deep==16)=true:=by rw[o];rfl
  have G:Hid (Rd.down c s={ Rd.want c (Rd.fail 42 s) with deep:=(Rd.want c (Rd.fail 42 s)).deep+1 }):=by
   unfold Rd.down;rw[if_pos ⟨K.out.symm,o⟩];exact QA rfl
  clear o;go_wp2_with fail;refine (E9 b g 42 s w1 J.out).mono ?_;rintro r w2 ⟨rfl,h2,f2⟩;have N:=QA h2;have M:=QA f2;clear h2 f2 c2;go_wp2_with fail;refine (BE b g (Rd.fail 42 s) c w2 N.out).mono ?_;rintro r w3 ⟨rfl,h3,f3⟩;have c2:=h3.c2;rw[Rd.want_deep,Rd.fail_deep]at c2;have L:=h3.fz 2;have E:=QA h3;have F:=QA f3;clear h3 f3;go_wp2;go_end0;refine⟨rfl,?_,(((But.of_below C.out).trans M.out).trans F.out).setCell (.inl rfl) _⟩;rw[G.out,Rd.want_deep,Rd.fail_deep];exact E.out.deeped (s.deep+1)
 ·have G:Hid (Rd.down c s={ Rd.want c s with deep:=(Rd.want c s).deep+1 }):=by
   unfold Rd.down;rw[if_neg (λh=>hx ⟨by rw[K.out];exact h.1,h.2⟩)];exact QA rfl
  have A:B=false∨(B=true∧(s.deep==16)=false):=by
   cases B
   ·exact .inl rfl
   ·refine .inr ⟨rfl,?_⟩;rw[beq_eq_false_iff_ne];exact λh=>hx ⟨rfl,h⟩
  clear hx;rcases A with rfl|⟨rfl,D⟩
  all_goals
   go_wp2_with fail;refine (BE b g s c w1 J.out).mono ?_;rintro r w3 ⟨rfl,h3,f3⟩;clear c2;have c2:=h3.c2;rw[Rd.want_deep]at c2;have L:=h3.fz 2;have E:=QA h3;have F:=QA f3;clear h3 f3;go_wp2;go_end0;refine⟨rfl,?_,((But.of_below C.out).trans F.out).setCell (.inl rfl) _⟩;rw[G.out,Rd.want_deep];exact E.out.deeped (s.deep+1)
namespace Rd
section
variable {α : Type} (c : List UInt8) (f : St → St × α)
end
end Rd
theorem GR {α:Type} (c:List UInt8) (f:Rd.St→Rd.St×α) (I:Rd.St→List α→World→Prop) (b g:Nat) (k:FuncId) (cap:Array Value) (hk:∀w,Sem.run Tryz.prog (callFunc k cap) w=.ok (.enter k cap) w)
  (hR:∀s out w,I s out w→AL w b g s) (hB:∀s out w w',I s out w→Below w.heap.size w w'→I s out w')
  (hdo:∀s out w,I s out w→s.err=0→Calls Tryz.prog k cap w λr w'=>r=.returned (.tuple #[])∧I (f s).1 (out++[(f s).2]) w')
  (hG:∀s out w,I s out w→s.err=0→Rd.isS s c=false→(f s).1.err≠0∨(f s).1.rest.length<s.rest.length)
  (n:Nat) (s0:Rd.St) (out0:List α) (w:World) (h0:I s0 out0 w) (hn:s0.err≠0∨s0.rest.length<n) :
  Calls Tryz.prog 48 #[.pointer (some ⟨b,0,none⟩),.string ⟨c.toArray⟩,.bool false,.func (.func k) #[] cap] w λr w'=>r=.returned (.tuple #[])∧I (Rd.loop c f n s0 out0).1 (Rd.loop c f n s0 out0).2 w':=by
 have Y:=QA h0;have H:=QA hR;have P:=QA hB;have M:=QA hdo;have X:=QA hG;obtain⟨L,O⟩:∃L,L=Rd.loop c f n s0 out0:=⟨_,rfl⟩
 have U:=QA O;rw[← O];clear h0 hR hB hdo hG O;go_enter Tryz.func48,Tryz.ntmps48;go_wp2_with fail
 go_loopg [] (n+1) (λq wr=>∃(m:Nat) (s:Rd.St) (out:List α),q=m+1∧I s out wr∧(s.err≠0∨s.rest.length<m)∧Rd.loop c f m s out=L)
 case atStart=>exact⟨n,_,_,rfl,Y.out,hn,U.out.symm⟩
 case round =>
  obtain⟨m,s,out,rfl,R,T,o⟩:=hrel;have K:=QA R;have D:=QA o;have S:=QA T;have Z:=(H.out _ _ _ R).c4;clear R o T;by_cases he:s.err=0
  ·have V:=eqT (n:=s.err) (k:=0) (by omega);have C:=QA he;clear he;go_wp2_with fail;refine (BX b g s c _ wr (H.out _ _ _ K.out)).mono ?_;rintro r w1 ⟨rfl,hb1⟩;obtain⟨B,F⟩:∃B,B=Rd.isS s c:=⟨_,rfl⟩
   have E:=QA F;have Q:=QA (P.out _ _ _ _ K.out hb1);rw[← F];clear F hb1;cases B
   ·obtain⟨G,rfl⟩:∃G,m=G+1:=by
     rcases S.out with h|h
     ·exact absurd C.out h
     ·exact⟨m-1,by omega⟩
    have N:Hid (Rd.loop c f G (f s).1 (out++[(f s).2])=L):=by
     rw[← D.out,Rd.loop,if_pos ⟨C.out,E.out.symm⟩];exact QA rfl
    go_wp2_with fail;refine (M.out s out w1 Q.out C.out).mono ?_;rintro r w2 ⟨rfl,h2⟩;have W:=QA h2;clear h2;have J:Hid ((f s).1.err≠0∨(f s).1.rest.length<G):=by
     rcases X.out s out w1 Q.out C.out E.out.symm with h|h
     ·exact QA (.inl h)
     ·rcases S.out with h2|h2
      ·exact absurd C.out h2
      ·exact QA (.inr (by omega))
    go_wp2_with fail;go_roundg (G+1)
    case measure=>omega
    case rel=>exact⟨G,(f s).1,out++[(f s).2],rfl,W.out,J.out,N.out⟩
   ·have A:Hid (L=(s,out)):=by
     rw[← D.out];cases m with
     | zero=>exact QA rfl
     | succ m=>rw[Rd.loop,if_neg (λh=>by have:=h.2;rw[← E.out]at this;cases this)];exact QA rfl
    go_wp2_with fail;go_end0;exact⟨rfl,by rw[A.out];exact Q.out⟩
  ·have V:=eqF (n:=s.err) (k:=0) (by omega);have A:Hid (L=(s,out)):=by
    rw[← D.out];cases m with
    | zero=>exact QA rfl
    | succ m=>rw[Rd.loop,if_neg (λh=>he h.1)];exact QA rfl
   clear he;go_wp2_with fail;go_end0;exact⟨rfl,by rw[A.out];exact K.out⟩
theorem CY {α:Type} (c:List UInt8) (f:Rd.St→Rd.St×α) (I:Rd.St→List α→World→Prop) (b g:Nat) (k:FuncId) (cap:Array Value) (hk:∀w,Sem.run Tryz.prog (callFunc k cap) w=.ok (.enter k cap) w)
  (hR:∀s out w,I s out w→AL w b g s) (hB:∀s out w w',I s out w→Below w.heap.size w w'→I s out w')
  (hdo:∀s out w,I s out w→s.err=0→Calls Tryz.prog k cap w λr w'=>r=.returned (.tuple #[])∧I (f s).1 (out++[(f s).2]) w')
  (hG:∀s out w,I s out w→s.err=0→Rd.isS s c=false→(f s).1.err≠0∨(f s).1.rest.length<s.rest.length)
  (n:Nat) (s0:Rd.St) (w:World) (hfirst:Calls Tryz.prog k cap w λr w'=>r=.returned (.tuple #[])∧I (f s0).1 [(f s0).2] w') (hn:(f s0).1.err≠0∨(f s0).1.rest.length<n) :
  Calls Tryz.prog 48 #[.pointer (some ⟨b,0,none⟩),.string ⟨c.toArray⟩,.bool true,.func (.func k) #[] cap] w λr w'=>r=.returned (.tuple #[])∧I (Rd.loop1 c f n s0).1 (Rd.loop1 c f n s0).2 w':=by
 have M:=QA hfirst;have H:=QA hR;have Q:=QA hB;have N:=QA hdo;have Y:=QA hG;obtain⟨L,P⟩:∃L,L=Rd.loop1 c f n s0:=⟨_,rfl⟩
 have V:Hid (L=Rd.loop c f n (f s0).1 [(f s0).2]):=QA P;rw[← P];clear hfirst hR hB hdo hG P;go_enter Tryz.func48,Tryz.ntmps48;go_wp2_with fail;refine M.out.mono ?_;rintro r w0 ⟨rfl,h0⟩;have Z:=QA h0;clear h0;go_wp2_with fail
 go_loopg [] (n+1) (λq wr=>∃(m:Nat) (s:Rd.St) (out:List α),q=m+1∧I s out wr∧(s.err≠0∨s.rest.length<m)∧Rd.loop c f m s out=L)
 case atStart=>exact⟨n,_,_,rfl,Z.out,hn,V.out.symm⟩
 case round =>
  obtain⟨m,s,out,rfl,S,U,o⟩:=hrel;have K:=QA S;have D:=QA o;have T:=QA U;have c4:=(H.out _ _ _ S).c4;clear S o U;by_cases he:s.err=0
  ·have W:=eqT (n:=s.err) (k:=0) (by omega);have C:=QA he;clear he;go_wp2_with fail;refine (BX b g s c _ wr (H.out _ _ _ K.out)).mono ?_;rintro r w1 ⟨rfl,hb1⟩;obtain⟨B,F⟩:∃B,B=Rd.isS s c:=⟨_,rfl⟩
   have E:=QA F;have R:=QA (Q.out _ _ _ _ K.out hb1);rw[← F];clear F hb1;cases B
   ·obtain⟨G,rfl⟩:∃G,m=G+1:=by
     rcases T.out with h|h
     ·exact absurd C.out h
     ·exact⟨m-1,by omega⟩
    have O:Hid (Rd.loop c f G (f s).1 (out++[(f s).2])=L):=by
     rw[← D.out,Rd.loop,if_pos ⟨C.out,E.out.symm⟩];exact QA rfl
    go_wp2_with fail;refine (N.out s out w1 R.out C.out).mono ?_;rintro r w2 ⟨rfl,h2⟩;have X:=QA h2;clear h2;have J:Hid ((f s).1.err≠0∨(f s).1.rest.length<G):=by
     rcases Y.out s out w1 R.out C.out E.out.symm with h|h
     ·exact QA (.inl h)
     ·rcases T.out with h2|h2
      ·exact absurd C.out h2
      ·exact QA (.inr (by omega))
    go_wp2_with fail;go_roundg (G+1)
    case measure=>omega
    case rel=>exact⟨G,(f s).1,out++[(f s).2],rfl,X.out,J.out,O.out⟩
   ·have A:Hid (L=(s,out)):=by
     rw[← D.out];cases m with
     | zero=>exact QA rfl
     | succ m=>rw[Rd.loop,if_neg (λh=>by have:=h.2;rw[← E.out]at this;cases this)];exact QA rfl
    go_wp2_with fail;go_end0;exact⟨rfl,by rw[A.out];exact R.out⟩
  ·have W:=eqF (n:=s.err) (k:=0) (by omega);have A:Hid (L=(s,out)):=by
    rw[← D.out];cases m with
    | zero=>exact QA rfl
    | succ m=>rw[Rd.loop,if_neg (λh=>he h.1)];exact QA rfl
   clear he;go_wp2_with fail;go_end0;exact⟨rfl,by rw[A.out];exact K.out⟩
theorem AL.texts {w:World} {b g:Nat} {s:Rd.St} (h:AL w b g s):∀t∈s.rest,t.text.length≤1000000000:=by
 obtain⟨⟨T,B,D,i,C,F,o,G,A⟩,E⟩:=h;intro t ht;rw[o]at ht;exact A.size t (List.mem_of_mem_drop ht)
theorem AL.rest_len {w:World} {b g:Nat} {s:Rd.St} (h:AL w b g s):1≤s.rest.length∧s.rest.length≤1501:=by
 obtain⟨⟨T,B,D,i,C,F,o,G,A⟩,E⟩:=h;rw[o,List.length_drop];have:=A.len;omega
theorem FU (a b:List UInt8):((⟨a.toArray⟩:ByteArray)++(⟨b.toArray⟩:ByteArray))=⟨(a++b).toArray⟩:=by
 apply ByteArray.ext;simp
theorem FY (a:List UInt8):(⟨a.toArray⟩:ByteArray).size=a.length:=by
 show a.toArray.size=_;simp
theorem Ib (b g:Nat):∀(n:Nat) (s:Rd.St) (w:World),AL w b g s→(s.err≠0∨s.rest.length≤n)→n≤1600→0≤s.deep∧s.deep+n≤900000 →
  Calls Tryz.prog 67 #[.pointer (some ⟨b,0,none⟩)] w λr w'=>r=.returned (.string ⟨(Rd.type (n+1) s).2.toArray⟩)∧AL w' b g (Rd.type (n+1) s).1∧Fr b w w':=by
 intro n
 induction n using Nat.strongRecOn with
 | _ n ih =>
 intro s w h hn hnb hd;have Z:=QA ih;have HN:=QA hn;have H:=QA h;obtain⟨d0,d1⟩:=hd;clear ih hn h;go_enter Tryz.func67,Tryz.ntmps67;go_wp2_with fail;refine (BX b g s Rd.lbrk _ w H.out).mono ?_;rintro r w1 ⟨rfl,hb1⟩;obtain⟨B,hB⟩:∃B,B=Rd.isS s Rd.lbrk:=⟨_,rfl⟩
 have V:=QA hB;have H1:=QA (H.out.below hb1);have Q:=QA hb1;rw[← hB];clear hB hb1;cases B
 ·have HC:Hid (Rd.typeCore (Rd.type n) s=Rd.name s):=by
   unfold Rd.typeCore;rw[if_neg (by rw[← V.out];simp)];exact QA rfl
  go_wp2_with fail;refine (Ac b g s w1 H1.out).mono ?_;rintro r w8 ⟨rfl,h8,f8⟩;obtain⟨F,C⟩:∃x,x=(Rd.name s).1:=⟨_,rfl⟩
  obtain⟨J,A⟩:∃x,x=(Rd.name s).2:=⟨_,rfl⟩
  obtain⟨S,E⟩:∃x:ByteArray,x=⟨(Rd.name s).2.toArray⟩:=⟨_,rfl⟩
  rw[← C]at h8;rw[← E];have D:Hid (Rd.typeCore (Rd.type n) s=(F,J)):=by rw[HC.out,C,A];exact QA rfl
  have I:Hid (S=⟨J.toArray⟩):=by rw[E,A];exact QA rfl
  have ac:S.size≤1000010000:=by
   have h1:J.length≤(Rd.type (n+1) s).2.length:=by
    show _≤(Rd.bangOf (Rd.typeCore (Rd.type n) s)).2.length;rw[D.out];unfold Rd.bangOf;split
    ·simp
    ·simp
   have P:=Rd.type_len 1000000000 (n+1) s H.out.texts;rw[I.out,FY];omega
  have Y:=QA h8;have O:=QA ((But.of_below Q.out).trans f8);clear C A E h8 f8 HC;go_wp2_with fail;refine (BC b g F Rd.bang w8 Y.out).mono ?_;rintro r w9 ⟨rfl,h9,f9⟩;obtain⟨X,G⟩:∃B,B=Rd.isS F Rd.bang:=⟨_,rfl⟩
  have o:=QA G;have T:=QA h9;have U:=QA (But.trans O.out f9);rw[← G];clear G h9 f9;cases X
  ·have K:Hid (Rd.type (n+1) s=(F,J)):=by
    show Hid (Rd.bangOf (Rd.typeCore (Rd.type n) s)=_);rw[D.out];unfold Rd.bangOf;rw[if_neg (by rw[← o.out];simp)];exact QA rfl
   have N:Hid (AL w9 b g F):=by
    have:=T.out;unfold Rd.take at this;rw[if_neg (by rw[← o.out];simp)]at this;exact QA this
   go_wp2_with fail;go_ret;exact⟨by rw[K.out];exact congrArg (λx=>Ending.returned (.string x)) I.out,by rw[K.out];exact N.out,U.out⟩
  ·have K:Hid (Rd.type (n+1) s=(Rd.next F,J++Rd.bang)):=by
    show Hid (Rd.bangOf (Rd.typeCore (Rd.type n) s)=_);rw[D.out];unfold Rd.bangOf;rw[if_pos o.out.symm];exact QA rfl
   have N:Hid (AL w9 b g (Rd.next F)):=by
    have:=T.out;unfold Rd.take at this;rw[if_pos o.out.symm]at this;exact QA this
   have ab:(⟨#[33]⟩:ByteArray).size=1:=rfl;go_wp2_with fail;go_ret;exact⟨by rw[K.out];exact congrArg (λx=>Ending.returned (.string x)) (by rw[I.out];exact FU J Rd.bang),by rw[K.out];exact N.out,U.out⟩
 ·have M:s.err=0:=by
   have:=V.out;unfold Rd.isS at this;cases he:decide (s.err=0)
   ·rw[he]at this;simp at this
   ·simpa using he
  obtain⟨m,rfl⟩:∃m,n=m+1:=by
   have:=H.out.rest_len;rcases HN.out with h|h
   ·exact absurd M h
   ·exact⟨n-1,by omega⟩
  have W:Hid ((Rd.down Rd.lbrk s).err≠0∨(Rd.down Rd.lbrk s).rest.length≤m):=by
   refine QA ?_;rcases Rd.down_goes V.out.symm with h|h
   ·exact .inl h
   ·rcases HN.out with P|P
    ·exact absurd M P
    ·exact .inr (by omega)
  have R:=QA (Rd.down_deep Rd.lbrk s);clear M;go_wp2_with fail;refine (CZ b g s Rd.lbrk w1 H1.out ⟨by omega,by omega⟩).mono ?_;rintro r w2 ⟨rfl,P,f2⟩;have H2:=QA P;have F2:=QA f2;clear P f2;go_wp2_with fail;refine (Z.out m (by omega) (Rd.down Rd.lbrk s) w2 H2.out W.out (by omega) (by rw[R.out];omega)).mono ?_;rintro r w3 ⟨rfl,h3,f3⟩;have H3:=QA h3;have F3:=QA f3;obtain⟨tv,L⟩:∃x:ByteArray,x=⟨(Rd.type (m+1) (Rd.down Rd.lbrk s)).2.toArray⟩:=⟨_,rfl⟩
  have ai:tv.size≤1000005000:=by
   have:=Rd.type_len 1000000000 (m+1) (Rd.down Rd.lbrk s) (λt ht=>H.out.texts t ((Rd.ok_down _ s).sub t ht));rw[L,FY];omega
  have aa:=QA L;have ap:(⟨#[91]⟩:ByteArray).size=1:=rfl;have am:(⟨#[93]⟩:ByteArray).size=1:=rfl;rw[← L];clear h3 f3 L;go_wp2_with fail;refine (Dx b g (Rd.type (m+1) (Rd.down Rd.lbrk s)).1 Rd.rbrk w3 H3.out (by rw[Rd.type_deep,R.out];omega)).mono ?_;rintro r w8 ⟨rfl,h8,f8⟩;obtain⟨F,C⟩:∃x,x=Rd.up Rd.rbrk (Rd.type (m+1) (Rd.down Rd.lbrk s)).1:=⟨_,rfl⟩
  obtain⟨J,A⟩:∃x,x=Rd.lbrk++(Rd.type (m+1) (Rd.down Rd.lbrk s)).2++Rd.rbrk:=⟨_,rfl⟩
  obtain⟨S,E⟩:∃x:ByteArray,x=⟨#[91]⟩++tv++⟨#[93]⟩:=⟨_,rfl⟩
  rw[← C]at h8;rw[← E];have D:Hid (Rd.typeCore (Rd.type (m+1)) s=(F,J)):=by
   unfold Rd.typeCore;rw[if_pos V.out.symm,C,A];exact QA rfl
  have I:Hid (S=⟨J.toArray⟩):=by
   rw[E,A,aa.out];exact QA (by rw[← FU,← FU];rfl)
  have ac:S.size≤1000010000:=by
   have h1:J.length≤(Rd.type ((m+1)+1) s).2.length:=by
    show _≤(Rd.bangOf (Rd.typeCore (Rd.type (m+1)) s)).2.length;rw[D.out];unfold Rd.bangOf;split
    ·simp
    ·simp
   have P:=Rd.type_len 1000000000 ((m+1)+1) s H.out.texts;rw[I.out,FY];omega
  have Y:=QA h8;have O:=QA ((((But.of_below Q.out).trans F2.out).trans F3.out).trans f8);clear C A E h8 f8;go_wp2_with fail;refine (BC b g F Rd.bang w8 Y.out).mono ?_;rintro r w9 ⟨rfl,h9,f9⟩;obtain⟨X,G⟩:∃B,B=Rd.isS F Rd.bang:=⟨_,rfl⟩
  have o:=QA G;have T:=QA h9;have U:=QA (But.trans O.out f9);rw[← G];clear G h9 f9;cases X
  ·have K:Hid (Rd.type ((m+1)+1) s=(F,J)):=by
    show Hid (Rd.bangOf (Rd.typeCore (Rd.type (m+1)) s)=_);rw[D.out];unfold Rd.bangOf;rw[if_neg (by rw[← o.out];simp)];exact QA rfl
   have N:Hid (AL w9 b g F):=by
    have:=T.out;unfold Rd.take at this;rw[if_neg (by rw[← o.out];simp)]at this;exact QA this
   go_wp2_with fail;go_ret;exact⟨by rw[K.out];exact congrArg (λx=>Ending.returned (.string x)) I.out,by rw[K.out];exact N.out,U.out⟩
  ·have K:Hid (Rd.type ((m+1)+1) s=(Rd.next F,J++Rd.bang)):=by
    show Hid (Rd.bangOf (Rd.typeCore (Rd.type (m+1)) s)=_);rw[D.out];unfold Rd.bangOf;rw[if_pos o.out.symm];exact QA rfl
   have N:Hid (AL w9 b g (Rd.next F)):=by
    have:=T.out;unfold Rd.take at this;rw[if_pos o.out.symm]at this;exact QA this
   have ab:(⟨#[33]⟩:ByteArray).size=1:=rfl;go_wp2_with fail;go_ret;exact⟨by rw[K.out];exact congrArg (λx=>Ending.returned (.string x)) (by rw[I.out];exact FU J Rd.bang),by rw[K.out];exact N.out,U.out⟩
end Go.Proofs.YtedeapbonbbacaaGreatDoor
