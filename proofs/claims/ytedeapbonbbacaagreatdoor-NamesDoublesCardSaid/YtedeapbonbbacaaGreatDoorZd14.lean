/-
  The reader: how it lies in memory; Peek, Fail, Wrong, Next, walked. The reader: Is, Word, walked. The reader: Take, Want, Name, End, Down, Up, Some, walked. The reader: Type, walked.
-/
import Derived.Test.YtedeapbonbbacaaGreatDoorZd3
import Derived.Test.YtedeapbonbbacaaGreatDoorZd13
import Derived.Test.YtedeapbonbbacaaGreatDoorZd8
import Derived.Test.YtedeapbonbbacaaGreatDoorZd7
import Derived.Deep.LoopGhost
open Go.Lib renaming hid → QA
open List renaming drop_eq_getElem_cons → ZC, getElem?_eq_getElem → ZH
open Nat renaming le_refl → QM
namespace Go.Proofs.YtedeapbonbbacaaGreatDoor
set_option maxRecDepth 100000
set_option maxHeartbeats 4000000
set_option linter.unusedSimpArgs false
set_option linter.unusedVariables false
open Go Go.RowKit
@[go_sem high] theorem Kf (x y z : Value) (w : World) : (Instr.field 70 (.agg #[x, y, z]) 0).run Tryz.prog w = .ok x w := by kernel_rfl
@[go_sem high] theorem Ki (x y z : Value) (w : World) : (Instr.field 70 (.agg #[x, y, z]) 1).run Tryz.prog w = .ok y w := by kernel_rfl
@[go_sem high] theorem Kl (x y z : Value) (w : World) : (Instr.field 70 (.agg #[x, y, z]) 2).run Tryz.prog w = .ok z w := by kernel_rfl
theorem Im (w:World) (n m:Nat):(w.drewN n).drewN m=w.drewN (n+m):=by simp[World.drewN,Nat.add_assoc]
theorem Ha (w:World) (T:TypeId) (x y z k t a:Value) (n m:Nat) :
  ((((((w.alloc (.cells #[x,y,z] T)).drewN n).setCell ⟨w.heap.size,0,none⟩ k).setCell ⟨w.heap.size,1,none⟩ t).setCell ⟨w.heap.size,2,none⟩ a).drewN m)=(w.alloc (.cells #[k,t,a] T)).drewN (n+m):=by
 have o:∀(v:World) (p:Addr) (u:Value),(v.drewN n).setCell p u=(v.setCell p u).drewN n:=λ_ _ _=>rfl
 rw[o,o,o,Im,World.setCell_alloc_at _ _ _ _ _ rfl,World.setCell_alloc_at _ _ _ _ _ rfl,World.setCell_alloc_at _ _ _ _ _ rfl];rfl
structure JI (ts:List Lx.Tok):Prop where
 len:ts.length≤1501
 last:∀t,ts[ts.length-1]?=some t→t.kind=0
 kind:∀t∈ts,t.kind≤5
 size:∀t∈ts,t.text.length≤1000000000
 at_:∀t∈ts,t.at_≤4096
structure AL (w:World) (b g:Nat) (s:Rd.St):Prop where
 ex:∃(T:TypeId) (cap:Nat) (ts:List Lx.Tok) (i:Nat),w.heap[b]?=some (.cells #[.slice (some ⟨g,0,none⟩) ts.length cap,.int .i64 i,.int .i64 s.deep,.int .i64 s.at_,.int .i64 s.err] T (0,0)) ∧
  BH w g ts∧s.rest=ts.drop i∧i<ts.length∧JI ts
 ne:g≠b
section
variable {w w' : World} {b g : Nat} {s : Rd.St}
theorem AL.lt (h:AL w b g s):b<w.heap.size∧g<w.heap.size:=by
 obtain⟨⟨T,B,F,i,A,o,E,D,C⟩,_⟩:=h;exact⟨block_lt A,o.lt⟩
theorem BH.heap {w w':World} {g:Nat} {ts:List Lx.Tok} (h:BH w g ts) (hs:w.heap.size≤w'.heap.size) (he:w'.heap[g]?=w.heap[g]?):BH w' g ts:=by
 have e:∀k,w'.cell? ⟨g,k,none⟩=w.cell? ⟨g,k,none⟩:=λk=>World.cell?_of_block he
 exact⟨Nat.lt_of_lt_of_le h.lt hs,λi t x=>(e _).trans (h.kind i t x),λi t x=>(e _).trans (h.text i t x),λi t x=>(e _).trans (h.at_ i t x)⟩
theorem AL.to (h:AL w b g s) (hs:w.heap.size≤w'.heap.size) (hb:w'.heap[b]?=w.heap[b]?) (hg:w'.heap[g]?=w.heap[g]?):AL w' b g s:=by
 obtain⟨⟨T,o,F,i,G,D,E,B,A⟩,C⟩:=h;exact⟨⟨T,o,F,i,by rw[hb];exact G,D.heap hs hg,E,B,A⟩,C⟩
theorem AL.but {X:Nat→Prop} (h:AL w b g s) (hb:But X w w') (hX:∀k,X k→k≠b∧k≠g):AL w' b g s :=
 h.to hb.size (hb.block b h.lt.1 (λx=>(hX _ x).1 rfl)) (hb.block g h.lt.2 (λx=>(hX _ x).2 rfl))
theorem AL.below (h:AL w b g s) (hb:Below w.heap.size w w'):AL w' b g s:=h.to hb.size (hb.block b h.lt.1) (hb.block g h.lt.2)
theorem AL.drewN (h:AL w b g s) (n:Nat):AL (w.drewN n) b g s:=h.to (QM _) rfl rfl
theorem Ew {ts l:List Lx.Tok} {i:Nat} (h:l=ts.drop i) (hi:i<ts.length):∃t r,l=t::r∧ts[i]?=some t∧r=ts.drop (i+1) :=
 ⟨ts[i],ts.drop (i+1),by rw[h,ZC hi],ZH hi,rfl⟩
theorem AL.open_ (h:AL w b g s):∃(cap n i:Nat),w.cell? ⟨b,0,none⟩=some (.slice (some ⟨g,0,none⟩) n cap)∧w.cell? ⟨b,1,none⟩=some (.int .i64 i)∧i<n∧n≤1501 ∧
  w.cell? ⟨g,i*3,none⟩=some (.int .i64 (Rd.peek s).kind)∧w.cell? ⟨g,i*3+1,none⟩=some (.string ⟨(Rd.peek s).text.toArray⟩)∧w.cell? ⟨g,i*3+2,none⟩=some (.int .i64 (Rd.peek s).at_):=by
 obtain⟨⟨T,cap,H,i,D,B,G,C,F⟩,I⟩:=h;obtain⟨t,r,E,A,J⟩:=Ew G C;have o:Rd.peek s=t:=by unfold Rd.peek;rw[E];rfl
 refine⟨cap,H.length,i,by simp[World.cell?,D],by simp[World.cell?,D],C,F.len,?_,?_,?_⟩
 ·rw[o,Nat.mul_comm];exact B.kind i t A
 ·rw[o,Nat.mul_comm];exact B.text i t A
 ·rw[o,Nat.mul_comm];exact B.at_ i t A
theorem AL.c2 (h:AL w b g s):w.cell? ⟨b,2,none⟩=some (.int .i64 s.deep):=by
 obtain⟨⟨T,A,B,i,o,_⟩,_⟩:=h;simp[World.cell?,o]
theorem AL.c3 (h:AL w b g s):w.cell? ⟨b,3,none⟩=some (.int .i64 s.at_):=by
 obtain⟨⟨T,A,B,i,o,_⟩,_⟩:=h;simp[World.cell?,o]
theorem AL.c4 (h:AL w b g s):w.cell? ⟨b,4,none⟩=some (.int .i64 s.err):=by
 obtain⟨⟨T,A,B,i,o,_⟩,_⟩:=h;simp[World.cell?,o]
theorem AL.fz (h:AL w b g s) (k:Nat):w.frozen? ⟨b,k,none⟩=false:=by
 obtain⟨⟨T,A,B,i,o,_⟩,_⟩:=h;simp[World.frozen?,o]
theorem Ao {w:World} {b:Nat} {cs:Array Value} {T:TypeId} {fz:Nat×Nat} {k:Nat} {v:Value} (h:w.heap[b]?=some (.cells cs T fz)):(w.setCell ⟨b,k,none⟩ v).heap[b]?=some (.cells (cs.setIfInBounds k v) T fz):=by
 simp[World.setCell,Array.getElem?_modify,h]
theorem AJ {w:World} {b k c:Nat} {v:Value} (h:c≠b):(w.setCell ⟨b,k,none⟩ v).heap[c]?=w.heap[c]?:=Below.heap_setCell _ _ _ _ (λe=>h e)
theorem AQ {w:World} {p:Addr} {v:Value}:(w.setCell p v).heap.size=w.heap.size:=by simp[World.setCell]
theorem AL.set_ne (h:AL w b g s) {c:Nat} (hb:b≠c) (hg:g≠c) (k:Nat) (v:Value):AL (w.setCell ⟨c,k,none⟩ v) b g s :=
 h.to (by rw[AQ];exact QM _) (AJ hb) (AJ hg)
theorem AL.failed (h:AL w b g s) (hs:s.err=0) (e:Nat):AL ((w.setCell ⟨b,4,none⟩ (.int .i64 e)).setCell ⟨b,3,none⟩ (.int .i64 (Rd.peek s).at_)) b g (Rd.fail e s):=by
 obtain⟨⟨T,A,G,i,H,D,F,C,B⟩,o⟩:=h;unfold Rd.fail;rw[if_pos hs];have E:=Ao (k:=3) (v:=.int .i64 (Rd.peek s).at_) (Ao (k:=4) (v:=.int .i64 e) H);exact⟨⟨T,A,G,i,by rw[E];rfl,D.heap (by rw[AQ,AQ];exact QM _) (by rw[AJ o,AJ o]),F,C,B⟩,o⟩
theorem AL.nexted (h:AL w b g s) (hs:s.err=0) (hk:(Rd.peek s).kind≠0) {i:Nat} (hi:w.cell? ⟨b,1,none⟩=some (.int .i64 i)):AL (w.setCell ⟨b,1,none⟩ (.int .i64 (i+1))) b g (Rd.next s):=by
 obtain⟨⟨T,C,o,j,F,M,N,I,E⟩,G⟩:=h;have B:(i:Int)=j:=by
  simp[World.cell?,F]at hi;exact hi.symm
 obtain⟨t,r,D,L,J⟩:=Ew N I;have K:Rd.peek s=t:=by unfold Rd.peek;rw[D];rfl
 unfold Rd.next;rw[if_pos ⟨hs,hk⟩];have A:j+1<o.length:=by
  rcases Nat.lt_or_ge (j+1) o.length with h|h
  ·exact h
  ·have:=E.last t (by rw[show o.length-1=j by omega];exact L);rw[K]at hk;exact absurd this hk
 have H:=Ao (k:=1) (v:=.int .i64 (i+1)) F;exact⟨⟨T,C,o,j+1,by rw[H,B];rfl,M.heap (by rw[AQ];exact QM _) (by rw[AJ G]),by show s.rest.drop 1=_;rw[D,J];rfl,A,E⟩,G⟩
end
theorem A3 (b g:Nat) (s:Rd.St) (w:World) (h:AL w b g s) :
  Calls Tryz.prog 20 #[.pointer (some ⟨b,0,none⟩)] w λe w'=>e=.returned (.agg #[.int .i64 (Rd.peek s).kind,.string ⟨(Rd.peek s).text.toArray⟩,.int .i64 (Rd.peek s).at_])∧Below w.heap.size w w':=by
 obtain⟨B,n,i,D,k1,hi,E,G,F,I⟩:=h.open_;have A:=h.lt;have o:(0:Int)≤(i:Int):=Int.natCast_nonneg _;have C:(i:Int)<(n:Int):=by omega
 have H:=QA h;clear h;go_enter Tryz.func20,Tryz.ntmps20;go_wp2_with fail;refine AO [10] (by kernel_rfl) (by kernel_rfl) ?_;simp only[BN,List.take_succ_cons,List.take_zero,List.drop_succ_cons,List.drop_zero,Nat.sub_zero,Nat.reduceSub,Nat.reduceAdd]
 repeat (go_big_quiet_step (fail))
 refine wpQuiet_nil ?_;rintro _ ⟨nq,rfl⟩;go_wp2
 repeat (go_big_quiet_step (fail))
 refine wpQuiet_nil ?_;rintro _ ⟨nr,rfl⟩;rw[Ha];go_wp2;refine bodyPost_ret (v:=.agg #[.int .i64 (Rd.peek s).kind,.string ⟨(Rd.peek s).text.toArray⟩,.int .i64 (Rd.peek s).at_]) (by simp[results,Tryz.results20,go_sem]) rfl ⟨rfl,?_⟩
 (repeat' (first|(with_reducible assumption)|(with_reducible exact Below.refl _ _)|(with_reducible refine Below.drewN ?_ _)|(with_reducible refine Below.drew ?_)|(with_reducible refine Below.alloc ?_ ?_ _)))<;>(simp;try omega)
theorem Ev (b g e:Nat) (s:Rd.St) (w:World) (h:AL w b g s) :
  Calls Tryz.prog 52 #[.pointer (some ⟨b,0,none⟩),.int .i64 e] w λr w'=>r=.returned (.tuple #[])∧AL w' b g (Rd.fail e s)∧Fr b w w':=by
 have D:=h.c4;have H:=QA h;clear h;go_enter Tryz.func52,Tryz.ntmps52;by_cases hs:s.err=0
 ·have A:=eqT (n:=s.err) (k:=0) (by omega);go_wp2_with fail;refine (A3 b g s w H.out).mono ?_;rintro r w1 ⟨rfl,hb1⟩;have o:=H.out.below hb1;have I:=o.c4;have F:=o.c3;have E:=o.fz 4;have G:=o.fz 3;have C:=QA o;have B:=QA hb1;clear o hb1 D;go_wp2;go_end0;exact⟨rfl,C.out.failed hs e,Fr.set (Fr.set (But.of_below B.out) _ _) _ _⟩
 ·have A:=eqF (n:=s.err) (k:=0) (by omega);go_wp2_with fail;go_end0;refine⟨rfl,?_,But.refl _ _⟩;unfold Rd.fail;rw[if_neg hs];exact H.out
theorem A9 (b g:Nat) (s:Rd.St) (w:World) (h:AL w b g s) :
  Calls Tryz.prog 26 #[.pointer (some ⟨b,0,none⟩)] w λr w'=>r=.returned (.tuple #[])∧AL w' b g (Rd.wrong s)∧Fr b w w':=by
 have H:=QA h;clear h;go_enter Tryz.func26,Tryz.ntmps26;go_wp2_with fail;refine (Ev b g 41 s w H.out).mono ?_;rintro r w1 ⟨rfl,h1,hf1⟩;go_wp2_with fail;go_end0;exact⟨rfl,h1,hf1⟩
structure TkB (w:World) (c:Nat) (t:Lx.Tok):Prop where
 c0:w.cell? ⟨c,0,none⟩=some (.int .i64 t.kind)
 c1:w.cell? ⟨c,1,none⟩=some (.string ⟨t.text.toArray⟩)
 c2:w.cell? ⟨c,2,none⟩=some (.int .i64 t.at_)
theorem FK (w:World) (t:Lx.Tok) (T:TypeId):TkB (w.alloc (.cells #[.int .i64 t.kind,.string ⟨t.text.toArray⟩,.int .i64 t.at_] T)) w.heap.size t:=by
 exact⟨AK _ _ _ _ _ _ rfl,AK _ _ _ _ _ _ rfl,AK _ _ _ _ _ _ rfl⟩
structure TkZ (w:World) (c:Nat):Prop where
 c0:w.cell? ⟨c,0,none⟩=some (.int .i64 0)
 c1:w.cell? ⟨c,1,none⟩=some (.string ⟨#[]⟩)
 c2:w.cell? ⟨c,2,none⟩=some (.int .i64 0)
 f0:w.frozen? ⟨c,0,none⟩=false
 f1:w.frozen? ⟨c,1,none⟩=false
 f2:w.frozen? ⟨c,2,none⟩=false
theorem Jd (w:World) (T:TypeId):TkZ (w.alloc (.cells #[.int .i64 0,.string ⟨#[]⟩,.int .i64 0] T)) w.heap.size:=by
 exact⟨AK _ _ _ _ _ _ rfl,AK _ _ _ _ _ _ rfl,AK _ _ _ _ _ _ rfl,Bt _ _ _ _,Bt _ _ _ _,Bt _ _ _ _⟩
theorem TkZ.below {w w':World} {c:Nat} (h:TkZ w c) (hc:c<w.heap.size) (hb:Below w.heap.size w w'):TkZ w' c:=by
 have e:=hb.block c hc;have A:∀k,w'.cell? ⟨c,k,none⟩=w.cell? ⟨c,k,none⟩:=λk=>World.cell?_of_block e
 have o:∀k,w'.frozen? ⟨c,k,none⟩=w.frozen? ⟨c,k,none⟩:=λk=>World.frozen?_of_block e
 exact⟨(A _).trans h.c0,(A _).trans h.c1,(A _).trans h.c2,(o _).trans h.f0,(o _).trans h.f1,(o _).trans h.f2⟩
theorem Aa (b g:Nat) (s:Rd.St) (w:World) (h:AL w b g s) :
  Calls Tryz.prog 42 #[.pointer (some ⟨b,0,none⟩)] w λr w'=>r=.returned (.agg #[.int .i64 (Rd.peek s).kind,.string ⟨(Rd.peek s).text.toArray⟩,.int .i64 (Rd.peek s).at_])∧AL w' b g (Rd.next s)∧Fr b w w':=by
 have W:=h.lt;have H:=QA h;clear h;go_enter Tryz.func42,Tryz.ntmps42;go_wp2_with fail;have B:Below w.heap.size w (w.alloc (.cells #[.int .i64 0,.string ⟨#[]⟩,.int .i64 0] 70)):=(Below.refl _ _).alloc (QM _) _;have T:=Jd w 70;refine (A3 b g s _ (H.out.below B)).mono ?_;rintro r w1 ⟨rfl,hb1⟩;have J:=T.below (by simp) hb1;have o:=B.trans (hb1.mono B.size);obtain⟨tk,F⟩:∃t,t=Rd.peek s:=⟨_,rfl⟩
 have A:=QA F;rw[← F];have E:Below w.heap.size w (w1.alloc (.cells #[.int .i64 tk.kind,.string ⟨tk.text.toArray⟩,.int .i64 tk.at_] 70)):=o.alloc o.size _;have V:=FK w1 tk 70;have M:TkZ (w1.alloc (.cells #[.int .i64 tk.kind,.string ⟨tk.text.toArray⟩,.int .i64 tk.at_] 70)) w.heap.size:=J.below (by have:=hb1.size;simp at this;omega) ((Below.refl _ _).alloc (QM _) _);have G:=H.out.below E;have c4:=G.c4;have f1:=G.fz 1;obtain⟨_,_,i,_,c1,_⟩:=G.open_;obtain⟨t0,t1,t2⟩:=V;obtain⟨R,Q,P,y0,y1,y2⟩:=M;have C:¬b=w.heap.size:=by omega
 have O:¬w.heap.size=b:=by omega
 have n3:¬b=w1.heap.size:=by have:=o.size;omega
 have n4:¬w1.heap.size=b:=by have:=o.size;omega
 have Y:¬w.heap.size=w1.heap.size:=by have:=hb1.size;simp at this;omega
 have n6:¬w1.heap.size=w.heap.size:=λe=>Y e.symm
 have I:=QA E;have N:=QA G;clear E hb1 o F G T J B;by_cases hnx:s.err=0∧tk.kind≠0
 ·obtain⟨L,K⟩:=hnx;have S:=eqT (n:=s.err) (k:=0) (by omega);have X:=neT (n:=tk.kind) (k:=0) (by omega);have U:Hid (s.err=0∧(Rd.peek s).kind≠0):=QA ⟨L,by rw[← A.out];exact K⟩;clear L K;go_wp2_with fail;refine bodyPost_ret (v:=.agg #[.int .i64 tk.kind,.string ⟨tk.text.toArray⟩,.int .i64 tk.at_]) (by simp[results,Tryz.results42,go_sem,R,Q,P,C,O]) rfl ⟨by rw[A.out],?_,?_⟩
  ·exact (((N.out.nexted U.out.1 U.out.2 c1).set_ne C (by omega) _ _).set_ne C (by omega) _ _).set_ne C (by omega) _ _
  ·exact But.setCell (But.setCell (But.setCell (Fr.set (But.of_below I.out) _ _) (.inr (QM _)) _) (.inr (QM _)) _) (.inr (QM _)) _
 ·have Z:Hid (Rd.next s=s):=by
   unfold Rd.next;rw[if_neg (by rw[← A.out];exact hnx)];exact QA rfl
  have D:(((s.err:Int)==0)=false)∨(((s.err:Int)==0)=true∧((tk.kind:Int) != 0)=false):=by
   by_cases L:s.err=0
   ·refine .inr ⟨eqT (by omega),neF ?_⟩;by_cases K:tk.kind=0
    ·omega
    ·exact absurd ⟨L,K⟩ hnx
   ·exact .inl (eqF (by omega))
  clear hnx;rcases D with S|⟨S,X⟩
  all_goals
   go_wp2_with fail;refine bodyPost_ret (v:=.agg #[.int .i64 tk.kind,.string ⟨tk.text.toArray⟩,.int .i64 tk.at_]) (by simp[results,Tryz.results42,go_sem,R,Q,P,C,O]) rfl ⟨by rw[A.out],?_,?_⟩
   ·rw[Z.out];exact ((N.out.set_ne C (by omega) _ _).set_ne C (by omega) _ _).set_ne C (by omega) _ _
   ·exact But.setCell (But.setCell (But.setCell (But.of_below I.out) (.inr (QM _)) _) (.inr (QM _)) _) (.inr (QM _)) _
def BE (w:World) (v:Value) (ls:List (List UInt8)):Prop :=
 ∃a cap,v=.slice a ls.length cap∧∀(i:Nat) s,ls[i]?=some s→∃b off,a=some ⟨b,off,none⟩∧b<w.heap.size∧w.cell? ⟨b,off+i,none⟩=some (.string ⟨s.toArray⟩)
theorem BE.form {w:World} {v:Value} {ls:List (List UInt8)} (h:BE w v ls):∃a cap,v=.slice a ls.length cap:=by
 obtain⟨a,cap,o,A⟩:=h;exact⟨a,cap,o⟩
theorem BE.at {w:World} {a:Option Addr} {n cap:Nat} {ls:List (List UInt8)} (h:BE w (.slice a n cap) ls) {i:Nat} {s:List UInt8} (hi:ls[i]?=some s) :
  ∃b off,a=some ⟨b,off,none⟩∧b<w.heap.size∧w.cell? ⟨b,off+i,none⟩=some (.string ⟨s.toArray⟩):=by
 obtain⟨E,o,A,C⟩:=h;obtain⟨b,off,e,D,B⟩:=C i s hi;simp only[Value.slice.injEq]at A;exact⟨b,off,by rw[A.1,e],D,B⟩
theorem BE.below {w w':World} {v:Value} {ls:List (List UInt8)} (h:BE w v ls) (hb:Below w.heap.size w w'):BE w' v ls:=by
 obtain⟨a,A,E,D⟩:=h;refine⟨a,A,E,λi s hi=>?_⟩;obtain⟨b,o,e,B,C⟩:=D i s hi;exact⟨b,o,e,Nat.lt_of_lt_of_le B hb.size,by rw[hb.cell (p:=⟨b,o+i,none⟩) B];exact C⟩
theorem BE.nil (w:World):BE w (.slice none 0 0) []:=⟨none,0,rfl,λi s h=>by simp at h⟩
theorem Bn (w:World) (ls:List (List UInt8)) (cs:Array Value) (T:TypeId) (hc:cs=(ls.map λs=>Value.string ⟨s.toArray⟩).toArray):BE (w.alloc (.cells cs T)) (.slice (some ⟨w.heap.size,0,none⟩) ls.length ls.length) ls:=by
 subst hc;refine⟨_,_,rfl,λi s hi=>⟨w.heap.size,0,rfl,by simp,?_⟩⟩;rw[Nat.zero_add];exact AK _ _ _ _ _ _ (by simp[hi])
theorem Ex {ls:List (List UInt8)} {p:List UInt8→Bool} {j:Nat} {s:List UInt8} (h:ls[j]?=some s):(ls.drop j).any p=(p s||(ls.drop (j+1)).any p):=by
 obtain⟨o,rfl⟩:=List.getElem?_eq_some_iff.1 h;rw[ZC o,List.any_cons]
theorem Bo (b g:Nat) (s:Rd.St) (v:Value) (ls:List (List UInt8)) (w:World) (h:AL w b g s) (hV:BE w v ls) (hl:ls.length≤1000000) :
  Calls Tryz.prog 23 #[.pointer (some ⟨b,0,none⟩),v] w λr w'=>r=.returned (.bool (ls.any (Rd.isS s)))∧Below w.heap.size w w':=by
 obtain⟨Y,vc,rfl⟩:=hV.form;have H:=QA h;have T:=QA hV;clear h hV;go_enter Tryz.func23,Tryz.ntmps23;go_wp2_with fail;refine (A3 b g s w H.out).mono ?_;rintro r w1 ⟨rfl,hb1⟩;obtain⟨tk,G⟩:∃t,t=Rd.peek s:=⟨_,rfl⟩
 have D:=QA G;rw[← G];obtain⟨R,B⟩:∃W,W=w1.alloc (.cells #[.int .i64 tk.kind,.string ⟨tk.text.toArray⟩,.int .i64 tk.at_] 70):=⟨_,rfl⟩
 have F:Below w.heap.size w R:=by rw[B];exact hb1.alloc hb1.size _
 have Q:=FK w1 tk 70;rw[← B]at Q;have c4:=(H.out.below F).c4;obtain⟨t0,t1,t2⟩:=Q;have E:=QA F;have V:=QA B;clear F hb1 G B;go_wp2_with fail;rw[← V.out]
 go_loopg [12] ls.length (λk s12 wr=>∃j:Nat,j≤ls.length∧k=ls.length-j∧s12=.int .i64 (j:Nat)∧(ls.drop j).any (Rd.isS s)=ls.any (Rd.isS s)∧wr=R)
 case atStart=>exact⟨0,Nat.zero_le _,rfl,rfl,rfl,rfl⟩
 case round =>
  obtain⟨j,hj,P,rfl,C,rfl⟩:=hrel;have O:=QA P;have o:=QA C;clear P C;have S:(0:Int)≤(j:Int):=Int.natCast_nonneg _;by_cases hjn:j<ls.length
  ·have K:(j:Int)<(ls.length:Int):=by omega
   obtain⟨c,N⟩:∃c,ls[j]?=some c:=⟨_,ZH hjn⟩
   obtain⟨cb,Z,rfl,_,M⟩:=(T.out.below E.out).at N;have A:=QA (Ex (p:=Rd.isS s) N);clear N;by_cases he:s.err=0
   ·have U:=eqT (n:=s.err) (k:=0) (by omega);by_cases hkd:tk.kind=5
    ·have X:=eqT (n:=tk.kind) (k:=5) (by omega);by_cases htx:tk.text=c
     ·have J:(tk.text==c)=true:=by rw[htx];simp
      have L:Hid (true=ls.any (Rd.isS s)):=by
       rw[← o.out,A.out];unfold Rd.isS;rw[← D.out,he,hkd,htx];exact QA (by simp)
      clear htx he hkd;go_wp2;go_ret;exact⟨congrArg (λb=>Ending.returned (.bool b)) L.out,E.out⟩
     ·have J:(tk.text==c)=false:=by rw[beq_eq_false_iff_ne];exact htx
      have I:Hid (Rd.isS s c=false):=by
       unfold Rd.isS;rw[← D.out,decide_eq_false htx,Bool.and_false];exact QA rfl
      clear htx he hkd;go_wp2;go_roundg (ls.length-(j+1))
      case measure=>rw[O.out];omega
      case rel=>exact⟨j+1,hjn,rfl,by simp,by rw[← o.out,A.out,I.out,Bool.false_or],rfl⟩
    ·have X:=eqF (n:=tk.kind) (k:=5) (by omega);have I:Hid (Rd.isS s c=false):=by
      unfold Rd.isS;rw[← D.out,decide_eq_false hkd,Bool.and_false,Bool.false_and];exact QA rfl
     clear he hkd;go_wp2;go_roundg (ls.length-(j+1))
     case measure=>rw[O.out];omega
     case rel=>exact⟨j+1,hjn,rfl,by simp,by rw[← o.out,A.out,I.out,Bool.false_or],rfl⟩
   ·have U:=eqF (n:=s.err) (k:=0) (by omega);have I:Hid (Rd.isS s c=false):=by
     unfold Rd.isS;rw[decide_eq_false he,Bool.false_and,Bool.false_and];exact QA rfl
    clear he;go_wp2;go_roundg (ls.length-(j+1))
    case measure=>rw[O.out];omega
    case rel=>exact⟨j+1,hjn,rfl,by simp,by rw[← o.out,A.out,I.out,Bool.false_or],rfl⟩
  ·have K:(ls.length:Int)≤(j:Int):=by omega
   have L:Hid (false=ls.any (Rd.isS s)):=by
    rw[← o.out,List.drop_of_length_le (by omega)];exact QA rfl
   go_wp2;go_ret;exact⟨congrArg (λb=>Ending.returned (.bool b)) L.out,E.out⟩
theorem Bb (b g:Nat) (s:Rd.St) (c:List UInt8) (T:TypeId) (w:World) (h:AL w b g s) :
  Calls Tryz.prog 23 #[.pointer (some ⟨b,0,none⟩),.slice (some ⟨w.heap.size,0,none⟩) 1 1] (w.alloc (.cells #[.string ⟨c.toArray⟩] T)) λr w'=>r=.returned (.bool (Rd.isS s c))∧Below w.heap.size w w':=by
 have o:Below w.heap.size w (w.alloc (.cells #[.string ⟨c.toArray⟩] T)):=(Below.refl _ _).alloc (QM _) _;refine (Bo b g s _ [c] _ (h.below o) (Bn w [c] _ T rfl) (by simp)).mono ?_;rintro r w' ⟨rfl,hb2⟩;exact⟨by simp,o.trans (hb2.mono o.size)⟩
theorem Am (b g:Nat) (s:Rd.St) (v:Value) (ls:List (List UInt8)) (w:World) (h:AL w b g s) (hV:BE w v ls) (hl:ls.length≤1000000) :
  Calls Tryz.prog 21 #[.pointer (some ⟨b,0,none⟩),v] w λr w'=>r=.returned (.bool (Rd.isW s ls))∧Below w.heap.size w w':=by
 obtain⟨va,vc,rfl⟩:=hV.form;have H:=QA h;have Z:=QA hV;clear h hV;go_enter Tryz.func21,Tryz.ntmps21;go_wp2_with fail;refine (A3 b g s w H.out).mono ?_;rintro r w1 ⟨rfl,hb1⟩;obtain⟨tk,G⟩:∃t,t=Rd.peek s:=⟨_,rfl⟩
 have K:=QA G;rw[← G];obtain⟨V,A⟩:∃W,W=w1.alloc (.cells #[.int .i64 tk.kind,.string ⟨tk.text.toArray⟩,.int .i64 tk.at_] 70):=⟨_,rfl⟩
 have F:Below w.heap.size w V:=by rw[A];exact hb1.alloc hb1.size _
 have U:=FK w1 tk 70;rw[← A]at U;have M:=(H.out.below F).c4;have c4:=M;rw[A]at c4;obtain⟨t0,t1,t2⟩:=U;have o:=QA F;have Q:=QA A;clear F hb1 G A;by_cases he:s.err=0
 ·have e4:=eqT (n:=s.err) (k:=0) (by omega);have P:=neF (n:=s.err) (k:=0) (by omega);by_cases hkd:tk.kind=1
  ·have e5:=neF (n:=tk.kind) (k:=1) (by omega);have S:Hid (∀ws,Rd.isW s ws=(ws.any (λw=>decide (tk.text=w))||ws.isEmpty)):=QA λws=>by
    unfold Rd.isW Rd.isN;rw[← K.out,decide_eq_true he,decide_eq_true hkd];rfl
   clear he hkd;go_wp2_with fail;rw[← Q.out]
   go_loopg [22] ls.length (λk s22 wr=>∃j:Nat,j≤ls.length∧k=ls.length-j∧s22=.int .i64 (j:Nat)∧(ls.drop j).any (λw=>decide (tk.text=w))=ls.any (λw=>decide (tk.text=w))∧wr=V)
   case atStart=>exact⟨0,Nat.zero_le _,rfl,rfl,rfl,rfl⟩
   case round =>
    obtain⟨j,hj,T,rfl,E,rfl⟩:=hrel;have HK:=QA T;have B:=QA E;clear T E;have Y:(0:Int)≤(j:Int):=Int.natCast_nonneg _;by_cases hjn:j<ls.length
    ·have J:(j:Int)<(ls.length:Int):=by omega
     obtain⟨c,R⟩:∃c,ls[j]?=some c:=⟨_,ZH hjn⟩
     obtain⟨cb,co,rfl,_,O⟩:=(Z.out.below o.out).at R;have L:=QA (Ex (p:=λw=>decide (tk.text=w)) R);clear R;by_cases htx:tk.text=c
     ·have I:(tk.text==c)=true:=by rw[htx];simp
      have C:Hid (true=Rd.isW s ls):=by
       rw[S.out,← B.out,L.out,decide_eq_true htx];exact QA rfl
      clear htx;go_wp2;go_ret;exact⟨congrArg (λb=>Ending.returned (.bool b)) C.out,o.out⟩
     ·have I:(tk.text==c)=false:=by rw[beq_eq_false_iff_ne];exact htx
      have X:=QA (decide_eq_false htx);clear htx;go_wp2;go_roundg (ls.length-(j+1))
      case measure=>rw[HK.out];omega
      case rel=>exact⟨j+1,hjn,rfl,by simp,by rw[← B.out,L.out];show _=(decide (tk.text=c)||_);rw[X.out,Bool.false_or],rfl⟩
    ·have J:(ls.length:Int)≤(j:Int):=by omega
     have D:Hid (ls.any (λw=>decide (tk.text=w))=false):=by
      rw[← B.out,List.drop_of_length_le (by omega)];exact QA rfl
     by_cases hz:ls=[]
     ·have C:Hid (true=Rd.isW s ls):=by rw[S.out,D.out,hz];exact QA rfl
      have N:=eqT (n:=ls.length) (k:=0) (by simp[hz]);clear hz;go_wp2;go_ret;exact⟨congrArg (λb=>Ending.returned (.bool b)) C.out,o.out⟩
     ·have C:Hid (false=Rd.isW s ls):=by
       rw[S.out,D.out];cases hls:ls with
       | nil=>exact absurd hls hz
       | cons=>exact QA rfl
      have N:=eqF (n:=ls.length) (k:=0) (by
       intro e;exact hz (List.eq_nil_of_length_eq_zero (by omega)))
      clear hz;go_wp2;go_ret;exact⟨congrArg (λb=>Ending.returned (.bool b)) C.out,o.out⟩
  ·have e5:=neT (n:=tk.kind) (k:=1) (by omega);have C:Hid (false=Rd.isW s ls):=by
    unfold Rd.isW Rd.isN;rw[← K.out,decide_eq_false hkd,Bool.and_false,Bool.false_and];exact QA rfl
   clear he hkd;go_wp2_with fail;rw[← Q.out];go_ret;exact⟨congrArg (λb=>Ending.returned (.bool b)) C.out,o.out⟩
 ·have e4:=eqF (n:=s.err) (k:=0) (by omega);have P:=neT (n:=s.err) (k:=0) (by omega);have C:Hid (false=Rd.isW s ls):=by
   unfold Rd.isW Rd.isN;rw[decide_eq_false he,Bool.false_and,Bool.false_and];exact QA rfl
  clear he;go_wp2_with fail;rw[← Q.out];go_ret;exact⟨congrArg (λb=>Ending.returned (.bool b)) C.out,o.out⟩
theorem CB (b g:Nat) (s:Rd.St) (w:World) (h:AL w b g s) :
  Calls Tryz.prog 21 #[.pointer (some ⟨b,0,none⟩),.slice none 0 0] w λr w'=>r=.returned (.bool (Rd.isN s))∧Below w.heap.size w w':=by
 refine (Am b g s _ [] w h (BE.nil w) (by simp)).mono ?_;rintro r w' ⟨rfl,hb⟩;exact⟨by unfold Rd.isW;simp,hb⟩
theorem G6 (b g:Nat) (s:Rd.St) (c:List UInt8) (T:TypeId) (w:World) (h:AL w b g s) :
  Calls Tryz.prog 21 #[.pointer (some ⟨b,0,none⟩),.slice (some ⟨w.heap.size,0,none⟩) 1 1] (w.alloc (.cells #[.string ⟨c.toArray⟩] T)) λr w'=>r=.returned (.bool (Rd.isW s [c]))∧Below w.heap.size w w':=by
 have o:Below w.heap.size w (w.alloc (.cells #[.string ⟨c.toArray⟩] T)):=(Below.refl _ _).alloc (QM _) _;refine (Am b g s _ [c] _ (h.below o) (Bn w [c] _ T rfl) (by simp)).mono ?_;rintro r w' ⟨rfl,hb2⟩;exact⟨rfl,o.trans (hb2.mono o.size)⟩
theorem Gx (b g:Nat) (s:Rd.St) (c d:List UInt8) (T:TypeId) (w:World) (h:AL w b g s) :
  Calls Tryz.prog 21 #[.pointer (some ⟨b,0,none⟩),.slice (some ⟨w.heap.size,0,none⟩) 2 2] (w.alloc (.cells #[.string ⟨c.toArray⟩,.string ⟨d.toArray⟩] T)) λr w'=>r=.returned (.bool (Rd.isW s [c,d]))∧Below w.heap.size w w':=by
 have o:Below w.heap.size w (w.alloc (.cells #[.string ⟨c.toArray⟩,.string ⟨d.toArray⟩] T)):=(Below.refl _ _).alloc (QM _) _;refine (Am b g s _ [c,d] _ (h.below o) (Bn w [c,d] _ T rfl) (by simp)).mono ?_;rintro r w' ⟨rfl,hb2⟩;exact⟨rfl,o.trans (hb2.mono o.size)⟩
theorem BC (b g:Nat) (s:Rd.St) (c:List UInt8) (w:World) (h:AL w b g s) :
  Calls Tryz.prog 47 #[.pointer (some ⟨b,0,none⟩),.string ⟨c.toArray⟩] w λr w'=>r=.returned (.bool (Rd.isS s c))∧AL w' b g (Rd.take c s)∧Fr b w w':=by
 have H:=QA h;clear h;go_enter Tryz.func47,Tryz.ntmps47;go_wp2_with fail;refine (Bb b g s c _ w H.out).mono ?_;rintro r w1 ⟨rfl,hb1⟩;obtain⟨B,C⟩:∃B,B=Rd.isS s c:=⟨_,rfl⟩
 have A:=QA C;have D:=QA (H.out.below hb1);have o:=QA hb1;rw[← C];clear C hb1;cases B
 ·go_wp2_with fail;go_ret;refine⟨congrArg (λb=>Ending.returned (.bool b)) A.out,?_,But.of_below o.out⟩;unfold Rd.take;rw[if_neg (by rw[← A.out];simp)];exact D.out
 ·go_wp2_with fail;refine (Aa b g s w1 D.out).mono ?_;rintro r w2 ⟨rfl,h2,f2⟩;have E:=QA h2;have F:=QA f2;clear h2 f2;go_wp2_with fail;go_ret;refine⟨congrArg (λb=>Ending.returned (.bool b)) A.out,?_,(But.of_below o.out).trans F.out⟩;unfold Rd.take;rw[if_pos A.out.symm];exact E.out
theorem BD (b g:Nat) (s:Rd.St) (c:List UInt8) (w:World) (h:AL w b g s) :
  Calls Tryz.prog 51 #[.pointer (some ⟨b,0,none⟩),.string ⟨c.toArray⟩] w λr w'=>r=.returned (.tuple #[])∧AL w' b g (Rd.want c s)∧Fr b w w':=by
 have H:=QA h;clear h;go_enter Tryz.func51,Tryz.ntmps51;go_wp2_with fail;refine (BC b g s c w H.out).mono ?_;rintro r w1 ⟨rfl,h1,f1⟩;obtain⟨B,o⟩:∃B,B=Rd.isS s c:=⟨_,rfl⟩
 have A:=QA o;have C:=QA h1;have D:=QA f1;rw[← o];clear o h1 f1;cases B
 ·have E:Hid (AL w1 b g s):=by
   have:=C.out;unfold Rd.take at this;rw[if_neg (by rw[← A.out];simp)]at this;exact QA this
  go_wp2_with fail;refine (A9 b g s w1 E.out).mono ?_;rintro r w2 ⟨rfl,h2,f2⟩;go_wp2_with fail;go_end0;refine⟨rfl,?_,D.out.trans f2⟩;unfold Rd.want;rw[if_neg (by rw[← A.out];simp)];exact h2
 ·go_wp2_with fail;go_end0;refine⟨rfl,?_,D.out⟩;have:=C.out;unfold Rd.take at this;unfold Rd.want;rw[if_pos A.out.symm]at this ⊢;exact this
theorem AZ (b g:Nat) (s:Rd.St) (w:World) (h:AL w b g s) :
  Calls Tryz.prog 44 #[.pointer (some ⟨b,0,none⟩)] w λr w'=>r=.returned (.string ⟨(Rd.name s).2.toArray⟩)∧AL w' b g (Rd.name s).1∧Fr b w w':=by
 have H:=QA h;clear h;go_enter Tryz.func44,Tryz.ntmps44;go_wp2_with fail;refine (CB b g s w H.out).mono ?_;rintro r w1 ⟨rfl,hb1⟩;obtain⟨B,D⟩:∃B,B=Rd.isN s:=⟨_,rfl⟩
 have F:=QA D;have G:=QA (H.out.below hb1);have A:=QA hb1;rw[← D];clear D hb1;cases B
 ·go_wp2_with fail;refine (A9 b g s w1 G.out).mono ?_;rintro r w2 ⟨rfl,h2,f2⟩;have C:=QA h2;have E:=QA f2;clear h2 f2;have e:Rd.name s=(Rd.wrong s,[]):=by unfold Rd.name;rw[if_neg (by rw[← F.out];simp)]
  have o:=QA e;clear e;go_wp2_with fail;go_ret;exact⟨by rw[o.out];rfl,by rw[o.out];exact C.out,(But.of_below A.out).trans E.out⟩
 ·go_wp2_with fail;refine (Aa b g s w1 G.out).mono ?_;rintro r w2 ⟨rfl,h2,f2⟩;have C:=QA h2;have E:=QA f2;clear h2 f2;have e:Rd.name s=(Rd.next s,(Rd.peek s).text):=by unfold Rd.name;rw[if_pos F.out.symm]
  have o:=QA e;clear e;go_wp2_with fail;go_ret;exact⟨by rw[o.out];rfl,by rw[o.out];exact C.out,(But.of_below A.out).trans E.out⟩
theorem AL.deeped {w:World} {b g:Nat} {s:Rd.St} (h:AL w b g s) (d:Int):AL (w.setCell ⟨b,2,none⟩ (.int .i64 d)) b g { s with deep:=d }:=by
 obtain⟨⟨T,o,G,i,H,D,F,C,B⟩,A⟩:=h;have E:=Ao (k:=2) (v:=.int .i64 d) H;exact⟨⟨T,o,G,i,by rw[E];rfl,D.heap (by rw[AQ];exact QM _) (by rw[AJ A]),F,C,B⟩,A⟩
theorem Du (b g:Nat) (s:Rd.St) (c:List UInt8) (w:World) (h:AL w b g s) (hd:-1000000≤s.deep∧s.deep≤1000000) :
  Calls Tryz.prog 66 #[.pointer (some ⟨b,0,none⟩),.string ⟨c.toArray⟩] w λr w'=>r=.returned (.tuple #[])∧AL w' b g (Rd.up c s)∧Fr b w w':=by
 have H:=QA h;obtain⟨C,B⟩:=hd;clear h;go_enter Tryz.func66,Tryz.ntmps66;go_wp2_with fail;refine (BD b g s c w H.out).mono ?_;rintro r w1 ⟨rfl,h1,f1⟩;have c2:=h1.c2;rw[Rd.want_deep]at c2;have D:=h1.fz 2;have o:=QA h1;have A:=QA f1;clear h1 f1;go_wp2;go_end0;refine⟨rfl,?_,A.out.setCell (.inl rfl) _⟩;have:=o.out.deeped (s.deep-1);show AL _ b g { Rd.want c s with deep:=(Rd.want c s).deep-1 };rw[Rd.want_deep];exact this
theorem Ca (b g:Nat) (s:Rd.St) (c:List UInt8) (w:World) (h:AL w b g s) (hd:-1000000≤s.deep∧s.deep≤1000000) :
  Calls Tryz.prog 63 #[.pointer (some ⟨b,0,none⟩),.string ⟨c.toArray⟩] w λr w'=>r=.returned (.tuple #[])∧AL w' b g (Rd.down c s)∧Fr b w w':=by
 have H:=QA h;obtain⟨P,O⟩:=hd;clear h;go_enter Tryz.func63,Tryz.ntmps63;go_wp2_with fail;refine (Bb b g s c _ w H.out).mono ?_;rintro r w1 ⟨rfl,hb1⟩;obtain⟨B,E⟩:∃B,B=Rd.isS s c:=⟨_,rfl⟩
 have K:=QA E;have J:=QA (H.out.below hb1);have c2:=(H.out.below hb1).c2;have C:=QA hb1;rw[← E];clear E hb1;by_cases hx:B=true∧s.deep=16
 ·obtain⟨rfl,A⟩:=hx;have F:(s.deep==16)=true:=by rw[A];rfl
  have G:Hid (Rd.down c s={ Rd.want c (Rd.fail 42 s) with deep:=(Rd.want c (Rd.fail 42 s)).deep+1 }):=by
   unfold Rd.down;rw[if_pos ⟨K.out.symm,A⟩];exact QA rfl
  clear A;go_wp2_with fail;refine (Ev b g 42 s w1 J.out).mono ?_;rintro r w2 ⟨rfl,h2,f2⟩;have L:=QA h2;have N:=QA f2;clear h2 f2 c2;go_wp2_with fail;refine (BD b g (Rd.fail 42 s) c w2 L.out).mono ?_;rintro r w3 ⟨rfl,h3,f3⟩;have c2:=h3.c2;rw[Rd.want_deep,Rd.fail_deep]at c2;have M:=h3.fz 2;have D:=QA h3;have I:=QA f3;clear h3 f3;go_wp2;go_end0;refine⟨rfl,?_,(((But.of_below C.out).trans N.out).trans I.out).setCell (.inl rfl) _⟩;rw[G.out,Rd.want_deep,Rd.fail_deep];exact D.out.deeped (s.deep+1)
 ·have G:Hid (Rd.down c s={ Rd.want c s with deep:=(Rd.want c s).deep+1 }):=by
   unfold Rd.down;rw[if_neg (λh=>hx ⟨by rw[K.out];exact h.1,h.2⟩)];exact QA rfl
  have o:B=false∨(B=true∧(s.deep==16)=false):=by
   cases B
   ·exact .inl rfl
   ·refine .inr ⟨rfl,?_⟩;rw[beq_eq_false_iff_ne];exact λh=>hx ⟨rfl,h⟩
  clear hx;rcases o with rfl|⟨rfl,F⟩
  all_goals
   go_wp2_with fail;refine (BD b g s c w1 J.out).mono ?_;rintro r w3 ⟨rfl,h3,f3⟩;clear c2;have c2:=h3.c2;rw[Rd.want_deep]at c2;have M:=h3.fz 2;have D:=QA h3;have I:=QA f3;clear h3 f3;go_wp2;go_end0;refine⟨rfl,?_,((But.of_below C.out).trans I.out).setCell (.inl rfl) _⟩;rw[G.out,Rd.want_deep];exact D.out.deeped (s.deep+1)
namespace Rd
section
variable {α : Type} (c : List UInt8) (f : St → St × α)
end
end Rd
theorem Fl {α:Type} (c:List UInt8) (f:Rd.St→Rd.St×α) (I:Rd.St→List α→World→Prop) (b g:Nat) (k:FuncId) (cap:Array Value) (hk:∀w,Sem.run Tryz.prog (callFunc k cap) w=.ok (.enter k cap) w)
  (hR:∀s out w,I s out w→AL w b g s) (hB:∀s out w w',I s out w→Below w.heap.size w w'→I s out w')
  (hdo:∀s out w,I s out w→s.err=0→Calls Tryz.prog k cap w λr w'=>r=.returned (.tuple #[])∧I (f s).1 (out++[(f s).2]) w')
  (hG:∀s out w,I s out w→s.err=0→Rd.isS s c=false→(f s).1.err≠0∨(f s).1.rest.length<s.rest.length)
  (n:Nat) (s0:Rd.St) (out0:List α) (w:World) (h0:I s0 out0 w) (hn:s0.err≠0∨s0.rest.length<n) :
  Calls Tryz.prog 48 #[.pointer (some ⟨b,0,none⟩),.string ⟨c.toArray⟩,.bool false,.func (.func k) #[] cap] w λr w'=>r=.returned (.tuple #[])∧I (Rd.loop c f n s0 out0).1 (Rd.loop c f n s0 out0).2 w':=by
 have W:=QA h0;have J:=QA hR;have R:=QA hB;have Q:=QA hdo;have Y:=QA hG;obtain⟨L,N⟩:∃L,L=Rd.loop c f n s0 out0:=⟨_,rfl⟩
 have V:=QA N;rw[← N];clear h0 hR hB hdo hG N;go_enter Tryz.func48,Tryz.ntmps48;go_wp2_with fail
 go_loopg [] (n+1) (λq wr=>∃(m:Nat) (s:Rd.St) (out:List α),q=m+1∧I s out wr∧(s.err≠0∨s.rest.length<m)∧Rd.loop c f m s out=L)
 case atStart=>exact⟨n,_,_,rfl,W.out,hn,V.out.symm⟩
 case round =>
  obtain⟨m,s,out,rfl,P,S,o⟩:=hrel;have K:=QA P;have E:=QA o;have T:=QA S;have Z:=(J.out _ _ _ P).c4;clear P o S;by_cases he:s.err=0
  ·have X:=eqT (n:=s.err) (k:=0) (by omega);have C:=QA he;clear he;go_wp2_with fail;refine (Bb b g s c _ wr (J.out _ _ _ K.out)).mono ?_;rintro r w1 ⟨rfl,hb1⟩;obtain⟨B,D⟩:∃B,B=Rd.isS s c:=⟨_,rfl⟩
   have F:=QA D;have M:=QA (R.out _ _ _ _ K.out hb1);rw[← D];clear D hb1;cases B
   ·obtain⟨G,rfl⟩:∃G,m=G+1:=by
     rcases T.out with h|h
     ·exact absurd C.out h
     ·exact⟨m-1,by omega⟩
    have O:Hid (Rd.loop c f G (f s).1 (out++[(f s).2])=L):=by
     rw[← E.out,Rd.loop,if_pos ⟨C.out,F.out.symm⟩];exact QA rfl
    go_wp2_with fail;refine (Q.out s out w1 M.out C.out).mono ?_;rintro r w2 ⟨rfl,h2⟩;have U:=QA h2;clear h2;have H:Hid ((f s).1.err≠0∨(f s).1.rest.length<G):=by
     rcases Y.out s out w1 M.out C.out F.out.symm with h|h
     ·exact QA (.inl h)
     ·rcases T.out with h2|h2
      ·exact absurd C.out h2
      ·exact QA (.inr (by omega))
    go_wp2_with fail;go_roundg (G+1)
    case measure=>omega
    case rel=>exact⟨G,(f s).1,out++[(f s).2],rfl,U.out,H.out,O.out⟩
   ·have A:Hid (L=(s,out)):=by
     rw[← E.out];cases m with
     | zero=>exact QA rfl
     | succ m=>rw[Rd.loop,if_neg (λh=>by have:=h.2;rw[← F.out]at this;cases this)];exact QA rfl
    go_wp2_with fail;go_end0;exact⟨rfl,by rw[A.out];exact M.out⟩
  ·have X:=eqF (n:=s.err) (k:=0) (by omega);have A:Hid (L=(s,out)):=by
    rw[← E.out];cases m with
    | zero=>exact QA rfl
    | succ m=>rw[Rd.loop,if_neg (λh=>he h.1)];exact QA rfl
   clear he;go_wp2_with fail;go_end0;exact⟨rfl,by rw[A.out];exact K.out⟩
theorem Cd {α:Type} (c:List UInt8) (f:Rd.St→Rd.St×α) (I:Rd.St→List α→World→Prop) (b g:Nat) (k:FuncId) (cap:Array Value) (hk:∀w,Sem.run Tryz.prog (callFunc k cap) w=.ok (.enter k cap) w)
  (hR:∀s out w,I s out w→AL w b g s) (hB:∀s out w w',I s out w→Below w.heap.size w w'→I s out w')
  (hdo:∀s out w,I s out w→s.err=0→Calls Tryz.prog k cap w λr w'=>r=.returned (.tuple #[])∧I (f s).1 (out++[(f s).2]) w')
  (hG:∀s out w,I s out w→s.err=0→Rd.isS s c=false→(f s).1.err≠0∨(f s).1.rest.length<s.rest.length)
  (n:Nat) (s0:Rd.St) (w:World) (hfirst:Calls Tryz.prog k cap w λr w'=>r=.returned (.tuple #[])∧I (f s0).1 [(f s0).2] w') (hn:(f s0).1.err≠0∨(f s0).1.rest.length<n) :
  Calls Tryz.prog 48 #[.pointer (some ⟨b,0,none⟩),.string ⟨c.toArray⟩,.bool true,.func (.func k) #[] cap] w λr w'=>r=.returned (.tuple #[])∧I (Rd.loop1 c f n s0).1 (Rd.loop1 c f n s0).2 w':=by
 have O:=QA hfirst;have J:=QA hR;have S:=QA hB;have R:=QA hdo;have Z:=QA hG;obtain⟨L,N⟩:∃L,L=Rd.loop1 c f n s0:=⟨_,rfl⟩
 have W:Hid (L=Rd.loop c f n (f s0).1 [(f s0).2]):=QA N;rw[← N];clear hfirst hR hB hdo hG N;go_enter Tryz.func48,Tryz.ntmps48;go_wp2_with fail;refine O.out.mono ?_;rintro r w0 ⟨rfl,h0⟩;have X:=QA h0;clear h0;go_wp2_with fail
 go_loopg [] (n+1) (λq wr=>∃(m:Nat) (s:Rd.St) (out:List α),q=m+1∧I s out wr∧(s.err≠0∨s.rest.length<m)∧Rd.loop c f m s out=L)
 case atStart=>exact⟨n,_,_,rfl,X.out,hn,W.out.symm⟩
 case round =>
  obtain⟨m,s,out,rfl,Q,T,o⟩:=hrel;have K:=QA Q;have E:=QA o;have U:=QA T;have c4:=(J.out _ _ _ Q).c4;clear Q o T;by_cases he:s.err=0
  ·have Y:=eqT (n:=s.err) (k:=0) (by omega);have C:=QA he;clear he;go_wp2_with fail;refine (Bb b g s c _ wr (J.out _ _ _ K.out)).mono ?_;rintro r w1 ⟨rfl,hb1⟩;obtain⟨B,D⟩:∃B,B=Rd.isS s c:=⟨_,rfl⟩
   have F:=QA D;have M:=QA (S.out _ _ _ _ K.out hb1);rw[← D];clear D hb1;cases B
   ·obtain⟨G,rfl⟩:∃G,m=G+1:=by
     rcases U.out with h|h
     ·exact absurd C.out h
     ·exact⟨m-1,by omega⟩
    have P:Hid (Rd.loop c f G (f s).1 (out++[(f s).2])=L):=by
     rw[← E.out,Rd.loop,if_pos ⟨C.out,F.out.symm⟩];exact QA rfl
    go_wp2_with fail;refine (R.out s out w1 M.out C.out).mono ?_;rintro r w2 ⟨rfl,h2⟩;have V:=QA h2;clear h2;have H:Hid ((f s).1.err≠0∨(f s).1.rest.length<G):=by
     rcases Z.out s out w1 M.out C.out F.out.symm with h|h
     ·exact QA (.inl h)
     ·rcases U.out with h2|h2
      ·exact absurd C.out h2
      ·exact QA (.inr (by omega))
    go_wp2_with fail;go_roundg (G+1)
    case measure=>omega
    case rel=>exact⟨G,(f s).1,out++[(f s).2],rfl,V.out,H.out,P.out⟩
   ·have A:Hid (L=(s,out)):=by
     rw[← E.out];cases m with
     | zero=>exact QA rfl
     | succ m=>rw[Rd.loop,if_neg (λh=>by have:=h.2;rw[← F.out]at this;cases this)];exact QA rfl
    go_wp2_with fail;go_end0;exact⟨rfl,by rw[A.out];exact M.out⟩
  ·have Y:=eqF (n:=s.err) (k:=0) (by omega);have A:Hid (L=(s,out)):=by
    rw[← E.out];cases m with
    | zero=>exact QA rfl
    | succ m=>rw[Rd.loop,if_neg (λh=>he h.1)];exact QA rfl
   clear he;go_wp2_with fail;go_end0;exact⟨rfl,by rw[A.out];exact K.out⟩
theorem AL.texts {w:World} {b g:Nat} {s:Rd.St} (h:AL w b g s):∀t∈s.rest,t.text.length≤1000000000:=by
 obtain⟨⟨T,B,F,i,G,E,A,C,o⟩,D⟩:=h;intro t ht;rw[A]at ht;exact o.size t (List.mem_of_mem_drop ht)
theorem AL.rest_len {w:World} {b g:Nat} {s:Rd.St} (h:AL w b g s):1≤s.rest.length∧s.rest.length≤1501:=by
 obtain⟨⟨T,B,F,i,G,E,A,C,o⟩,D⟩:=h;rw[A,List.length_drop];have:=o.len;omega
theorem Fb (a b:List UInt8):((⟨a.toArray⟩:ByteArray)++(⟨b.toArray⟩:ByteArray))=⟨(a++b).toArray⟩:=by
 apply ByteArray.ext;simp
theorem FT (a:List UInt8):(⟨a.toArray⟩:ByteArray).size=a.length:=by
 show a.toArray.size=_;simp
theorem Hy (b g:Nat):∀(n:Nat) (s:Rd.St) (w:World),AL w b g s→(s.err≠0∨s.rest.length≤n)→n≤1600→0≤s.deep∧s.deep+n≤900000 →
  Calls Tryz.prog 67 #[.pointer (some ⟨b,0,none⟩)] w λr w'=>r=.returned (.string ⟨(Rd.type (n+1) s).2.toArray⟩)∧AL w' b g (Rd.type (n+1) s).1∧Fr b w w':=by
 intro n
 induction n using Nat.strongRecOn with
 | _ n ih =>
 intro s w h hn hnb hd;have ab:=QA ih;have HN:=QA hn;have H:=QA h;obtain⟨d0,d1⟩:=hd;clear ih hn h;go_enter Tryz.func67,Tryz.ntmps67;go_wp2_with fail;refine (Bb b g s Rd.lbrk _ w H.out).mono ?_;rintro r w1 ⟨rfl,hb1⟩;obtain⟨B,X⟩:∃B,B=Rd.isS s Rd.lbrk:=⟨_,rfl⟩
 have V:=QA X;have H1:=QA (H.out.below hb1);have S:=QA hb1;rw[← X];clear X hb1;cases B
 ·have HC:Hid (Rd.typeCore (Rd.type n) s=Rd.name s):=by
   unfold Rd.typeCore;rw[if_neg (by rw[← V.out];simp)];exact QA rfl
  go_wp2_with fail;refine (AZ b g s w1 H1.out).mono ?_;rintro r w8 ⟨rfl,h8,f8⟩;obtain⟨F,I⟩:∃x,x=(Rd.name s).1:=⟨_,rfl⟩
  obtain⟨J,G⟩:∃x,x=(Rd.name s).2:=⟨_,rfl⟩
  obtain⟨Q,A⟩:∃x:ByteArray,x=⟨(Rd.name s).2.toArray⟩:=⟨_,rfl⟩
  rw[← I]at h8;rw[← A];have C:Hid (Rd.typeCore (Rd.type n) s=(F,J)):=by rw[HC.out,I,G];exact QA rfl
  have D:Hid (Q=⟨J.toArray⟩):=by rw[A,G];exact QA rfl
  have W:Q.size≤1000010000:=by
   have h1:J.length≤(Rd.type (n+1) s).2.length:=by
    show _≤(Rd.bangOf (Rd.typeCore (Rd.type n) s)).2.length;rw[C.out];unfold Rd.bangOf;split
    ·simp
    ·simp
   have P:=Rd.type_len 1000000000 (n+1) s H.out.texts;rw[D.out,FT];omega
  have HT:=QA h8;have M:=QA ((But.of_below S.out).trans f8);clear I G A h8 f8 HC;go_wp2_with fail;refine (BC b g F Rd.bang w8 HT.out).mono ?_;rintro r w9 ⟨rfl,h9,f9⟩;obtain⟨B2,E⟩:∃B,B=Rd.isS F Rd.bang:=⟨_,rfl⟩
  have o:=QA E;have T:=QA h9;have U:=QA (But.trans M.out f9);rw[← E];clear E h9 f9;cases B2
  ·have K:Hid (Rd.type (n+1) s=(F,J)):=by
    show Hid (Rd.bangOf (Rd.typeCore (Rd.type n) s)=_);rw[C.out];unfold Rd.bangOf;rw[if_neg (by rw[← o.out];simp)];exact QA rfl
   have O:Hid (AL w9 b g F):=by
    have:=T.out;unfold Rd.take at this;rw[if_neg (by rw[← o.out];simp)]at this;exact QA this
   go_wp2_with fail;go_ret;exact⟨by rw[K.out];exact congrArg (λx=>Ending.returned (.string x)) D.out,by rw[K.out];exact O.out,U.out⟩
  ·have K:Hid (Rd.type (n+1) s=(Rd.next F,J++Rd.bang)):=by
    show Hid (Rd.bangOf (Rd.typeCore (Rd.type n) s)=_);rw[C.out];unfold Rd.bangOf;rw[if_pos o.out.symm];exact QA rfl
   have O:Hid (AL w9 b g (Rd.next F)):=by
    have:=T.out;unfold Rd.take at this;rw[if_pos o.out.symm]at this;exact QA this
   have Z:(⟨#[33]⟩:ByteArray).size=1:=rfl;go_wp2_with fail;go_ret;exact⟨by rw[K.out];exact congrArg (λx=>Ending.returned (.string x)) (by rw[D.out];exact Fb J Rd.bang),by rw[K.out];exact O.out,U.out⟩
 ·have N:s.err=0:=by
   have:=V.out;unfold Rd.isS at this;cases he:decide (s.err=0)
   ·rw[he]at this;simp at this
   ·simpa using he
  obtain⟨m,rfl⟩:∃m,n=m+1:=by
   have:=H.out.rest_len;rcases HN.out with h|h
   ·exact absurd N h
   ·exact⟨n-1,by omega⟩
  have Y:Hid ((Rd.down Rd.lbrk s).err≠0∨(Rd.down Rd.lbrk s).rest.length≤m):=by
   refine QA ?_;rcases Rd.down_goes V.out.symm with h|h
   ·exact .inl h
   ·rcases HN.out with P|P
    ·exact absurd N P
    ·exact .inr (by omega)
  have R:=QA (Rd.down_deep Rd.lbrk s);clear N;go_wp2_with fail;refine (Ca b g s Rd.lbrk w1 H1.out ⟨by omega,by omega⟩).mono ?_;rintro r w2 ⟨rfl,P,f2⟩;have H2:=QA P;have F2:=QA f2;clear P f2;go_wp2_with fail;refine (ab.out m (by omega) (Rd.down Rd.lbrk s) w2 H2.out Y.out (by omega) (by rw[R.out];omega)).mono ?_;rintro r w3 ⟨rfl,h3,f3⟩;have H3:=QA h3;have F3:=QA f3;obtain⟨tv,L⟩:∃x:ByteArray,x=⟨(Rd.type (m+1) (Rd.down Rd.lbrk s)).2.toArray⟩:=⟨_,rfl⟩
  have an:tv.size≤1000005000:=by
   have:=Rd.type_len 1000000000 (m+1) (Rd.down Rd.lbrk s) (λt ht=>H.out.texts t ((Rd.ok_down _ s).sub t ht));rw[L,FT];omega
  have ad:=QA L;have ak:(⟨#[91]⟩:ByteArray).size=1:=rfl;have al:(⟨#[93]⟩:ByteArray).size=1:=rfl;rw[← L];clear h3 f3 L;go_wp2_with fail;refine (Du b g (Rd.type (m+1) (Rd.down Rd.lbrk s)).1 Rd.rbrk w3 H3.out (by rw[Rd.type_deep,R.out];omega)).mono ?_;rintro r w8 ⟨rfl,h8,f8⟩;obtain⟨F,I⟩:∃x,x=Rd.up Rd.rbrk (Rd.type (m+1) (Rd.down Rd.lbrk s)).1:=⟨_,rfl⟩
  obtain⟨J,G⟩:∃x,x=Rd.lbrk++(Rd.type (m+1) (Rd.down Rd.lbrk s)).2++Rd.rbrk:=⟨_,rfl⟩
  obtain⟨Q,A⟩:∃x:ByteArray,x=⟨#[91]⟩++tv++⟨#[93]⟩:=⟨_,rfl⟩
  rw[← I]at h8;rw[← A];have C:Hid (Rd.typeCore (Rd.type (m+1)) s=(F,J)):=by
   unfold Rd.typeCore;rw[if_pos V.out.symm,I,G];exact QA rfl
  have D:Hid (Q=⟨J.toArray⟩):=by
   rw[A,G,ad.out];exact QA (by rw[← Fb,← Fb];rfl)
  have W:Q.size≤1000010000:=by
   have h1:J.length≤(Rd.type ((m+1)+1) s).2.length:=by
    show _≤(Rd.bangOf (Rd.typeCore (Rd.type (m+1)) s)).2.length;rw[C.out];unfold Rd.bangOf;split
    ·simp
    ·simp
   have P:=Rd.type_len 1000000000 ((m+1)+1) s H.out.texts;rw[D.out,FT];omega
  have HT:=QA h8;have M:=QA ((((But.of_below S.out).trans F2.out).trans F3.out).trans f8);clear I G A h8 f8;go_wp2_with fail;refine (BC b g F Rd.bang w8 HT.out).mono ?_;rintro r w9 ⟨rfl,h9,f9⟩;obtain⟨B2,E⟩:∃B,B=Rd.isS F Rd.bang:=⟨_,rfl⟩
  have o:=QA E;have T:=QA h9;have U:=QA (But.trans M.out f9);rw[← E];clear E h9 f9;cases B2
  ·have K:Hid (Rd.type ((m+1)+1) s=(F,J)):=by
    show Hid (Rd.bangOf (Rd.typeCore (Rd.type (m+1)) s)=_);rw[C.out];unfold Rd.bangOf;rw[if_neg (by rw[← o.out];simp)];exact QA rfl
   have O:Hid (AL w9 b g F):=by
    have:=T.out;unfold Rd.take at this;rw[if_neg (by rw[← o.out];simp)]at this;exact QA this
   go_wp2_with fail;go_ret;exact⟨by rw[K.out];exact congrArg (λx=>Ending.returned (.string x)) D.out,by rw[K.out];exact O.out,U.out⟩
  ·have K:Hid (Rd.type ((m+1)+1) s=(Rd.next F,J++Rd.bang)):=by
    show Hid (Rd.bangOf (Rd.typeCore (Rd.type (m+1)) s)=_);rw[C.out];unfold Rd.bangOf;rw[if_pos o.out.symm];exact QA rfl
   have O:Hid (AL w9 b g (Rd.next F)):=by
    have:=T.out;unfold Rd.take at this;rw[if_pos o.out.symm]at this;exact QA this
   have Z:(⟨#[33]⟩:ByteArray).size=1:=rfl;go_wp2_with fail;go_ret;exact⟨by rw[K.out];exact congrArg (λx=>Ending.returned (.string x)) (by rw[D.out];exact Fb J Rd.bang),by rw[K.out];exact O.out,U.out⟩
end Go.Proofs.YtedeapbonbbacaaGreatDoor
