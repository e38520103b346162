/-
  The reader: how it lies in memory; Peek, Fail, Wrong, Next, walked. The reader: Is, Word, walked. The reader: Take, Want, Name, End, Down, Up, Some, walked. The reader: Type, walked. The lexer's 'Quote', walked.
-/
import Derived.Test.YtefjgpkpplkkgaaGreatDoorZo1
import Derived.Test.YtefjgpkpplkkgaaGreatDoorZo10
import Derived.Test.YtefjgpkpplkkgaaGreatDoorZo6
import Derived.Test.YtefjgpkpplkkgaaGreatDoorZo7
import Derived.Deep.LoopGhost
import Derived.Test.YtefjgpkpplkkgaaGreatDoorZo9
import Derived.Test.YtefjgpkpplkkgaaGreatDoorZo8
open Go.Lib renaming hid → QA
open List renaming length_append → QU, drop_eq_getElem_cons → ZG, append_assoc → ZJ, getElem?_eq_getElem → ZL
open Nat renaming le_refl → QM
namespace Go.Proofs.YtefjgpkpplkkgaaGreatDoor
set_option maxRecDepth 100000
set_option maxHeartbeats 4000000
set_option linter.unusedSimpArgs false
set_option linter.unusedVariables false
open Go Go.RowKit
@[go_sem high] theorem PC (x y z : Value) (w : World) : (Instr.field 136 (.agg #[x, y, z]) 0).run Tryz.prog w = .ok x w := by kernel_rfl
@[go_sem high] theorem PR (x y z : Value) (w : World) : (Instr.field 136 (.agg #[x, y, z]) 1).run Tryz.prog w = .ok y w := by kernel_rfl
@[go_sem high] theorem PL (x y z : Value) (w : World) : (Instr.field 136 (.agg #[x, y, z]) 2).run Tryz.prog w = .ok z w := by kernel_rfl
theorem JK (w:World) (T:TypeId) (x y z k t a:Value) (n m:Nat) :
  ((((((w.alloc (.cells #[x,y,z] T)).drewN n).setCell ⟨w.heap.size,0,none⟩ k).setCell ⟨w.heap.size,1,none⟩ t).setCell ⟨w.heap.size,2,none⟩ a).drewN m)=(w.alloc (.cells #[k,t,a] T)).drewN (n+m):=by
 have o:∀(v:World) (p:Addr) (u:Value),(v.drewN n).setCell p u=(v.setCell p u).drewN n:=λ_ _ _=>rfl
 rw[o,o,o,KV,World.setCell_alloc_at _ _ _ _ _ rfl,World.setCell_alloc_at _ _ _ _ _ rfl,World.setCell_alloc_at _ _ _ _ _ rfl];rfl
structure MF (ts:List Lx.Tok):Prop where
 len:ts.length≤1501
 last:∀t,ts[ts.length-1]?=some t→t.kind=0
 kind:∀t∈ts,t.kind≤5
 size:∀t∈ts,t.text.length≤1000000000
 at_:∀t∈ts,t.at_≤4096
structure AL (w:World) (b g:Nat) (s:Rd.St):Prop where
 ex:∃(T:TypeId) (cap:Nat) (ts:List Lx.Tok) (i:Nat),w.heap[b]?=some (.cells #[.slice (some ⟨g,0,none⟩) ts.length cap,.int .i64 i,.int .i64 s.deep,.int .i64 s.at_,.int .i64 s.err] T (0,0)) ∧
  BS w g ts∧s.rest=ts.drop i∧i<ts.length∧MF ts
 ne:g≠b
section
variable {w w' : World} {b g : Nat} {s : Rd.St}
theorem AL.lt (h:AL w b g s):b<w.heap.size∧g<w.heap.size:=by
 obtain⟨⟨T,A,C,i,o,B,F,E,D⟩,_⟩:=h;exact⟨block_lt o,B.lt⟩
theorem BS.heap {w w':World} {g:Nat} {ts:List Lx.Tok} (h:BS w g ts) (hs:w.heap.size≤w'.heap.size) (he:w'.heap[g]?=w.heap[g]?):BS w' g ts:=by
 have e:∀k,w'.cell? ⟨g,k,none⟩=w.cell? ⟨g,k,none⟩:=λk=>World.cell?_of_block he
 exact⟨Nat.lt_of_lt_of_le h.lt hs,λi t x=>(e _).trans (h.kind i t x),λi t x=>(e _).trans (h.text i t x),λi t x=>(e _).trans (h.at_ i t x)⟩
theorem AL.to (h:AL w b g s) (hs:w.heap.size≤w'.heap.size) (hb:w'.heap[b]?=w.heap[b]?) (hg:w'.heap[g]?=w.heap[g]?):AL w' b g s:=by
 obtain⟨⟨T,o,A,i,C,F,G,E,D⟩,B⟩:=h;exact⟨⟨T,o,A,i,by rw[hb];exact C,F.heap hs hg,G,E,D⟩,B⟩
theorem AL.but {X:Nat→Prop} (h:AL w b g s) (hb:But X w w') (hX:∀k,X k→k≠b∧k≠g):AL w' b g s :=
 h.to hb.size (hb.block b h.lt.1 (λx=>(hX _ x).1 rfl)) (hb.block g h.lt.2 (λx=>(hX _ x).2 rfl))
theorem AL.below (h:AL w b g s) (hb:Below w.heap.size w w'):AL w' b g s:=h.to hb.size (hb.block b h.lt.1) (hb.block g h.lt.2)
theorem AL.drewN (h:AL w b g s) (n:Nat):AL (w.drewN n) b g s:=h.to (QM _) rfl rfl
theorem GB {ts l:List Lx.Tok} {i:Nat} (h:l=ts.drop i) (hi:i<ts.length):∃t r,l=t::r∧ts[i]?=some t∧r=ts.drop (i+1) :=
 ⟨ts[i],ts.drop (i+1),by rw[h,ZG hi],ZL hi,rfl⟩
theorem AL.open_ (h:AL w b g s):∃(cap n i:Nat),w.cell? ⟨b,0,none⟩=some (.slice (some ⟨g,0,none⟩) n cap)∧w.cell? ⟨b,1,none⟩=some (.int .i64 i)∧i<n∧n≤1501 ∧
  w.cell? ⟨g,i*3,none⟩=some (.int .i64 (Rd.peek s).kind)∧w.cell? ⟨g,i*3+1,none⟩=some (.string ⟨(Rd.peek s).text.toArray⟩)∧w.cell? ⟨g,i*3+2,none⟩=some (.int .i64 (Rd.peek s).at_):=by
 obtain⟨⟨T,cap,E,i,C,A,H,D,F⟩,I⟩:=h;obtain⟨t,r,G,B,J⟩:=GB H D;have o:Rd.peek s=t:=by unfold Rd.peek;rw[G];rfl
 refine⟨cap,E.length,i,by simp[World.cell?,C],by simp[World.cell?,C],D,F.len,?_,?_,?_⟩
 ·rw[o,Nat.mul_comm];exact A.kind i t B
 ·rw[o,Nat.mul_comm];exact A.text i t B
 ·rw[o,Nat.mul_comm];exact A.at_ i t B
theorem AL.c2 (h:AL w b g s):w.cell? ⟨b,2,none⟩=some (.int .i64 s.deep):=by
 obtain⟨⟨T,A,B,i,o,_⟩,_⟩:=h;simp[World.cell?,o]
theorem AL.c3 (h:AL w b g s):w.cell? ⟨b,3,none⟩=some (.int .i64 s.at_):=by
 obtain⟨⟨T,A,B,i,o,_⟩,_⟩:=h;simp[World.cell?,o]
theorem AL.c4 (h:AL w b g s):w.cell? ⟨b,4,none⟩=some (.int .i64 s.err):=by
 obtain⟨⟨T,A,B,i,o,_⟩,_⟩:=h;simp[World.cell?,o]
theorem AL.fz (h:AL w b g s) (k:Nat):w.frozen? ⟨b,k,none⟩=false:=by
 obtain⟨⟨T,A,B,i,o,_⟩,_⟩:=h;simp[World.frozen?,o]
theorem Af {w:World} {b:Nat} {cs:Array Value} {T:TypeId} {fz:Nat×Nat} {k:Nat} {v:Value} (h:w.heap[b]?=some (.cells cs T fz)):(w.setCell ⟨b,k,none⟩ v).heap[b]?=some (.cells (cs.setIfInBounds k v) T fz):=by
 simp[World.setCell,Array.getElem?_modify,h]
theorem AK {w:World} {b k c:Nat} {v:Value} (h:c≠b):(w.setCell ⟨b,k,none⟩ v).heap[c]?=w.heap[c]?:=Below.heap_setCell _ _ _ _ (λe=>h e)
theorem AU {w:World} {p:Addr} {v:Value}:(w.setCell p v).heap.size=w.heap.size:=by simp[World.setCell]
theorem AL.set_ne (h:AL w b g s) {c:Nat} (hb:b≠c) (hg:g≠c) (k:Nat) (v:Value):AL (w.setCell ⟨c,k,none⟩ v) b g s :=
 h.to (by rw[AU];exact QM _) (AK hb) (AK hg)
theorem AL.failed (h:AL w b g s) (hs:s.err=0) (e:Nat):AL ((w.setCell ⟨b,4,none⟩ (.int .i64 e)).setCell ⟨b,3,none⟩ (.int .i64 (Rd.peek s).at_)) b g (Rd.fail e s):=by
 obtain⟨⟨T,A,B,i,D,G,H,F,E⟩,o⟩:=h;unfold Rd.fail;rw[if_pos hs];have C:=Af (k:=3) (v:=.int .i64 (Rd.peek s).at_) (Af (k:=4) (v:=.int .i64 e) D);exact⟨⟨T,A,B,i,by rw[C];rfl,G.heap (by rw[AU,AU];exact QM _) (by rw[AK o,AK o]),H,F,E⟩,o⟩
theorem AL.nexted (h:AL w b g s) (hs:s.err=0) (hk:(Rd.peek s).kind≠0) {i:Nat} (hi:w.cell? ⟨b,1,none⟩=some (.int .i64 i)):AL (w.setCell ⟨b,1,none⟩ (.int .i64 (i+1))) b g (Rd.next s):=by
 obtain⟨⟨T,C,o,j,D,L,N,K,E⟩,G⟩:=h;have B:(i:Int)=j:=by
  simp[World.cell?,D]at hi;exact hi.symm
 obtain⟨t,r,F,I,M⟩:=GB N K;have J:Rd.peek s=t:=by unfold Rd.peek;rw[F];rfl
 unfold Rd.next;rw[if_pos ⟨hs,hk⟩];have A:j+1<o.length:=by
  rcases Nat.lt_or_ge (j+1) o.length with h|h
  ·exact h
  ·have:=E.last t (by rw[show o.length-1=j by omega];exact I);rw[J]at hk;exact absurd this hk
 have H:=Af (k:=1) (v:=.int .i64 (i+1)) D;exact⟨⟨T,C,o,j+1,by rw[H,B];rfl,L.heap (by rw[AU];exact QM _) (by rw[AK G]),by show s.rest.drop 1=_;rw[F,M];rfl,A,E⟩,G⟩
end
theorem A2 (b g:Nat) (s:Rd.St) (w:World) (h:AL w b g s) :
  Calls Tryz.prog 72 #[.pointer (some ⟨b,0,none⟩)] w λe w'=>e=.returned (.agg #[.int .i64 (Rd.peek s).kind,.string ⟨(Rd.peek s).text.toArray⟩,.int .i64 (Rd.peek s).at_])∧Below w.heap.size w w':=by
 obtain⟨B,n,i,F,k1,hi,I,E,G,D⟩:=h.open_;have o:=h.lt;have A:(0:Int)≤(i:Int):=Int.natCast_nonneg _;have C:(i:Int)<(n:Int):=by omega
 have H:=QA h;clear h;go_enter Tryz.func72,Tryz.ntmps72;go_wp2_with fail;refine AF [10] (by kernel_rfl) (by kernel_rfl) ?_;simp only[Ae,List.take_succ_cons,List.take_zero,List.drop_succ_cons,List.drop_zero,Nat.sub_zero,Nat.reduceSub,Nat.reduceAdd]
 repeat (go_big_quiet_step (fail))
 refine wpQuiet_nil ?_;rintro _ ⟨nq,rfl⟩;go_wp2
 repeat (go_big_quiet_step (fail))
 refine wpQuiet_nil ?_;rintro _ ⟨nr,rfl⟩;rw[JK];go_wp2;refine bodyPost_ret (v:=.agg #[.int .i64 (Rd.peek s).kind,.string ⟨(Rd.peek s).text.toArray⟩,.int .i64 (Rd.peek s).at_]) (by simp[results,Tryz.results72,go_sem]) rfl ⟨rfl,?_⟩
 (repeat' (first|(with_reducible assumption)|(with_reducible exact Below.refl _ _)|(with_reducible refine Below.drewN ?_ _)|(with_reducible refine Below.drew ?_)|(with_reducible refine Below.alloc ?_ ?_ _)))<;>(simp;try omega)
theorem GE (b g e:Nat) (s:Rd.St) (w:World) (h:AL w b g s) :
  Calls Tryz.prog 168 #[.pointer (some ⟨b,0,none⟩),.int .i64 e] w λr w'=>r=.returned (.tuple #[])∧AL w' b g (Rd.fail e s)∧Fr b w w':=by
 have B:=h.c4;have H:=QA h;clear h;go_enter Tryz.func168,Tryz.ntmps168;by_cases hs:s.err=0
 ·have A:=eqT (n:=s.err) (k:=0) (by omega);go_wp2_with fail;refine (A2 b g s w H.out).mono ?_;rintro r w1 ⟨rfl,hb1⟩;have o:=H.out.below hb1;have I:=o.c4;have E:=o.c3;have F:=o.fz 4;have G:=o.fz 3;have C:=QA o;have D:=QA hb1;clear o hb1 B;go_wp2;go_end0;exact⟨rfl,C.out.failed hs e,Fr.set (Fr.set (But.of_below D.out) _ _) _ _⟩
 ·have A:=eqF (n:=s.err) (k:=0) (by omega);go_wp2_with fail;go_end0;refine⟨rfl,?_,But.refl _ _⟩;unfold Rd.fail;rw[if_neg hs];exact H.out
theorem A7 (b g:Nat) (s:Rd.St) (w:World) (h:AL w b g s) :
  Calls Tryz.prog 97 #[.pointer (some ⟨b,0,none⟩)] w λr w'=>r=.returned (.tuple #[])∧AL w' b g (Rd.wrong s)∧Fr b w w':=by
 have H:=QA h;clear h;go_enter Tryz.func97,Tryz.ntmps97;go_wp2_with fail;refine (GE b g 41 s w H.out).mono ?_;rintro r w1 ⟨rfl,h1,hf1⟩;go_wp2_with fail;go_end0;exact⟨rfl,h1,hf1⟩
structure TkB (w:World) (c:Nat) (t:Lx.Tok):Prop where
 c0:w.cell? ⟨c,0,none⟩=some (.int .i64 t.kind)
 c1:w.cell? ⟨c,1,none⟩=some (.string ⟨t.text.toArray⟩)
 c2:w.cell? ⟨c,2,none⟩=some (.int .i64 t.at_)
theorem Gx (w:World) (t:Lx.Tok) (T:TypeId):TkB (w.alloc (.cells #[.int .i64 t.kind,.string ⟨t.text.toArray⟩,.int .i64 t.at_] T)) w.heap.size t:=by
 exact⟨A4 _ _ _ _ _ _ rfl,A4 _ _ _ _ _ _ rfl,A4 _ _ _ _ _ _ rfl⟩
structure TkZ (w:World) (c:Nat):Prop where
 c0:w.cell? ⟨c,0,none⟩=some (.int .i64 0)
 c1:w.cell? ⟨c,1,none⟩=some (.string ⟨#[]⟩)
 c2:w.cell? ⟨c,2,none⟩=some (.int .i64 0)
 f0:w.frozen? ⟨c,0,none⟩=false
 f1:w.frozen? ⟨c,1,none⟩=false
 f2:w.frozen? ⟨c,2,none⟩=false
theorem MO (w:World) (T:TypeId):TkZ (w.alloc (.cells #[.int .i64 0,.string ⟨#[]⟩,.int .i64 0] T)) w.heap.size:=by
 exact⟨A4 _ _ _ _ _ _ rfl,A4 _ _ _ _ _ _ rfl,A4 _ _ _ _ _ _ rfl,CK _ _ _ _,CK _ _ _ _,CK _ _ _ _⟩
theorem TkZ.below {w w':World} {c:Nat} (h:TkZ w c) (hc:c<w.heap.size) (hb:Below w.heap.size w w'):TkZ w' c:=by
 have e:=hb.block c hc;have o:∀k,w'.cell? ⟨c,k,none⟩=w.cell? ⟨c,k,none⟩:=λk=>World.cell?_of_block e
 have A:∀k,w'.frozen? ⟨c,k,none⟩=w.frozen? ⟨c,k,none⟩:=λk=>World.frozen?_of_block e
 exact⟨(o _).trans h.c0,(o _).trans h.c1,(o _).trans h.c2,(A _).trans h.f0,(A _).trans h.f1,(A _).trans h.f2⟩
theorem AZ (b g:Nat) (s:Rd.St) (w:World) (h:AL w b g s) :
  Calls Tryz.prog 98 #[.pointer (some ⟨b,0,none⟩)] w λr w'=>r=.returned (.agg #[.int .i64 (Rd.peek s).kind,.string ⟨(Rd.peek s).text.toArray⟩,.int .i64 (Rd.peek s).at_])∧AL w' b g (Rd.next s)∧Fr b w w':=by
 have W:=h.lt;have H:=QA h;clear h;go_enter Tryz.func98,Tryz.ntmps98;go_wp2_with fail;have C:Below w.heap.size w (w.alloc (.cells #[.int .i64 0,.string ⟨#[]⟩,.int .i64 0] 136)):=(Below.refl _ _).alloc (QM _) _;have Q:=MO w 136;refine (A2 b g s _ (H.out.below C)).mono ?_;rintro r w1 ⟨rfl,hb1⟩;have J:=Q.below (by simp) hb1;have A:=C.trans (hb1.mono C.size);obtain⟨o,G⟩:∃t,t=Rd.peek s:=⟨_,rfl⟩
 have B:=QA G;rw[← G];have E:Below w.heap.size w (w1.alloc (.cells #[.int .i64 o.kind,.string ⟨o.text.toArray⟩,.int .i64 o.at_] 136)):=A.alloc A.size _;have hT:=Gx w1 o 136;have N:TkZ (w1.alloc (.cells #[.int .i64 o.kind,.string ⟨o.text.toArray⟩,.int .i64 o.at_] 136)) w.heap.size:=J.below (by have:=hb1.size;simp at this;omega) ((Below.refl _ _).alloc (QM _) _);have K:=H.out.below E;have c4:=K.c4;have f1:=K.fz 1;obtain⟨_,_,i,_,c1,_⟩:=K.open_;obtain⟨t0,t1,t2⟩:=hT;obtain⟨U,R,O,y0,y1,y2⟩:=N;have D:¬b=w.heap.size:=by omega
 have V:¬w.heap.size=b:=by omega
 have n3:¬b=w1.heap.size:=by have:=A.size;omega
 have n4:¬w1.heap.size=b:=by have:=A.size;omega
 have Z:¬w.heap.size=w1.heap.size:=by have:=hb1.size;simp at this;omega
 have n6:¬w1.heap.size=w.heap.size:=λe=>Z e.symm
 have I:=QA E;have T:=QA K;clear E hb1 A G K Q J C;by_cases hnx:s.err=0∧o.kind≠0
 ·obtain⟨M,L⟩:=hnx;have S:=eqT (n:=s.err) (k:=0) (by omega);have X:=neT (n:=o.kind) (k:=0) (by omega);have P:Hid (s.err=0∧(Rd.peek s).kind≠0):=QA ⟨M,by rw[← B.out];exact L⟩;clear M L;go_wp2_with fail;refine bodyPost_ret (v:=.agg #[.int .i64 o.kind,.string ⟨o.text.toArray⟩,.int .i64 o.at_]) (by simp[results,Tryz.results98,go_sem,U,R,O,D,V]) rfl ⟨by rw[B.out],?_,?_⟩
  ·exact (((T.out.nexted P.out.1 P.out.2 c1).set_ne D (by omega) _ _).set_ne D (by omega) _ _).set_ne D (by omega) _ _
  ·exact But.setCell (But.setCell (But.setCell (Fr.set (But.of_below I.out) _ _) (.inr (QM _)) _) (.inr (QM _)) _) (.inr (QM _)) _
 ·have Y:Hid (Rd.next s=s):=by
   unfold Rd.next;rw[if_neg (by rw[← B.out];exact hnx)];exact QA rfl
  have F:(((s.err:Int)==0)=false)∨(((s.err:Int)==0)=true∧((o.kind:Int) != 0)=false):=by
   by_cases M:s.err=0
   ·refine .inr ⟨eqT (by omega),neF ?_⟩;by_cases L:o.kind=0
    ·omega
    ·exact absurd ⟨M,L⟩ hnx
   ·exact .inl (eqF (by omega))
  clear hnx;rcases F with S|⟨S,X⟩
  all_goals
   go_wp2_with fail;refine bodyPost_ret (v:=.agg #[.int .i64 o.kind,.string ⟨o.text.toArray⟩,.int .i64 o.at_]) (by simp[results,Tryz.results98,go_sem,U,R,O,D,V]) rfl ⟨by rw[B.out],?_,?_⟩
   ·rw[Y.out];exact ((T.out.set_ne D (by omega) _ _).set_ne D (by omega) _ _).set_ne D (by omega) _ _
   ·exact But.setCell (But.setCell (But.setCell (But.of_below I.out) (.inr (QM _)) _) (.inr (QM _)) _) (.inr (QM _)) _
def Bh (w:World) (v:Value) (ls:List (List UInt8)):Prop :=
 ∃a cap,v=.slice a ls.length cap∧∀(i:Nat) s,ls[i]?=some s→∃b off,a=some ⟨b,off,none⟩∧b<w.heap.size∧w.cell? ⟨b,off+i,none⟩=some (.string ⟨s.toArray⟩)
theorem Bh.form {w:World} {v:Value} {ls:List (List UInt8)} (h:Bh w v ls):∃a cap,v=.slice a ls.length cap:=by
 obtain⟨a,cap,o,A⟩:=h;exact⟨a,cap,o⟩
theorem Bh.at {w:World} {a:Option Addr} {n cap:Nat} {ls:List (List UInt8)} (h:Bh w (.slice a n cap) ls) {i:Nat} {s:List UInt8} (hi:ls[i]?=some s) :
  ∃b off,a=some ⟨b,off,none⟩∧b<w.heap.size∧w.cell? ⟨b,off+i,none⟩=some (.string ⟨s.toArray⟩):=by
 obtain⟨E,A,o,B⟩:=h;obtain⟨b,off,e,D,C⟩:=B i s hi;simp only[Value.slice.injEq]at o;exact⟨b,off,by rw[o.1,e],D,C⟩
theorem Bh.below {w w':World} {v:Value} {ls:List (List UInt8)} (h:Bh w v ls) (hb:Below w.heap.size w w'):Bh w' v ls:=by
 obtain⟨a,A,C,D⟩:=h;refine⟨a,A,C,λi s hi=>?_⟩;obtain⟨b,o,e,B,E⟩:=D i s hi;exact⟨b,o,e,Nat.lt_of_lt_of_le B hb.size,by rw[hb.cell (p:=⟨b,o+i,none⟩) B];exact E⟩
theorem Bh.nil (w:World):Bh w (.slice none 0 0) []:=⟨none,0,rfl,λi s h=>by simp at h⟩
theorem Cr (w:World) (ls:List (List UInt8)) (cs:Array Value) (T:TypeId) (hc:cs=(ls.map λs=>Value.string ⟨s.toArray⟩).toArray):Bh (w.alloc (.cells cs T)) (.slice (some ⟨w.heap.size,0,none⟩) ls.length ls.length) ls:=by
 subst hc;refine⟨_,_,rfl,λi s hi=>⟨w.heap.size,0,rfl,by simp,?_⟩⟩;rw[Nat.zero_add];exact A4 _ _ _ _ _ _ (by simp[hi])
theorem F8 {ls:List (List UInt8)} {p:List UInt8→Bool} {j:Nat} {s:List UInt8} (h:ls[j]?=some s):(ls.drop j).any p=(p s||(ls.drop (j+1)).any p):=by
 obtain⟨o,rfl⟩:=List.getElem?_eq_some_iff.1 h;rw[ZG o,List.any_cons]
theorem CG (b g:Nat) (s:Rd.St) (v:Value) (ls:List (List UInt8)) (w:World) (h:AL w b g s) (hV:Bh w v ls) (hl:ls.length≤1000000) :
  Calls Tryz.prog 96 #[.pointer (some ⟨b,0,none⟩),v] w λr w'=>r=.returned (.bool (ls.any (Rd.isS s)))∧Below w.heap.size w w':=by
 obtain⟨va,vc,rfl⟩:=hV.form;have H:=QA h;have U:=QA hV;clear h hV;go_enter Tryz.func96,Tryz.ntmps96;go_wp2_with fail;refine (A2 b g s w H.out).mono ?_;rintro r w1 ⟨rfl,hb1⟩;obtain⟨A,I⟩:∃t,t=Rd.peek s:=⟨_,rfl⟩
 have F:=QA I;rw[← I];obtain⟨S,B⟩:∃W,W=w1.alloc (.cells #[.int .i64 A.kind,.string ⟨A.text.toArray⟩,.int .i64 A.at_] 136):=⟨_,rfl⟩
 have G:Below w.heap.size w S:=by rw[B];exact hb1.alloc hb1.size _
 have R:=Gx w1 A 136;rw[← B]at R;have c4:=(H.out.below G).c4;obtain⟨Z,t1,t2⟩:=R;have E:=QA G;have T:=QA B;clear G hb1 I B;go_wp2_with fail;rw[← T.out]
 go_loopg [12] ls.length (λk s12 wr=>∃j:Nat,j≤ls.length∧k=ls.length-j∧s12=.int .i64 (j:Nat)∧(ls.drop j).any (Rd.isS s)=ls.any (Rd.isS s)∧wr=S)
 case atStart=>exact⟨0,Nat.zero_le _,rfl,rfl,rfl,rfl⟩
 case round =>
  obtain⟨j,hj,Q,rfl,D,rfl⟩:=hrel;have N:=QA Q;have o:=QA D;clear Q D;have V:(0:Int)≤(j:Int):=Int.natCast_nonneg _;by_cases hjn:j<ls.length
  ·have K:(j:Int)<(ls.length:Int):=by omega
   obtain⟨c,O⟩:∃c,ls[j]?=some c:=⟨_,ZL hjn⟩
   obtain⟨cb,co,rfl,_,M⟩:=(U.out.below E.out).at O;have C:=QA (F8 (p:=Rd.isS s) O);clear O;by_cases he:s.err=0
   ·have Y:=eqT (n:=s.err) (k:=0) (by omega);by_cases hkd:A.kind=5
    ·have X:=eqT (n:=A.kind) (k:=5) (by omega);by_cases htx:A.text=c
     ·have J:(A.text==c)=true:=by rw[htx];simp
      have P:Hid (true=ls.any (Rd.isS s)):=by
       rw[← o.out,C.out];unfold Rd.isS;rw[← F.out,he,hkd,htx];exact QA (by simp)
      clear htx he hkd;go_wp2;go_ret;exact⟨congrArg (λb=>Ending.returned (.bool b)) P.out,E.out⟩
     ·have J:(A.text==c)=false:=by rw[beq_eq_false_iff_ne];exact htx
      have L:Hid (Rd.isS s c=false):=by
       unfold Rd.isS;rw[← F.out,decide_eq_false htx,Bool.and_false];exact QA rfl
      clear htx he hkd;go_wp2;go_roundg (ls.length-(j+1))
      case measure=>rw[N.out];omega
      case rel=>exact⟨j+1,hjn,rfl,by simp,by rw[← o.out,C.out,L.out,Bool.false_or],rfl⟩
    ·have X:=eqF (n:=A.kind) (k:=5) (by omega);have L:Hid (Rd.isS s c=false):=by
      unfold Rd.isS;rw[← F.out,decide_eq_false hkd,Bool.and_false,Bool.false_and];exact QA rfl
     clear he hkd;go_wp2;go_roundg (ls.length-(j+1))
     case measure=>rw[N.out];omega
     case rel=>exact⟨j+1,hjn,rfl,by simp,by rw[← o.out,C.out,L.out,Bool.false_or],rfl⟩
   ·have Y:=eqF (n:=s.err) (k:=0) (by omega);have L:Hid (Rd.isS s c=false):=by
     unfold Rd.isS;rw[decide_eq_false he,Bool.false_and,Bool.false_and];exact QA rfl
    clear he;go_wp2;go_roundg (ls.length-(j+1))
    case measure=>rw[N.out];omega
    case rel=>exact⟨j+1,hjn,rfl,by simp,by rw[← o.out,C.out,L.out,Bool.false_or],rfl⟩
  ·have K:(ls.length:Int)≤(j:Int):=by omega
   have P:Hid (false=ls.any (Rd.isS s)):=by
    rw[← o.out,List.drop_of_length_le (by omega)];exact QA rfl
   go_wp2;go_ret;exact⟨congrArg (λb=>Ending.returned (.bool b)) P.out,E.out⟩
theorem Bs (b g:Nat) (s:Rd.St) (c:List UInt8) (T:TypeId) (w:World) (h:AL w b g s) :
  Calls Tryz.prog 96 #[.pointer (some ⟨b,0,none⟩),.slice (some ⟨w.heap.size,0,none⟩) 1 1] (w.alloc (.cells #[.string ⟨c.toArray⟩] T)) λr w'=>r=.returned (.bool (Rd.isS s c))∧Below w.heap.size w w':=by
 have o:Below w.heap.size w (w.alloc (.cells #[.string ⟨c.toArray⟩] T)):=(Below.refl _ _).alloc (QM _) _;refine (CG b g s _ [c] _ (h.below o) (Cr w [c] _ T rfl) (by simp)).mono ?_;rintro r w' ⟨rfl,hb2⟩;exact⟨by simp,o.trans (hb2.mono o.size)⟩
theorem Au (b g:Nat) (s:Rd.St) (v:Value) (ls:List (List UInt8)) (w:World) (h:AL w b g s) (hV:Bh w v ls) (hl:ls.length≤1000000) :
  Calls Tryz.prog 106 #[.pointer (some ⟨b,0,none⟩),v] w λr w'=>r=.returned (.bool (Rd.isW s ls))∧Below w.heap.size w w':=by
 obtain⟨va,vc,rfl⟩:=hV.form;have H:=QA h;have Y:=QA hV;clear h hV;go_enter Tryz.func106,Tryz.ntmps106;go_wp2_with fail;refine (A2 b g s w H.out).mono ?_;rintro r w1 ⟨rfl,hb1⟩;obtain⟨o,I⟩:∃t,t=Rd.peek s:=⟨_,rfl⟩
 have J:=QA I;rw[← I];obtain⟨X,B⟩:∃W,W=w1.alloc (.cells #[.int .i64 o.kind,.string ⟨o.text.toArray⟩,.int .i64 o.at_] 136):=⟨_,rfl⟩
 have G:Below w.heap.size w X:=by rw[B];exact hb1.alloc hb1.size _
 have V:=Gx w1 o 136;rw[← B]at V;have P:=(H.out.below G).c4;have c4:=P;rw[B]at c4;obtain⟨t0,t1,t2⟩:=V;have A:=QA G;have O:=QA B;clear G hb1 I B;by_cases he:s.err=0
 ·have e4:=eqT (n:=s.err) (k:=0) (by omega);have T:=neF (n:=s.err) (k:=0) (by omega);by_cases hkd:o.kind=1
  ·have e5:=neF (n:=o.kind) (k:=1) (by omega);have S:Hid (∀ws,Rd.isW s ws=(ws.any (λw=>decide (o.text=w))||ws.isEmpty)):=QA λws=>by
    unfold Rd.isW Rd.isN;rw[← J.out,decide_eq_true he,decide_eq_true hkd];rfl
   clear he hkd;go_wp2_with fail;rw[← O.out]
   go_loopg [22] ls.length (λk s22 wr=>∃j:Nat,j≤ls.length∧k=ls.length-j∧s22=.int .i64 (j:Nat)∧(ls.drop j).any (λw=>decide (o.text=w))=ls.any (λw=>decide (o.text=w))∧wr=X)
   case atStart=>exact⟨0,Nat.zero_le _,rfl,rfl,rfl,rfl⟩
   case round =>
    obtain⟨j,hj,U,rfl,E,rfl⟩:=hrel;have HK:=QA U;have C:=QA E;clear U E;have Z:(0:Int)≤(j:Int):=Int.natCast_nonneg _;by_cases hjn:j<ls.length
    ·have M:(j:Int)<(ls.length:Int):=by omega
     obtain⟨c,Q⟩:∃c,ls[j]?=some c:=⟨_,ZL hjn⟩
     obtain⟨cb,co,rfl,_,N⟩:=(Y.out.below A.out).at Q;have K:=QA (F8 (p:=λw=>decide (o.text=w)) Q);clear Q;by_cases htx:o.text=c
     ·have L:(o.text==c)=true:=by rw[htx];simp
      have D:Hid (true=Rd.isW s ls):=by
       rw[S.out,← C.out,K.out,decide_eq_true htx];exact QA rfl
      clear htx;go_wp2;go_ret;exact⟨congrArg (λb=>Ending.returned (.bool b)) D.out,A.out⟩
     ·have L:(o.text==c)=false:=by rw[beq_eq_false_iff_ne];exact htx
      have HF:=QA (decide_eq_false htx);clear htx;go_wp2;go_roundg (ls.length-(j+1))
      case measure=>rw[HK.out];omega
      case rel=>exact⟨j+1,hjn,rfl,by simp,by rw[← C.out,K.out];show _=(decide (o.text=c)||_);rw[HF.out,Bool.false_or],rfl⟩
    ·have M:(ls.length:Int)≤(j:Int):=by omega
     have F:Hid (ls.any (λw=>decide (o.text=w))=false):=by
      rw[← C.out,List.drop_of_length_le (by omega)];exact QA rfl
     by_cases hz:ls=[]
     ·have D:Hid (true=Rd.isW s ls):=by rw[S.out,F.out,hz];exact QA rfl
      have R:=eqT (n:=ls.length) (k:=0) (by simp[hz]);clear hz;go_wp2;go_ret;exact⟨congrArg (λb=>Ending.returned (.bool b)) D.out,A.out⟩
     ·have D:Hid (false=Rd.isW s ls):=by
       rw[S.out,F.out];cases hls:ls with
       | nil=>exact absurd hls hz
       | cons=>exact QA rfl
      have R:=eqF (n:=ls.length) (k:=0) (by
       intro e;exact hz (List.eq_nil_of_length_eq_zero (by omega)))
      clear hz;go_wp2;go_ret;exact⟨congrArg (λb=>Ending.returned (.bool b)) D.out,A.out⟩
  ·have e5:=neT (n:=o.kind) (k:=1) (by omega);have D:Hid (false=Rd.isW s ls):=by
    unfold Rd.isW Rd.isN;rw[← J.out,decide_eq_false hkd,Bool.and_false,Bool.false_and];exact QA rfl
   clear he hkd;go_wp2_with fail;rw[← O.out];go_ret;exact⟨congrArg (λb=>Ending.returned (.bool b)) D.out,A.out⟩
 ·have e4:=eqF (n:=s.err) (k:=0) (by omega);have T:=neT (n:=s.err) (k:=0) (by omega);have D:Hid (false=Rd.isW s ls):=by
   unfold Rd.isW Rd.isN;rw[decide_eq_false he,Bool.false_and,Bool.false_and];exact QA rfl
  clear he;go_wp2_with fail;rw[← O.out];go_ret;exact⟨congrArg (λb=>Ending.returned (.bool b)) D.out,A.out⟩
theorem CV (b g:Nat) (s:Rd.St) (w:World) (h:AL w b g s) :
  Calls Tryz.prog 106 #[.pointer (some ⟨b,0,none⟩),.slice none 0 0] w λr w'=>r=.returned (.bool (Rd.isN s))∧Below w.heap.size w w':=by
 refine (Au b g s _ [] w h (Bh.nil w) (by simp)).mono ?_;rintro r w' ⟨rfl,hb⟩;exact⟨by unfold Rd.isW;simp,hb⟩
theorem JG (b g:Nat) (s:Rd.St) (c:List UInt8) (T:TypeId) (w:World) (h:AL w b g s) :
  Calls Tryz.prog 106 #[.pointer (some ⟨b,0,none⟩),.slice (some ⟨w.heap.size,0,none⟩) 1 1] (w.alloc (.cells #[.string ⟨c.toArray⟩] T)) λr w'=>r=.returned (.bool (Rd.isW s [c]))∧Below w.heap.size w w':=by
 have o:Below w.heap.size w (w.alloc (.cells #[.string ⟨c.toArray⟩] T)):=(Below.refl _ _).alloc (QM _) _;refine (Au b g s _ [c] _ (h.below o) (Cr w [c] _ T rfl) (by simp)).mono ?_;rintro r w' ⟨rfl,hb2⟩;exact⟨rfl,o.trans (hb2.mono o.size)⟩
theorem I3 (b g:Nat) (s:Rd.St) (c d:List UInt8) (T:TypeId) (w:World) (h:AL w b g s) :
  Calls Tryz.prog 106 #[.pointer (some ⟨b,0,none⟩),.slice (some ⟨w.heap.size,0,none⟩) 2 2] (w.alloc (.cells #[.string ⟨c.toArray⟩,.string ⟨d.toArray⟩] T)) λr w'=>r=.returned (.bool (Rd.isW s [c,d]))∧Below w.heap.size w w':=by
 have o:Below w.heap.size w (w.alloc (.cells #[.string ⟨c.toArray⟩,.string ⟨d.toArray⟩] T)):=(Below.refl _ _).alloc (QM _) _;refine (Au b g s _ [c,d] _ (h.below o) (Cr w [c,d] _ T rfl) (by simp)).mono ?_;rintro r w' ⟨rfl,hb2⟩;exact⟨rfl,o.trans (hb2.mono o.size)⟩
theorem BO (b g:Nat) (s:Rd.St) (c:List UInt8) (w:World) (h:AL w b g s) :
  Calls Tryz.prog 142 #[.pointer (some ⟨b,0,none⟩),.string ⟨c.toArray⟩] w λr w'=>r=.returned (.bool (Rd.isS s c))∧AL w' b g (Rd.take c s)∧Fr b w w':=by
 have H:=QA h;clear h;go_enter Tryz.func142,Tryz.ntmps142;go_wp2_with fail;refine (Bs b g s c _ w H.out).mono ?_;rintro r w1 ⟨rfl,hb1⟩;obtain⟨B,hB⟩:∃B,B=Rd.isS s c:=⟨_,rfl⟩
 have A:=QA hB;have C:=QA (H.out.below hb1);have o:=QA hb1;rw[← hB];clear hB hb1;cases B
 ·go_wp2_with fail;go_ret;refine⟨congrArg (λb=>Ending.returned (.bool b)) A.out,?_,But.of_below o.out⟩;unfold Rd.take;rw[if_neg (by rw[← A.out];simp)];exact C.out
 ·go_wp2_with fail;refine (AZ b g s w1 C.out).mono ?_;rintro r w2 ⟨rfl,h2,f2⟩;have D:=QA h2;have E:=QA f2;clear h2 f2;go_wp2_with fail;go_ret;refine⟨congrArg (λb=>Ending.returned (.bool b)) A.out,?_,(But.of_below o.out).trans E.out⟩;unfold Rd.take;rw[if_pos A.out.symm];exact D.out
theorem BN (b g:Nat) (s:Rd.St) (c:List UInt8) (w:World) (h:AL w b g s) :
  Calls Tryz.prog 169 #[.pointer (some ⟨b,0,none⟩),.string ⟨c.toArray⟩] w λr w'=>r=.returned (.tuple #[])∧AL w' b g (Rd.want c s)∧Fr b w w':=by
 have H:=QA h;clear h;go_enter Tryz.func169,Tryz.ntmps169;go_wp2_with fail;refine (BO b g s c w H.out).mono ?_;rintro r w1 ⟨rfl,h1,f1⟩;obtain⟨B,hB⟩:∃B,B=Rd.isS s c:=⟨_,rfl⟩
 have o:=QA hB;have C:=QA h1;have A:=QA f1;rw[← hB];clear hB h1 f1;cases B
 ·have D:Hid (AL w1 b g s):=by
   have:=C.out;unfold Rd.take at this;rw[if_neg (by rw[← o.out];simp)]at this;exact QA this
  go_wp2_with fail;refine (A7 b g s w1 D.out).mono ?_;rintro r w2 ⟨rfl,h2,f2⟩;go_wp2_with fail;go_end0;refine⟨rfl,?_,A.out.trans f2⟩;unfold Rd.want;rw[if_neg (by rw[← o.out];simp)];exact h2
 ·go_wp2_with fail;go_end0;refine⟨rfl,?_,A.out⟩;have:=C.out;unfold Rd.take at this;unfold Rd.want;rw[if_pos o.out.symm]at this ⊢;exact this
theorem Aa (b g:Nat) (s:Rd.St) (w:World) (h:AL w b g s) :
  Calls Tryz.prog 99 #[.pointer (some ⟨b,0,none⟩)] w λr w'=>r=.returned (.string ⟨(Rd.name s).2.toArray⟩)∧AL w' b g (Rd.name s).1∧Fr b w w':=by
 have H:=QA h;clear h;go_enter Tryz.func99,Tryz.ntmps99;go_wp2_with fail;refine (CV b g s w H.out).mono ?_;rintro r w1 ⟨rfl,hb1⟩;obtain⟨B,hB⟩:∃B,B=Rd.isN s:=⟨_,rfl⟩
 have F:=QA hB;have E:=QA (H.out.below hb1);have A:=QA hb1;rw[← hB];clear hB hb1;cases B
 ·go_wp2_with fail;refine (A7 b g s w1 E.out).mono ?_;rintro r w2 ⟨rfl,h2,f2⟩;have C:=QA h2;have D:=QA f2;clear h2 f2;have e:Rd.name s=(Rd.wrong s,[]):=by unfold Rd.name;rw[if_neg (by rw[← F.out];simp)]
  have o:=QA e;clear e;go_wp2_with fail;go_ret;exact⟨by rw[o.out];rfl,by rw[o.out];exact C.out,(But.of_below A.out).trans D.out⟩
 ·go_wp2_with fail;refine (AZ b g s w1 E.out).mono ?_;rintro r w2 ⟨rfl,h2,f2⟩;have C:=QA h2;have D:=QA f2;clear h2 f2;have e:Rd.name s=(Rd.next s,(Rd.peek s).text):=by unfold Rd.name;rw[if_pos F.out.symm]
  have o:=QA e;clear e;go_wp2_with fail;go_ret;exact⟨by rw[o.out];rfl,by rw[o.out];exact C.out,(But.of_below A.out).trans D.out⟩
theorem AL.deeped {w:World} {b g:Nat} {s:Rd.St} (h:AL w b g s) (d:Int):AL (w.setCell ⟨b,2,none⟩ (.int .i64 d)) b g { s with deep:=d }:=by
 obtain⟨⟨T,o,B,i,D,G,H,F,E⟩,A⟩:=h;have C:=Af (k:=2) (v:=.int .i64 d) D;exact⟨⟨T,o,B,i,by rw[C];rfl,G.heap (by rw[AU];exact QM _) (by rw[AK A]),H,F,E⟩,A⟩
theorem Ec (b g:Nat) (s:Rd.St) (c:List UInt8) (w:World) (h:AL w b g s) (hd:-1000000≤s.deep∧s.deep≤1000000) :
  Calls Tryz.prog 103 #[.pointer (some ⟨b,0,none⟩),.string ⟨c.toArray⟩] w λr w'=>r=.returned (.tuple #[])∧AL w' b g (Rd.up c s)∧Fr b w w':=by
 have H:=QA h;obtain⟨C,D⟩:=hd;clear h;go_enter Tryz.func103,Tryz.ntmps103;go_wp2_with fail;refine (BN b g s c w H.out).mono ?_;rintro r w1 ⟨rfl,h1,f1⟩;have c2:=h1.c2;rw[Rd.want_deep]at c2;have B:=h1.fz 2;have A:=QA h1;have o:=QA f1;clear h1 f1;go_wp2;go_end0;refine⟨rfl,?_,o.out.setCell (.inl rfl) _⟩;have:=A.out.deeped (s.deep-1);show AL _ b g { Rd.want c s with deep:=(Rd.want c s).deep-1 };rw[Rd.want_deep];exact this
theorem Cx (b g:Nat) (s:Rd.St) (c:List UInt8) (w:World) (h:AL w b g s) (hd:-1000000≤s.deep∧s.deep≤1000000) :
  Calls Tryz.prog 100 #[.pointer (some ⟨b,0,none⟩),.string ⟨c.toArray⟩] w λr w'=>r=.returned (.tuple #[])∧AL w' b g (Rd.down c s)∧Fr b w w':=by
 have H:=QA h;obtain⟨N,O⟩:=hd;clear h;go_enter Tryz.func100,Tryz.ntmps100;go_wp2_with fail;refine (Bs b g s c _ w H.out).mono ?_;rintro r w1 ⟨rfl,hb1⟩;obtain⟨B,hB⟩:∃B,B=Rd.isS s c:=⟨_,rfl⟩
 have J:=QA hB;have I:=QA (H.out.below hb1);have c2:=(H.out.below hb1).c2;have C:=QA hb1;rw[← hB];clear hB hb1;by_cases hx:B=true∧s.deep=16
 ·obtain⟨rfl,A⟩:=hx;have E:(s.deep==16)=true:=by rw[A];rfl
  have F:Hid (Rd.down c s={ Rd.want c (Rd.fail 42 s) with deep:=(Rd.want c (Rd.fail 42 s)).deep+1 }):=by
   unfold Rd.down;rw[if_pos ⟨J.out.symm,A⟩];exact QA rfl
  clear A;go_wp2_with fail;refine (GE b g 42 s w1 I.out).mono ?_;rintro r w2 ⟨rfl,h2,f2⟩;have L:=QA h2;have M:=QA f2;clear h2 f2 c2;go_wp2_with fail;refine (BN b g (Rd.fail 42 s) c w2 L.out).mono ?_;rintro r w3 ⟨rfl,h3,f3⟩;have c2:=h3.c2;rw[Rd.want_deep,Rd.fail_deep]at c2;have K:=h3.fz 2;have D:=QA h3;have G:=QA f3;clear h3 f3;go_wp2;go_end0;refine⟨rfl,?_,(((But.of_below C.out).trans M.out).trans G.out).setCell (.inl rfl) _⟩;rw[F.out,Rd.want_deep,Rd.fail_deep];exact D.out.deeped (s.deep+1)
 ·have F:Hid (Rd.down c s={ Rd.want c s with deep:=(Rd.want c s).deep+1 }):=by
   unfold Rd.down;rw[if_neg (λh=>hx ⟨by rw[J.out];exact h.1,h.2⟩)];exact QA rfl
  have o:B=false∨(B=true∧(s.deep==16)=false):=by
   cases B
   ·exact .inl rfl
   ·refine .inr ⟨rfl,?_⟩;rw[beq_eq_false_iff_ne];exact λh=>hx ⟨rfl,h⟩
  clear hx;rcases o with rfl|⟨rfl,E⟩
  all_goals
   go_wp2_with fail;refine (BN b g s c w1 I.out).mono ?_;rintro r w3 ⟨rfl,h3,f3⟩;clear c2;have c2:=h3.c2;rw[Rd.want_deep]at c2;have K:=h3.fz 2;have D:=QA h3;have G:=QA f3;clear h3 f3;go_wp2;go_end0;refine⟨rfl,?_,((But.of_below C.out).trans G.out).setCell (.inl rfl) _⟩;rw[F.out,Rd.want_deep];exact D.out.deeped (s.deep+1)
namespace Rd
section
variable {α : Type} (c : List UInt8) (f : St → St × α)
end
end Rd
theorem IY {α:Type} (c:List UInt8) (f:Rd.St→Rd.St×α) (I:Rd.St→List α→World→Prop) (b g:Nat) (k:FuncId) (cap:Array Value) (hk:∀w,Sem.run Tryz.prog (callFunc k cap) w=.ok (.enter k cap) w)
  (hR:∀s out w,I s out w→AL w b g s) (hB:∀s out w w',I s out w→Below w.heap.size w w'→I s out w')
  (hdo:∀s out w,I s out w→s.err=0→Calls Tryz.prog k cap w λr w'=>r=.returned (.tuple #[])∧I (f s).1 (out++[(f s).2]) w')
  (hG:∀s out w,I s out w→s.err=0→Rd.isS s c=false→(f s).1.err≠0∨(f s).1.rest.length<s.rest.length)
  (n:Nat) (s0:Rd.St) (out0:List α) (w:World) (h0:I s0 out0 w) (hn:s0.err≠0∨s0.rest.length<n) :
  Calls Tryz.prog 101 #[.pointer (some ⟨b,0,none⟩),.string ⟨c.toArray⟩,.bool false,.func (.func k) #[] cap] w λr w'=>r=.returned (.tuple #[])∧I (Rd.loop c f n s0 out0).1 (Rd.loop c f n s0 out0).2 w':=by
 have V:=QA h0;have H:=QA hR;have O:=QA hB;have M:=QA hdo;have X:=QA hG;obtain⟨L,R⟩:∃L,L=Rd.loop c f n s0 out0:=⟨_,rfl⟩
 have Y:=QA R;rw[← R];clear h0 hR hB hdo hG R;go_enter Tryz.func101,Tryz.ntmps101;go_wp2_with fail
 go_loopg [] (n+1) (λq wr=>∃(m:Nat) (s:Rd.St) (out:List α),q=m+1∧I s out wr∧(s.err≠0∨s.rest.length<m)∧Rd.loop c f m s out=L)
 case atStart=>exact⟨n,_,_,rfl,V.out,hn,Y.out.symm⟩
 case round =>
  obtain⟨m,s,out,rfl,Q,T,A⟩:=hrel;have P:=QA Q;have F:=QA A;have S:=QA T;have Z:=(H.out _ _ _ Q).c4;clear Q A T;by_cases he:s.err=0
  ·have W:=eqT (n:=s.err) (k:=0) (by omega);have o:=QA he;clear he;go_wp2_with fail;refine (Bs b g s c _ wr (H.out _ _ _ P.out)).mono ?_;rintro r w1 ⟨rfl,hb1⟩;obtain⟨B,E⟩:∃B,B=Rd.isS s c:=⟨_,rfl⟩
   have D:=QA E;have N:=QA (O.out _ _ _ _ P.out hb1);rw[← E];clear E hb1;cases B
   ·obtain⟨G,rfl⟩:∃G,m=G+1:=by
     rcases S.out with h|h
     ·exact absurd o.out h
     ·exact⟨m-1,by omega⟩
    have K:Hid (Rd.loop c f G (f s).1 (out++[(f s).2])=L):=by
     rw[← F.out,Rd.loop,if_pos ⟨o.out,D.out.symm⟩];exact QA rfl
    go_wp2_with fail;refine (M.out s out w1 N.out o.out).mono ?_;rintro r w2 ⟨rfl,h2⟩;have U:=QA h2;clear h2;have J:Hid ((f s).1.err≠0∨(f s).1.rest.length<G):=by
     rcases X.out s out w1 N.out o.out D.out.symm with h|h
     ·exact QA (.inl h)
     ·rcases S.out with h2|h2
      ·exact absurd o.out h2
      ·exact QA (.inr (by omega))
    go_wp2_with fail;go_roundg (G+1)
    case measure=>omega
    case rel=>exact⟨G,(f s).1,out++[(f s).2],rfl,U.out,J.out,K.out⟩
   ·have C:Hid (L=(s,out)):=by
     rw[← F.out];cases m with
     | zero=>exact QA rfl
     | succ m=>rw[Rd.loop,if_neg (λh=>by have:=h.2;rw[← D.out]at this;cases this)];exact QA rfl
    go_wp2_with fail;go_end0;exact⟨rfl,by rw[C.out];exact N.out⟩
  ·have W:=eqF (n:=s.err) (k:=0) (by omega);have C:Hid (L=(s,out)):=by
    rw[← F.out];cases m with
    | zero=>exact QA rfl
    | succ m=>rw[Rd.loop,if_neg (λh=>he h.1)];exact QA rfl
   clear he;go_wp2_with fail;go_end0;exact⟨rfl,by rw[C.out];exact P.out⟩
theorem Cv {α:Type} (c:List UInt8) (f:Rd.St→Rd.St×α) (I:Rd.St→List α→World→Prop) (b g:Nat) (k:FuncId) (cap:Array Value) (hk:∀w,Sem.run Tryz.prog (callFunc k cap) w=.ok (.enter k cap) w)
  (hR:∀s out w,I s out w→AL w b g s) (hB:∀s out w w',I s out w→Below w.heap.size w w'→I s out w')
  (hdo:∀s out w,I s out w→s.err=0→Calls Tryz.prog k cap w λr w'=>r=.returned (.tuple #[])∧I (f s).1 (out++[(f s).2]) w')
  (hG:∀s out w,I s out w→s.err=0→Rd.isS s c=false→(f s).1.err≠0∨(f s).1.rest.length<s.rest.length)
  (n:Nat) (s0:Rd.St) (w:World) (hfirst:Calls Tryz.prog k cap w λr w'=>r=.returned (.tuple #[])∧I (f s0).1 [(f s0).2] w') (hn:(f s0).1.err≠0∨(f s0).1.rest.length<n) :
  Calls Tryz.prog 101 #[.pointer (some ⟨b,0,none⟩),.string ⟨c.toArray⟩,.bool true,.func (.func k) #[] cap] w λr w'=>r=.returned (.tuple #[])∧I (Rd.loop1 c f n s0).1 (Rd.loop1 c f n s0).2 w':=by
 have K:=QA hfirst;have H:=QA hR;have P:=QA hB;have N:=QA hdo;have Y:=QA hG;obtain⟨L,S⟩:∃L,L=Rd.loop1 c f n s0:=⟨_,rfl⟩
 have Z:Hid (L=Rd.loop c f n (f s0).1 [(f s0).2]):=QA S;rw[← S];clear hfirst hR hB hdo hG S;go_enter Tryz.func101,Tryz.ntmps101;go_wp2_with fail;refine K.out.mono ?_;rintro r w0 ⟨rfl,h0⟩;have W:=QA h0;clear h0;go_wp2_with fail
 go_loopg [] (n+1) (λq wr=>∃(m:Nat) (s:Rd.St) (out:List α),q=m+1∧I s out wr∧(s.err≠0∨s.rest.length<m)∧Rd.loop c f m s out=L)
 case atStart=>exact⟨n,_,_,rfl,W.out,hn,Z.out.symm⟩
 case round =>
  obtain⟨m,s,out,rfl,R,U,A⟩:=hrel;have Q:=QA R;have F:=QA A;have T:=QA U;have c4:=(H.out _ _ _ R).c4;clear R A U;by_cases he:s.err=0
  ·have X:=eqT (n:=s.err) (k:=0) (by omega);have o:=QA he;clear he;go_wp2_with fail;refine (Bs b g s c _ wr (H.out _ _ _ Q.out)).mono ?_;rintro r w1 ⟨rfl,hb1⟩;obtain⟨B,E⟩:∃B,B=Rd.isS s c:=⟨_,rfl⟩
   have D:=QA E;have O:=QA (P.out _ _ _ _ Q.out hb1);rw[← E];clear E hb1;cases B
   ·obtain⟨G,rfl⟩:∃G,m=G+1:=by
     rcases T.out with h|h
     ·exact absurd o.out h
     ·exact⟨m-1,by omega⟩
    have M:Hid (Rd.loop c f G (f s).1 (out++[(f s).2])=L):=by
     rw[← F.out,Rd.loop,if_pos ⟨o.out,D.out.symm⟩];exact QA rfl
    go_wp2_with fail;refine (N.out s out w1 O.out o.out).mono ?_;rintro r w2 ⟨rfl,h2⟩;have V:=QA h2;clear h2;have J:Hid ((f s).1.err≠0∨(f s).1.rest.length<G):=by
     rcases Y.out s out w1 O.out o.out D.out.symm with h|h
     ·exact QA (.inl h)
     ·rcases T.out with h2|h2
      ·exact absurd o.out h2
      ·exact QA (.inr (by omega))
    go_wp2_with fail;go_roundg (G+1)
    case measure=>omega
    case rel=>exact⟨G,(f s).1,out++[(f s).2],rfl,V.out,J.out,M.out⟩
   ·have C:Hid (L=(s,out)):=by
     rw[← F.out];cases m with
     | zero=>exact QA rfl
     | succ m=>rw[Rd.loop,if_neg (λh=>by have:=h.2;rw[← D.out]at this;cases this)];exact QA rfl
    go_wp2_with fail;go_end0;exact⟨rfl,by rw[C.out];exact O.out⟩
  ·have X:=eqF (n:=s.err) (k:=0) (by omega);have C:Hid (L=(s,out)):=by
    rw[← F.out];cases m with
    | zero=>exact QA rfl
    | succ m=>rw[Rd.loop,if_neg (λh=>he h.1)];exact QA rfl
   clear he;go_wp2_with fail;go_end0;exact⟨rfl,by rw[C.out];exact Q.out⟩
theorem AL.texts {w:World} {b g:Nat} {s:Rd.St} (h:AL w b g s):∀t∈s.rest,t.text.length≤1000000000:=by
 obtain⟨⟨T,A,C,i,E,G,B,F,o⟩,D⟩:=h;intro t ht;rw[B]at ht;exact o.size t (List.mem_of_mem_drop ht)
theorem AL.rest_len {w:World} {b g:Nat} {s:Rd.St} (h:AL w b g s):1≤s.rest.length∧s.rest.length≤1501:=by
 obtain⟨⟨T,A,C,i,E,G,B,F,o⟩,D⟩:=h;rw[B,List.length_drop];have:=o.len;omega
theorem Gl (a b:List UInt8):((⟨a.toArray⟩:ByteArray)++(⟨b.toArray⟩:ByteArray))=⟨(a++b).toArray⟩:=by
 apply ByteArray.ext;simp
theorem Gy (a:List UInt8):(⟨a.toArray⟩:ByteArray).size=a.length:=by
 show a.toArray.size=_;simp
theorem Fv (b g:Nat):∀(n:Nat) (s:Rd.St) (w:World),AL w b g s→(s.err≠0∨s.rest.length≤n)→n≤1600→0≤s.deep∧s.deep+n≤900000 →
  Calls Tryz.prog 191 #[.pointer (some ⟨b,0,none⟩)] w λr w'=>r=.returned (.string ⟨(Rd.type (n+1) s).2.toArray⟩)∧AL w' b g (Rd.type (n+1) s).1∧Fr b w w':=by
 intro n
 induction n using Nat.strongRecOn with
 | _ n ih =>
 intro s w h hn hnb hd;have Y:=QA ih;have HN:=QA hn;have H:=QA h;obtain⟨d0,d1⟩:=hd;clear ih hn h;go_enter Tryz.func191,Tryz.ntmps191;go_wp2_with fail;refine (Bs b g s Rd.lbrk _ w H.out).mono ?_;rintro r w1 ⟨rfl,hb1⟩;obtain⟨B,hB⟩:∃B,B=Rd.isS s Rd.lbrk:=⟨_,rfl⟩
 have V:=QA hB;have H1:=QA (H.out.below hb1);have R:=QA hb1;rw[← hB];clear hB hb1;cases B
 ·have HC:Hid (Rd.typeCore (Rd.type n) s=Rd.name s):=by
   unfold Rd.typeCore;rw[if_neg (by rw[← V.out];simp)];exact QA rfl
  go_wp2_with fail;refine (Aa b g s w1 H1.out).mono ?_;rintro r w8 ⟨rfl,h8,f8⟩;obtain⟨G,F⟩:∃x,x=(Rd.name s).1:=⟨_,rfl⟩
  obtain⟨J,E⟩:∃x,x=(Rd.name s).2:=⟨_,rfl⟩
  obtain⟨Q,A⟩:∃x:ByteArray,x=⟨(Rd.name s).2.toArray⟩:=⟨_,rfl⟩
  rw[← F]at h8;rw[← A];have C:Hid (Rd.typeCore (Rd.type n) s=(G,J)):=by rw[HC.out,F,E];exact QA rfl
  have I:Hid (Q=⟨J.toArray⟩):=by rw[A,E];exact QA rfl
  have aa:Q.size≤1000010000:=by
   have h1:J.length≤(Rd.type (n+1) s).2.length:=by
    show _≤(Rd.bangOf (Rd.typeCore (Rd.type n) s)).2.length;rw[C.out];unfold Rd.bangOf;split
    ·simp
    ·simp
   have O:=Rd.type_len 1000000000 (n+1) s H.out.texts;rw[I.out,Gy];omega
  have Z:=QA h8;have M:=QA ((But.of_below R.out).trans f8);clear F E A h8 f8 HC;go_wp2_with fail;refine (BO b g G Rd.bang w8 Z.out).mono ?_;rintro r w9 ⟨rfl,h9,f9⟩;obtain⟨B2,D⟩:∃B,B=Rd.isS G Rd.bang:=⟨_,rfl⟩
  have o:=QA D;have S:=QA h9;have U:=QA (But.trans M.out f9);rw[← D];clear D h9 f9;cases B2
  ·have K:Hid (Rd.type (n+1) s=(G,J)):=by
    show Hid (Rd.bangOf (Rd.typeCore (Rd.type n) s)=_);rw[C.out];unfold Rd.bangOf;rw[if_neg (by rw[← o.out];simp)];exact QA rfl
   have P:Hid (AL w9 b g G):=by
    have:=S.out;unfold Rd.take at this;rw[if_neg (by rw[← o.out];simp)]at this;exact QA this
   go_wp2_with fail;go_ret;exact⟨by rw[K.out];exact congrArg (λx=>Ending.returned (.string x)) I.out,by rw[K.out];exact P.out,U.out⟩
  ·have K:Hid (Rd.type (n+1) s=(Rd.next G,J++Rd.bang)):=by
    show Hid (Rd.bangOf (Rd.typeCore (Rd.type n) s)=_);rw[C.out];unfold Rd.bangOf;rw[if_pos o.out.symm];exact QA rfl
   have P:Hid (AL w9 b g (Rd.next G)):=by
    have:=S.out;unfold Rd.take at this;rw[if_pos o.out.symm]at this;exact QA this
   have ab:(⟨#[33]⟩:ByteArray).size=1:=rfl;go_wp2_with fail;go_ret;exact⟨by rw[K.out];exact congrArg (λx=>Ending.returned (.string x)) (by rw[I.out];exact Gl J Rd.bang),by rw[K.out];exact P.out,U.out⟩
 ·have N:s.err=0:=by
   have:=V.out;unfold Rd.isS at this;cases he:decide (s.err=0)
   ·rw[he]at this;simp at this
   ·simpa using he
  obtain⟨m,rfl⟩:∃m,n=m+1:=by
   have:=H.out.rest_len;rcases HN.out with h|h
   ·exact absurd N h
   ·exact⟨n-1,by omega⟩
  have W:Hid ((Rd.down Rd.lbrk s).err≠0∨(Rd.down Rd.lbrk s).rest.length≤m):=by
   refine QA ?_;rcases Rd.down_goes V.out.symm with h|h
   ·exact .inl h
   ·rcases HN.out with O|O
    ·exact absurd N O
    ·exact .inr (by omega)
  have T:=QA (Rd.down_deep Rd.lbrk s);clear N;go_wp2_with fail;refine (Cx b g s Rd.lbrk w1 H1.out ⟨by omega,by omega⟩).mono ?_;rintro r w2 ⟨rfl,O,f2⟩;have H2:=QA O;have F2:=QA f2;clear O f2;go_wp2_with fail;refine (Y.out m (by omega) (Rd.down Rd.lbrk s) w2 H2.out W.out (by omega) (by rw[T.out];omega)).mono ?_;rintro r w3 ⟨rfl,h3,f3⟩;have H3:=QA h3;have F3:=QA f3;obtain⟨tv,L⟩:∃x:ByteArray,x=⟨(Rd.type (m+1) (Rd.down Rd.lbrk s)).2.toArray⟩:=⟨_,rfl⟩
  have ai:tv.size≤1000005000:=by
   have:=Rd.type_len 1000000000 (m+1) (Rd.down Rd.lbrk s) (λt ht=>H.out.texts t ((Rd.ok_down _ s).sub t ht));rw[L,Gy];omega
  have X:=QA L;have al:(⟨#[91]⟩:ByteArray).size=1:=rfl;have am:(⟨#[93]⟩:ByteArray).size=1:=rfl;rw[← L];clear h3 f3 L;go_wp2_with fail;refine (Ec b g (Rd.type (m+1) (Rd.down Rd.lbrk s)).1 Rd.rbrk w3 H3.out (by rw[Rd.type_deep,T.out];omega)).mono ?_;rintro r w8 ⟨rfl,h8,f8⟩;obtain⟨G,F⟩:∃x,x=Rd.up Rd.rbrk (Rd.type (m+1) (Rd.down Rd.lbrk s)).1:=⟨_,rfl⟩
  obtain⟨J,E⟩:∃x,x=Rd.lbrk++(Rd.type (m+1) (Rd.down Rd.lbrk s)).2++Rd.rbrk:=⟨_,rfl⟩
  obtain⟨Q,A⟩:∃x:ByteArray,x=⟨#[91]⟩++tv++⟨#[93]⟩:=⟨_,rfl⟩
  rw[← F]at h8;rw[← A];have C:Hid (Rd.typeCore (Rd.type (m+1)) s=(G,J)):=by
   unfold Rd.typeCore;rw[if_pos V.out.symm,F,E];exact QA rfl
  have I:Hid (Q=⟨J.toArray⟩):=by
   rw[A,E,X.out];exact QA (by rw[← Gl,← Gl];rfl)
  have aa:Q.size≤1000010000:=by
   have h1:J.length≤(Rd.type ((m+1)+1) s).2.length:=by
    show _≤(Rd.bangOf (Rd.typeCore (Rd.type (m+1)) s)).2.length;rw[C.out];unfold Rd.bangOf;split
    ·simp
    ·simp
   have O:=Rd.type_len 1000000000 ((m+1)+1) s H.out.texts;rw[I.out,Gy];omega
  have Z:=QA h8;have M:=QA ((((But.of_below R.out).trans F2.out).trans F3.out).trans f8);clear F E A h8 f8;go_wp2_with fail;refine (BO b g G Rd.bang w8 Z.out).mono ?_;rintro r w9 ⟨rfl,h9,f9⟩;obtain⟨B2,D⟩:∃B,B=Rd.isS G Rd.bang:=⟨_,rfl⟩
  have o:=QA D;have S:=QA h9;have U:=QA (But.trans M.out f9);rw[← D];clear D h9 f9;cases B2
  ·have K:Hid (Rd.type ((m+1)+1) s=(G,J)):=by
    show Hid (Rd.bangOf (Rd.typeCore (Rd.type (m+1)) s)=_);rw[C.out];unfold Rd.bangOf;rw[if_neg (by rw[← o.out];simp)];exact QA rfl
   have P:Hid (AL w9 b g G):=by
    have:=S.out;unfold Rd.take at this;rw[if_neg (by rw[← o.out];simp)]at this;exact QA this
   go_wp2_with fail;go_ret;exact⟨by rw[K.out];exact congrArg (λx=>Ending.returned (.string x)) I.out,by rw[K.out];exact P.out,U.out⟩
  ·have K:Hid (Rd.type ((m+1)+1) s=(Rd.next G,J++Rd.bang)):=by
    show Hid (Rd.bangOf (Rd.typeCore (Rd.type (m+1)) s)=_);rw[C.out];unfold Rd.bangOf;rw[if_pos o.out.symm];exact QA rfl
   have P:Hid (AL w9 b g (Rd.next G)):=by
    have:=S.out;unfold Rd.take at this;rw[if_pos o.out.symm]at this;exact QA this
   have ab:(⟨#[33]⟩:ByteArray).size=1:=rfl;go_wp2_with fail;go_ret;exact⟨by rw[K.out];exact congrArg (λx=>Ending.returned (.string x)) (by rw[I.out];exact Gl J Rd.bang),by rw[K.out];exact P.out,U.out⟩
structure QW (w0:World) (bo:Nat) (out:List UInt8) (w:World):Prop where
 bld:IsB bo out w
 bel:Below bo w0 w
 hi:bo=w0.heap.size
theorem QW.le {w0 w:World} {bo:Nat} {out:List UInt8} (h:QW w0 bo out w):bo≤w.heap.size:=by
 have:=h.bel.size;have:=h.hi;omega
theorem QW.start (w:World):QW w w.heap.size [] (w.alloc (.cells #[.pointer none,.slice none 0 0] 65)):=by
 refine⟨.inl ⟨QM _,.slice none 0 0,?_,⟨rfl,.inl ⟨rfl,rfl⟩⟩,by simp[Value.ownBlock]⟩,(Below.refl _ _).alloc (QM _) _,rfl⟩;show (w.heap.push _)[w.heap.size]?=_;simp
theorem QW.byte {w0 w:World} {bo:Nat} {out:List UInt8} (h:QW w0 bo out w) (hl:out.length≤10000000000) (c:UInt8) :
  Calls Tryz.prog 162 #[.pointer (some ⟨bo,0,none⟩),.int .u8 c.toNat] w λe w'=>e=.returned .nilIface∧QW w0 bo (out++[c]) w':=by
 refine (EQ bo bo _ c.toNat w h.bld (by rw[Lib.byteCells_length];omega) h.le).mono ?_;rintro e w' ⟨rfl,h1,h2,_⟩;refine⟨rfl,.inr ?_,h.bel.trans h2,h.hi⟩;rw[Lib.byteCells_append];exact h1
theorem QW.str {w0 w:World} {bo:Nat} {out:List UInt8} (h:QW w0 bo out w) (hl:out.length≤10000000000) (l:List UInt8) (hl2:l.length≤5000) :
  Calls Tryz.prog 88 #[.pointer (some ⟨bo,0,none⟩),.string ⟨l.toArray⟩] w λe w'=>(∃n:Int,e=.returned (.tuple #[.int .i64 n,.nilIface]))∧QW w0 bo (out++l) w':=by
 refine (C8 bo bo _ ⟨l.toArray⟩ w h.bld (by rw[Lib.byteCells_length];show _+l.length≤_;omega) h.le).mono ?_;rintro e w' ⟨rfl,h1,h2,_⟩;refine⟨⟨_,rfl⟩,.inr ?_,h.bel.trans h2,h.hi⟩;rw[Lib.byteCells_append];exact h1
theorem QW.string {w0 w:World} {bo:Nat} {out:List UInt8} (h:QW w0 bo out w) :
  Calls Tryz.prog 33 #[.pointer (some ⟨bo,0,none⟩)] w λe w'=>e=.returned (.string ⟨out.toArray⟩)∧QW w0 bo out w':=by
 refine (Tryz.Builder_String_any_k bo bo out w h.bld h.le).mono ?_;rintro e w' ⟨rfl,h1,h2,_⟩;exact⟨rfl,h1,h.bel.trans h2,h.hi⟩
theorem Pp (c:UInt8) (w:World) :
  Calls Tryz.prog 163 #[.string ⟨#[34,92,8,9,10,12,13]⟩,.int .u8 c.toNat] w λe w'=>e=.returned (.int .i64 (Lib.indexByte Lx.spl c))∧w'=w:=by
 refine (Tryz.strings_IndexByte _ _ _).mono ?_;rintro e w' ⟨rfl,rfl⟩;refine⟨?_,rfl⟩;have o:((c.toNat:Int)).toNat.toUInt8=c:=by simp
 rw[o];rfl
def Gh (c:UInt8):Bool :=
 if (Lx.qs c).toNat=0 then decide (Lib.indexByte Lx.spl c<0) else decide (0≤Lib.indexByte Lx.spl c∧Lib.indexByte Lx.spl c<7∧Lx.asl.getD (Lib.indexByte Lx.spl c).toNat 0=Lx.qs c)
theorem LK:∀n:Fin 256,Gh (UInt8.ofNat n.val)=true:=by decide +kernel
theorem KQ (c:UInt8):((Lx.qs c).toNat=0∧Lib.indexByte Lx.spl c<0)∨((Lx.qs c).toNat≠0∧∃k:Nat,k<7∧Lib.indexByte Lx.spl c=k∧bt ⟨#[34,92,98,116,110,102,114]⟩ k=Lx.qs c):=by
 have h:Gh c=true:=by
  have:=LK ⟨c.toNat,UInt8.toNat_lt c⟩
  simpa using this
 unfold Gh at h;by_cases h0:(Lx.qs c).toNat=0
 ·rw[if_pos h0]at h;exact .inl ⟨h0,of_decide_eq_true h⟩
 ·rw[if_neg h0]at h;obtain⟨B,A,o⟩:=of_decide_eq_true h;exact .inr ⟨h0,(Lib.indexByte Lx.spl c).toNat,by omega,by omega,o⟩
theorem Gq (s:ByteArray) (w:World) (hs:s.size≤1000000000) (hE:Env w) :
  Calls Tryz.prog 90 #[.string s] w λe w'=>Below w.heap.size w w'∧((Lx.valid s.data.toList=true∧e=.returned (.tuple #[.string ⟨(Lx.quote s.data.toList).toArray⟩,.int .i64 0]))∨(Lx.valid s.data.toList=false∧e=.returned (.tuple #[.string ⟨#[]⟩,.int .i64 2]))):=by
 have U:(0:Int)≤(s.size:Int):=Int.natCast_nonneg _;cases hv:Lx.valid s.data.toList
 ·have K:=QA hv;clear hv;go_enter Tryz.func90,Tryz.ntmps90;go_wp2_with (go_at_call 161;refine (Fl _ _ (by omega) hE).mono ?_;rintro e w1 ⟨rfl,hb1⟩;rw[GG,K.out]);refine bodyPost_ret (v:=.tuple #[.string ⟨#[]⟩,.int .i64 2]) (by simp[results,Tryz.results90,go_sem]) rfl ?_;exact⟨hb1,by simp⟩
 ·have K:=QA hv;clear hv;go_enter Tryz.func90,Tryz.ntmps90;go_wp2_with (first|(go_at_call 161;refine (Fl _ _ (by omega) hE).mono ?_;rintro e w1 ⟨rfl,hb1⟩;rw[GG,K.out])|fail);have D:=QW.start w1;refine (D.byte (by simp) 34).mono ?_;rintro e w2 ⟨rfl,B⟩;clear D;have P:=QA B;clear B;go_wp2_with fail
  go_loopg [14] s.size (λk s14 wr=>∃a,a≤s.size∧k=s.size-a∧s14=.int .i64 (a:Nat)∧QW w1 w1.heap.size (34::(s.data.toList.take a).flatMap Lx.qb) wr)
  case atStart=>exact⟨0,Nat.zero_le _,by omega,rfl,P.out⟩
  case round =>
   obtain⟨a,W,N,rfl,B⟩:=hrel;have H:=QA N;have M:(34::(s.data.toList.take a).flatMap Lx.qb).length≤6000000001:=by
    rw[List.length_cons];have:=E6 (s.data.toList.take a);rw[List.length_take]at this;omega
   clear N P;have S:(0:Int)≤(a:Int):=Int.natCast_nonneg _;by_cases hlt:a<s.size
   ·have F:(a:Int)<s.size:=by omega
    have R:=QA (Kh s a hlt Lx.qb)
    generalize hO:34::(s.data.toList.take a).flatMap Lx.qb=O at B M
    have T:=QA hO;clear hO;have J:=QA (Pp (bt s a));have I:Hid (∀O',O'=O++Lx.qb (bt s a)→O'=34::(s.data.toList.take (a+1)).flatMap Lx.qb):=QA (λO' h=>by rw[h,← T.out,R.out];rfl);rcases KQ (bt s a) with⟨h0,hneg⟩|⟨h0,kk,hk7,hkk,hbt⟩
    ·generalize hkk:Lib.indexByte Lx.spl (bt s a)=kk at hneg
     have A:=QA hkk;clear hkk;by_cases hc:(bt s a).toNat<32∨(bt s a).toNat=127
     ·have o:Hid (Lx.qb (bt s a)=[92,117,48,48]++[Lx.hexd ((bt s a).toNat / 16)]++[Lx.hexd ((bt s a).toNat % 16)]):=by unfold Lx.qb;rw[if_neg (by simp[h0]),if_pos hc];exact QA rfl
      have E:=QA (KE ((bt s a).toNat / 16) (by have:=ON s a;omega));have G:=QA (KE ((bt s a).toNat % 16) (by omega));have Q:=ON s a;clear h0;rcases hc with hc|hc
      ·have c1:((bt s a).toNat:Int)<32:=by omega
       go_wp2_with fail;refine (J.out _).mono ?_;rintro e w' ⟨rfl,hw'⟩;obtain rfl:=hw'.symm;rw[A.out];go_wp2_with fail;refine (B.str (by omega) [92,117,48,48] (by simp)).mono ?_;rintro e w3 ⟨⟨n3,rfl⟩,hQ3⟩;go_wp2_with fail;refine (hQ3.byte (by rw[QU];simp;omega) (bt ⟨#[48,49,50,51,52,53,54,55,56,57,97,98,99,100,101,102]⟩ ((bt s a).toNat / 16))).mono ?_;rintro e w4 ⟨rfl,hQ4⟩;rw[E.out]at hQ4;go_wp2_with fail;refine (hQ4.byte (by rw[QU,QU];simp;omega) (bt ⟨#[48,49,50,51,52,53,54,55,56,57,97,98,99,100,101,102]⟩ ((bt s a).toNat % 16))).mono ?_;rintro e w5 ⟨rfl,hQ5⟩;rw[G.out]at hQ5;go_wp2;go_roundg (s.size-(a+1))
       case measure=>rw[H.out];omega
       case rel=>exact⟨a+1,hlt,rfl,by simp,by rw[← I.out _ (by rw[o.out])];rw[ZJ,ZJ]at hQ5;exact hQ5⟩
      ·have c1:(32:Int)≤((bt s a).toNat:Int):=by omega
       have c2:=eqT (n:=(bt s a).toNat) (k:=127) (by omega);clear hc;go_wp2_with fail;refine (J.out _).mono ?_;rintro e w' ⟨rfl,hw'⟩;obtain rfl:=hw'.symm;rw[A.out];go_wp2_with fail;refine (B.str (by omega) [92,117,48,48] (by simp)).mono ?_;rintro e w3 ⟨⟨n3,rfl⟩,hQ3⟩;go_wp2_with fail;refine (hQ3.byte (by rw[QU];simp;omega) (bt ⟨#[48,49,50,51,52,53,54,55,56,57,97,98,99,100,101,102]⟩ ((bt s a).toNat / 16))).mono ?_;rintro e w4 ⟨rfl,hQ4⟩;rw[E.out]at hQ4;go_wp2_with fail;refine (hQ4.byte (by rw[QU,QU];simp;omega) (bt ⟨#[48,49,50,51,52,53,54,55,56,57,97,98,99,100,101,102]⟩ ((bt s a).toNat % 16))).mono ?_;rintro e w5 ⟨rfl,hQ5⟩;rw[G.out]at hQ5;go_wp2;go_roundg (s.size-(a+1))
       case measure=>rw[H.out];omega
       case rel=>exact⟨a+1,hlt,rfl,by simp,by rw[← I.out _ (by rw[o.out])];rw[ZJ,ZJ]at hQ5;exact hQ5⟩
     ·have o:Hid (Lx.qb (bt s a)=[bt s a]):=by unfold Lx.qb;rw[if_neg (by simp[h0]),if_neg hc];exact QA rfl
      have c1:(32:Int)≤((bt s a).toNat:Int):=by omega
      have c2:=eqF (n:=(bt s a).toNat) (k:=127) (by omega);clear h0;go_wp2_with fail;refine (J.out _).mono ?_;rintro e w' ⟨rfl,hw'⟩;obtain rfl:=hw'.symm;rw[A.out];go_wp2_with fail;refine (B.byte (by omega) (bt s a)).mono ?_;rintro e w3 ⟨rfl,hQ3⟩;go_wp2;go_roundg (s.size-(a+1))
      case measure=>rw[H.out];omega
      case rel=>exact⟨a+1,hlt,rfl,by simp,by rw[← I.out _ (by rw[o.out])];exact hQ3⟩
    ·have A:=QA hkk;clear hkk;have o:Hid (Lx.qb (bt s a)=[92]++[Lx.qs (bt s a)]):=by unfold Lx.qb;rw[if_pos h0];exact QA rfl
     have L:=QA hbt;clear hbt h0;go_wp2_with fail;refine (J.out _).mono ?_;rintro e w' ⟨rfl,hw'⟩;obtain rfl:=hw'.symm;rw[A.out];go_wp2_with fail;refine (B.byte (by omega) 92).mono ?_;rintro e w3 ⟨rfl,hQ3⟩;go_wp2_with fail;refine (hQ3.byte (by rw[QU];simp;omega) (bt ⟨#[34,92,98,116,110,102,114]⟩ kk)).mono ?_;rintro e w4 ⟨rfl,hQ4⟩;go_wp2;go_roundg (s.size-(a+1))
     case measure=>rw[H.out];omega
     case rel=>exact⟨a+1,hlt,rfl,by simp,by rw[← I.out _ (by rw[o.out])];rw[L.out,ZJ]at hQ4;exact hQ4⟩
   ·have F:(s.size:Int)≤a:=by omega
    have C:34::(s.data.toList.take a).flatMap Lx.qb++[34]=Lx.quote s.data.toList:=by rw[List.take_of_length_le (by show s.size≤a;omega)];rfl
    have V:=QA C;clear C;go_wp2_with fail;refine (B.byte (by omega) 34).mono ?_;rintro e w3 ⟨rfl,hQ3⟩;rw[V.out]at hQ3;go_wp2_with fail;refine (hQ3.string).mono ?_;rintro e w4 ⟨rfl,hQ4⟩;go_wp2;refine bodyPost_ret (v:=.tuple #[.string ⟨(Lx.quote s.data.toList).toArray⟩,.int .i64 0]) (by simp[results,Tryz.results90,go_sem]) rfl ?_;exact⟨hb1.trans (hQ4.bel.mono (by have:=hb1.size;omega)),.inl ⟨trivial,rfl⟩⟩
end Go.Proofs.YtefjgpkpplkkgaaGreatDoor
