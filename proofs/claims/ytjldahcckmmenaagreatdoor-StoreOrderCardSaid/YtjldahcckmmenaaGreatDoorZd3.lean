/-
  The file system in memory; a step, walked. The file system: open, Sync, SyncDir, walked.
-/
import Derived.Test.YtjldahcckmmenaaGreatDoorZd2
open Go.Lib renaming hid → QA
open List renaming getElem?_eq_getElem → ZG
namespace Go.Proofs.YtjldahcckmmenaaGreatDoor
set_option maxRecDepth 100000
set_option maxHeartbeats 4000000
set_option linter.unusedSimpArgs false
set_option linter.unusedVariables false
open Go Go.RowKit
open Go.Maps
namespace Fs
structure St where
 steps:Int
 left:Int
 plan:List Int
 room:Int
 files:List (List UInt8×Nat)
 dir:Names
 sure:Names
 changes:List Names
def code (how:Int):Int:=if how=0 then 0 else if how=2 then 21 else 20
def step (st:St):St×Int×Int :=
 if st.left=0 then (st,0,22)
 else ({ st with steps:=wrap64 (st.steps+1),left:=if 0<st.left then st.left-1 else st.left,plan:=st.plan.tail },st.plan.headD 0,code (st.plan.headD 0))
end Fs
structure FsV where
 pv:Value
 fv:Value
 cv:Value
 md:Nat
 ms:Nat
 fb:List Nat
 dv:List Value
def AV (l:List UInt8):List Value:=l.map λc=>.int .u8 c.toNat
def A0 (l:Fs.Names):List Value:=l.flatMap λp=>[.string ⟨p.1.toArray⟩,.int .i64 p.2]
def BJ (w:World) (own:Nat→Tag) (v:Value) (l:List Int):Prop :=
 ∃a cap,v=.slice a l.length cap∧l.length≤cap∧∀(i:Nat) z,l[i]?=some z→∃b off,a=some ⟨b,off,none⟩∧own b=.plan∧b<w.heap.size∧w.cell? ⟨b,off+i,none⟩=some (.int .i64 z)
def CV (w:World) (own:Nat→Tag) (v:Value) (l:Fs.Names):Prop :=
 ∃b cap cur,v=.slice (some ⟨b,0,none⟩) l.length cap∧own b=.chgs∧w.heap[b]?=some (.cells cur 168 (0,0))∧cur.toList.take (l.length*2)=A0 l
def ER (w:World) (base:Nat) (own:Nat→Tag) (v:Value) (l:List Fs.Names):Prop :=
 ∃vs,w.ownsRow base 192 1 v l.length vs∧(∀k,v.ownBlock=some k→own k=.chg)∧∀(i:Nat) x y,vs[i]?=some x→l[i]?=some y→CV w own x y
structure CY (w:World) (base:Nat) (own:Nat→Tag) (i:Nat) (f:List UInt8×Nat) (b:Nat) (d:Value):Prop where
 blk:w.heap[b]?=some (.cells #[d,.int .i64 f.2] 119 (0,0))
 tag:own b=.file i
 row:w.ownsRow base 5 1 d f.1.length (AV f.1)
 tagD:∀k,d.ownBlock=some k→own k=.data i
def BE (st:Fs.St) (V:FsV):Array Value:=#[.int .i64 st.steps,.int .i64 st.left,V.pv,.int .i64 st.room,V.fv,.map (some V.md),.map (some V.ms),V.cv]
structure CI (base B:Nat) (st:Fs.St) (V:FsV) (own:Nat→Tag) (w:World):Prop where
 root:w.heap[B]?=some (.cells (BE st V) 63 (0,0))
 tB:own B=.root
 lo:base≤B
 left:-1≤st.left∧st.left≤9223372036854775807
 plan:BJ w own V.pv st.plan
 files:w.ownsRow base 120 1 V.fv st.files.length (V.fb.map λb=>.pointer (some ⟨b,0,none⟩))
 tfiles:∀k,V.fv.ownBlock=some k→own k=.files
 nfb:V.fb.length=st.files.length
 ndv:V.dv.length=st.files.length
 file:∀(i:Nat) f b d,st.files[i]?=some f→V.fb[i]?=some b→V.dv[i]?=some d→CY w base own i f b d
 dir:A5 w V.md st.dir
 tdir:own V.md=.dir
 sure:A5 w V.ms st.sure
 tsure:own V.ms=.sure
 chg:ER w base own V.cv st.changes
 known:∀p∈st.dir,0≤p.2∧p.2<st.files.length
 bl:base≤V.md∧base≤V.ms
section
variable {base B : Nat} {st : Fs.St} {V : FsV} {own own' : Nat → Tag} {w w' : World} {T : Tag → Prop}
theorem BJ.kept {v:Value} {l:List Int} (h:BJ w own v l) (hk:Kept own T w w') (hT:¬T .plan):BJ w' own v l:=by
 obtain⟨a,cap,D,E,C⟩:=h;refine⟨a,cap,D,E,λi z hi=>?_⟩;obtain⟨b,o,e,A,B,F⟩:=C i z hi;exact⟨b,o,e,A,Nat.lt_of_lt_of_le B hk.size,by rw[World.cell?_of_block (hk.block b B (by rw[A];exact hT))];exact F⟩
theorem BJ.tags {v:Value} {l:List Int} (h:BJ w own v l) (ho:∀k,k<w.heap.size→own k≠.other→own' k=own k):BJ w own' v l:=by
 obtain⟨a,cap,D,E,C⟩:=h;refine⟨a,cap,D,E,λi z hi=>?_⟩;obtain⟨b,o,e,A,B,F⟩:=C i z hi;exact⟨b,o,e,(ho b B (by rw[A];simp)).trans A,B,F⟩
theorem CV.kept {v:Value} {l:Fs.Names} (h:CV w own v l) (hk:Kept own T w w') (hT:¬T .chgs):CV w' own v l:=by
 obtain⟨b,cap,cur,B,A,o,C⟩:=h;exact⟨b,cap,cur,B,A,by rw[hk.block b (AC o) (by rw[A];exact hT)];exact o,C⟩
theorem CV.tags {v:Value} {l:Fs.Names} (h:CV w own v l) (ho:∀k,k<w.heap.size→own k≠.other→own' k=own k):CV w own' v l:=by
 obtain⟨b,cap,cur,B,A,o,C⟩:=h;exact⟨b,cap,cur,B,(ho b (AC o) (by rw[A];simp)).trans A,o,C⟩
theorem ER.kept {v:Value} {l:List Fs.Names} (h:ER w base own v l) (hk:Kept own T w w') (hT:¬T .chg) (hT2:¬T .chgs):ER w' base own v l:=by
 obtain⟨C,o,A,B⟩:=h;exact⟨C,AN o (λg hg=>hk.block g (AY o g hg).2 (by rw[A g hg];exact hT)),A,λi x y hx hy=>(B i x y hx hy).kept hk hT2⟩
theorem ER.tags {v:Value} {l:List Fs.Names} (h:ER w base own v l) (ho:∀k,k<w.heap.size→own k≠.other→own' k=own k):ER w base own' v l:=by
 obtain⟨C,o,A,B⟩:=h;exact⟨C,o,λk hk=>(ho k (AY o k hk).2 (by rw[A k hk];simp)).trans (A k hk),λi x y hx hy=>(B i x y hx hy).tags ho⟩
theorem CY.kept {i b:Nat} {f:List UInt8×Nat} {d:Value} (h:CY w base own i f b d) (hk:Kept own T w w') (h1:¬T (.file i)) (h2:¬T (.data i)):CY w' base own i f b d :=
 ⟨by rw[hk.block b (AC h.blk) (by rw[h.tag];exact h1)];exact h.blk,h.tag,AN h.row (λg hg=>hk.block g (AY h.row g hg).2 (by rw[h.tagD g hg];exact h2)),h.tagD⟩
theorem CY.tags {i b:Nat} {f:List UInt8×Nat} {d:Value} (h:CY w base own i f b d) (ho:∀k,k<w.heap.size→own k≠.other→own' k=own k):CY w base own' i f b d :=
 ⟨h.blk,(ho b (AC h.blk) (by rw[h.tag];simp)).trans h.tag,h.row,λk hk=>(ho k (AY h.row k hk).2 (by rw[h.tagD k hk];simp)).trans (h.tagD k hk)⟩
theorem CI.kept (h:CI base B st V own w) (hk:Kept own (·=.other) w w'):CI base B st V own w' where
 root:=by rw[hk.block B (AC h.root) (by rw[h.tB];simp)];exact h.root
 tB:=h.tB
 lo:=h.lo
 left:=h.left
 plan:=h.plan.kept hk (by simp)
 files:=AN h.files (λg hg=>hk.block g (AY h.files g hg).2 (by rw[h.tfiles g hg];simp))
 tfiles:=h.tfiles
 nfb:=h.nfb
 ndv:=h.ndv
 file:=λi f b d h1 h2 h3=>(h.file i f b d h1 h2 h3).kept hk (by simp) (by simp)
 dir:=h.dir.heap (hk.block _ h.dir.lt (by rw[h.tdir];simp))
 tdir:=h.tdir
 sure:=h.sure.heap (hk.block _ h.sure.lt (by rw[h.tsure];simp))
 tsure:=h.tsure
 chg:=h.chg.kept hk (by simp) (by simp)
 known:=h.known
 bl:=h.bl
theorem CI.tags (h:CI base B st V own w) (ho:∀k,k<w.heap.size→own k≠.other→own' k=own k):CI base B st V own' w where
 root:=h.root
 tB:=(ho B (AC h.root) (by rw[h.tB];simp)).trans h.tB
 lo:=h.lo
 left:=h.left
 plan:=h.plan.tags ho
 files:=h.files
 tfiles:=λk hk=>(ho k (AY h.files k hk).2 (by rw[h.tfiles k hk];simp)).trans (h.tfiles k hk)
 nfb:=h.nfb
 ndv:=h.ndv
 file:=λi f b d h1 h2 h3=>(h.file i f b d h1 h2 h3).tags ho
 dir:=h.dir
 tdir:=(ho _ h.dir.lt (by rw[h.tdir];simp)).trans h.tdir
 sure:=h.sure
 tsure:=(ho _ h.sure.lt (by rw[h.tsure];simp)).trans h.tsure
 chg:=h.chg.tags ho
 known:=h.known
 bl:=h.bl
theorem CI.power (h:CI base B st V own w) (hk:Kept own (·=.root) w w') {s l:Int} {p:List Int} {pv:Value} (hl:-1≤l∧l≤9223372036854775807) (hp:BJ w own pv p)
  (hr:w'.heap[B]?=some (.cells (BE { st with steps:=s,left:=l,plan:=p } { V with pv:=pv }) 63 (0,0))) :
  CI base B { st with steps:=s,left:=l,plan:=p } { V with pv:=pv } own w' where
 root:=hr
 tB:=h.tB
 lo:=h.lo
 left:=hl
 plan:=hp.kept hk (by simp)
 files:=AN h.files (λg hg=>hk.block g (AY h.files g hg).2 (by rw[h.tfiles g hg];simp))
 tfiles:=h.tfiles
 nfb:=h.nfb
 ndv:=h.ndv
 file:=λi f b d h1 h2 h3=>(h.file i f b d h1 h2 h3).kept hk (by simp) (by simp)
 dir:=h.dir.heap (hk.block _ h.dir.lt (by rw[h.tdir];simp))
 tdir:=h.tdir
 sure:=h.sure.heap (hk.block _ h.sure.lt (by rw[h.tsure];simp))
 tsure:=h.tsure
 chg:=h.chg.kept hk (by simp) (by simp)
 known:=h.known
 bl:=h.bl
end
theorem AA {w:World} {B:Nat} {cs:Array Value} {t:TypeId} (h:w.heap[B]?=some (.cells cs t (0,0))) (k:Nat) (v:Value) (hk:cs[k]?=some v):w.cell? ⟨B,k,none⟩=some v:=by
 rw[Lib.cell_of_heap h];exact hk
theorem AE {w:World} {B:Nat} {cs:Array Value} {t:TypeId} (h:w.heap[B]?=some (.cells cs t (0,0))) (k:Nat):w.frozen? ⟨B,k,none⟩=false:=Lib.frozen_of_heap h k
def BB (base B:Nat) (st:Fs.St) (V:FsV) (own:Nat→Tag) (w:World) (e:Ending) (w':World):Prop :=
 ∃pv,e=.returned (.tuple #[.int .i64 (Fs.step st).2.1,.int .i64 (Fs.step st).2.2])∧CI base B (Fs.step st).1 { V with pv:=pv } own w'∧Kept own (·=.root) w w'
theorem Km {w:World} {B:Nat} {st:Fs.St} {V:FsV} {t:TypeId} (h:w.heap[B]?=some (.cells (BE st V) t (0,0))) (s l:Int) :
  ((w.setCell ⟨B,1,none⟩ (.int .i64 l)).setCell ⟨B,0,none⟩ (.int .i64 s)).heap[B]?=some (.cells (BE { st with steps:=s,left:=l } V) t (0,0)) :=
 heap_set (heap_set h _) _
theorem E4 {w:World} {B:Nat} {st:Fs.St} {V:FsV} {t:TypeId} (h:w.heap[B]?=some (.cells (BE st V) t (0,0))) (s l:Int) (pv:Value) :
  (((w.setCell ⟨B,1,none⟩ (.int .i64 l)).setCell ⟨B,0,none⟩ (.int .i64 s)).setCell ⟨B,2,none⟩ pv).heap[B]?=some (.cells (BE { st with steps:=s,left:=l } { V with pv:=pv }) t (0,0)) :=
 heap_set (heap_set (heap_set h _) _) _
theorem Gp {own:Nat→Tag} {w:World} {B:Nat} (tB:own B=.root) (s l:Value):Kept own (·=.root) w ((w.setCell ⟨B,1,none⟩ l).setCell ⟨B,0,none⟩ s) :=
 ((Kept.refl _ _ _).setCell ⟨B,1,none⟩ tB _).setCell ⟨B,0,none⟩ tB _
theorem CO {own:Nat→Tag} {w:World} {B:Nat} (tB:own B=.root) (s l pv:Value):Kept own (·=.root) w (((w.setCell ⟨B,1,none⟩ l).setCell ⟨B,0,none⟩ s).setCell ⟨B,2,none⟩ pv) :=
 (Gp tB s l).setCell ⟨B,2,none⟩ tB _
theorem As {w:World} {own:Nat→Tag} {gb go cap:Nat} {z:Int} {r:List Int} (h:BJ w own (.slice (some ⟨gb,go,none⟩) (r.length+1) cap) (z::r)) (hc:r.length+1≤cap) (a:Option Addr)
  (ha:0<r.length→a=some ⟨gb,go+1,none⟩):BJ w own (.slice a r.length (cap-1)) r:=by
 obtain⟨J,B,C,I,D⟩:=h;refine⟨a,cap-1,rfl,by omega,λi x hi=>?_⟩;have o:(z::r)[i+1]?=some x:=by simpa using hi
 obtain⟨b,E,e,G,H,A⟩:=D (i+1) x o;simp only[Value.slice.injEq]at C;rw[← C.1]at e;simp only[Option.some.injEq,Addr.mk.injEq,and_true]at e;obtain⟨rfl,rfl⟩:=e;have F:0<r.length:=by
  have:=(List.getElem?_eq_some_iff.1 hi).1;omega
 exact⟨gb,go+1,ha F,G,H,by rw[show go+1+i=go+(i+1) by omega];exact A⟩
theorem BV (base B:Nat) (st:Fs.St) (V:FsV) (own:Nat→Tag) (w:World) (h:CI base B st V own w) :
  Calls Tryz.prog 97 #[.pointer (some ⟨B,0,none⟩)] w (BB base B st V own w):=by
 have c0:w.cell? ⟨B,0,none⟩=some (.int .i64 st.steps):=AA h.root 0 _ rfl;have c1:w.cell? ⟨B,1,none⟩=some (.int .i64 st.left):=AA h.root 1 _ rfl;have L:w.cell? ⟨B,2,none⟩=some V.pv:=AA h.root 2 _ rfl;have f0:=AE h.root 0;have f1:=AE h.root 1;have f2:=AE h.root 2;obtain⟨aa,Y⟩:=h.left;obtain⟨pa,S,O,o,I⟩:=h.plan;rw[O]at L;have Q:=QA O;have H:=QA h;clear h O;go_enter Tryz.func97,Tryz.ntmps97;by_cases h0:st.left=0
 ·have J:Hid (Fs.step st=(st,0,22)):=by unfold Fs.step;rw[if_pos h0];exact QA rfl
  go_wp2;refine bodyPost_ret (v:=.tuple #[.int .i64 0,.int .i64 22]) (by simp[results,Tryz.results97,go_sem]) rfl ?_;unfold BB;rw[J.out];exact⟨V.pv,rfl,H.out,Kept.refl _ _ _⟩
 ·have ad:wrap64 (st.left-1)=st.left-1:=by unfold wrap64;omega
  by_cases h1:0<st.left
  ·have Z:-1≤st.left-1:=by omega
   have A:-1≤st.left-1∧st.left-1≤9223372036854775807:=by omega
   have J:Hid (Fs.step st=({ st with steps:=wrap64 (st.steps+1),left:=st.left-1,plan:=st.plan.tail },st.plan.headD 0,Fs.code (st.plan.headD 0))):=by
    unfold Fs.step;rw[if_neg h0,if_pos h1];exact QA rfl
   cases hp:st.plan with
   | nil =>
    have F:=QA hp;rw[hp]at L;simp only[List.length_nil]at L;clear hp I o;go_wp2;refine bodyPost_ret (v:=.tuple #[.int .i64 0,.int .i64 0]) (by simp[results,Tryz.results97,go_sem]) rfl ?_;unfold BB;rw[J.out,F.out];exact⟨V.pv,rfl,H.out.power (Gp H.out.tB _ _) A (by have:=H.out.plan;rw[F.out]at this;exact this) (Km H.out.root _ _),Gp H.out.tB _ _⟩
   | cons z r =>
    have F:=QA hp;rw[hp]at L o;simp only[List.length_cons]at L o;obtain⟨G,N,rfl,D,M,E⟩:=I 0 z (by rw[hp];rfl);have K:G≠B:=λe=>by rw[e,H.out.tB]at D;cases D
    have W:∀x y,((w.setCell ⟨B,1,none⟩ x).setCell ⟨B,0,none⟩ y).cell? ⟨G,N,none⟩=some (.int .i64 z):=λx y=>by
     have X:((w.setCell ⟨B,1,none⟩ x).setCell ⟨B,0,none⟩ y).heap[G]?=w.heap[G]?:=by rw[Below.heap_setCell _ _ _ _ K,Below.heap_setCell _ _ _ _ K]
     have T:w.cell? ⟨G,N,none⟩=some (.int .i64 z):=E;rw[← T];exact World.cell?_of_block X
    have R:(1:Int)≤(S:Int):=by omega
    have C:=QA (show BJ w own (.slice (some ⟨G,N,none⟩) (r.length+1) S) (z::r) by have:=H.out.plan;rw[Q.out,F.out]at this;exact this);clear hp I E M D;by_cases z0:z=0
    ·subst z0;go_wp2
     all_goals (refine bodyPost_ret (v:=.tuple #[.int .i64 0,.int .i64 0]) (by simp[results,Tryz.results97,go_sem]) rfl ?_;unfold BB;rw[J.out,F.out];exact⟨_,rfl,H.out.power (CO H.out.tB _ _ _) A (by first|exact As C.out o _ (λ_=>rfl)|(subst_vars;exact As C.out o _ (λh=>by omega))) (E4 H.out.root _ _ _),CO H.out.tB _ _ _⟩)
    ·by_cases z2:z=2
     ·subst z2;clear z0;go_wp2
      all_goals (refine bodyPost_ret (v:=.tuple #[.int .i64 2,.int .i64 21]) (by simp[results,Tryz.results97,go_sem]) rfl ?_;unfold BB;rw[J.out,F.out];exact⟨_,rfl,H.out.power (CO H.out.tB _ _ _) A (by first|exact As C.out o _ (λ_=>rfl)|(subst_vars;exact As C.out o _ (λh=>by omega))) (E4 H.out.root _ _ _),CO H.out.tB _ _ _⟩)
     ·have q0:(z==0)=false:=by rw[beq_eq_false_iff_ne];exact z0
      have q2:(z==2)=false:=by rw[beq_eq_false_iff_ne];exact z2
      have U:Hid (Fs.code z=20):=by unfold Fs.code;rw[if_neg z0,if_neg z2];exact QA rfl
      clear z0 z2;go_wp2
      all_goals
       refine bodyPost_ret (v:=.tuple #[.int .i64 z,.int .i64 20]) (by simp[results,Tryz.results97,go_sem]) rfl ?_;unfold BB;rw[J.out,F.out,show ((z::r).headD 0)=z from rfl,U.out];exact⟨_,rfl,H.out.power (CO H.out.tB _ _ _) A (by first|exact As C.out o _ (λ_=>rfl)|(subst_vars;exact As C.out o _ (λh=>by omega))) (E4 H.out.root _ _ _),CO H.out.tB _ _ _⟩
  ·have Z:st.left-1 < -1:=by omega
   have A:-1≤(-1:Int)∧(-1:Int)≤9223372036854775807:=by omega
   have P:st.left=-1:=by omega
   have J:Hid (Fs.step st=({ st with steps:=wrap64 (st.steps+1),left:=-1,plan:=st.plan.tail },st.plan.headD 0,Fs.code (st.plan.headD 0))):=by
    unfold Fs.step;rw[if_neg h0,if_neg h1,P];exact QA rfl
   clear P;cases hp:st.plan with
   | nil =>
    have F:=QA hp;rw[hp]at L;simp only[List.length_nil]at L;clear hp I o;go_wp2;refine bodyPost_ret (v:=.tuple #[.int .i64 0,.int .i64 0]) (by simp[results,Tryz.results97,go_sem]) rfl ?_;unfold BB;rw[J.out,F.out];exact⟨V.pv,rfl,H.out.power (Gp H.out.tB _ _) A (by have:=H.out.plan;rw[F.out]at this;exact this) (Km H.out.root _ _),Gp H.out.tB _ _⟩
   | cons z r =>
    have F:=QA hp;rw[hp]at L o;simp only[List.length_cons]at L o;obtain⟨G,N,rfl,D,M,E⟩:=I 0 z (by rw[hp];rfl);have K:G≠B:=λe=>by rw[e,H.out.tB]at D;cases D
    have W:∀x y,((w.setCell ⟨B,1,none⟩ x).setCell ⟨B,0,none⟩ y).cell? ⟨G,N,none⟩=some (.int .i64 z):=λx y=>by
     have X:((w.setCell ⟨B,1,none⟩ x).setCell ⟨B,0,none⟩ y).heap[G]?=w.heap[G]?:=by rw[Below.heap_setCell _ _ _ _ K,Below.heap_setCell _ _ _ _ K]
     have T:w.cell? ⟨G,N,none⟩=some (.int .i64 z):=E;rw[← T];exact World.cell?_of_block X
    have R:(1:Int)≤(S:Int):=by omega
    have C:=QA (show BJ w own (.slice (some ⟨G,N,none⟩) (r.length+1) S) (z::r) by have:=H.out.plan;rw[Q.out,F.out]at this;exact this);clear hp I E M D;by_cases z0:z=0
    ·subst z0;go_wp2
     all_goals (refine bodyPost_ret (v:=.tuple #[.int .i64 0,.int .i64 0]) (by simp[results,Tryz.results97,go_sem]) rfl ?_;unfold BB;rw[J.out,F.out];exact⟨_,rfl,H.out.power (CO H.out.tB _ _ _) A (by first|exact As C.out o _ (λ_=>rfl)|(subst_vars;exact As C.out o _ (λh=>by omega))) (E4 H.out.root _ _ _),CO H.out.tB _ _ _⟩)
    ·by_cases z2:z=2
     ·subst z2;clear z0;go_wp2
      all_goals (refine bodyPost_ret (v:=.tuple #[.int .i64 2,.int .i64 21]) (by simp[results,Tryz.results97,go_sem]) rfl ?_;unfold BB;rw[J.out,F.out];exact⟨_,rfl,H.out.power (CO H.out.tB _ _ _) A (by first|exact As C.out o _ (λ_=>rfl)|(subst_vars;exact As C.out o _ (λh=>by omega))) (E4 H.out.root _ _ _),CO H.out.tB _ _ _⟩)
     ·have q0:(z==0)=false:=by rw[beq_eq_false_iff_ne];exact z0
      have q2:(z==2)=false:=by rw[beq_eq_false_iff_ne];exact z2
      have U:Hid (Fs.code z=20):=by unfold Fs.code;rw[if_neg z0,if_neg z2];exact QA rfl
      clear z0 z2;go_wp2
      all_goals
       refine bodyPost_ret (v:=.tuple #[.int .i64 z,.int .i64 20]) (by simp[results,Tryz.results97,go_sem]) rfl ?_;unfold BB;rw[J.out,F.out,show ((z::r).headD 0)=z from rfl,U.out];exact⟨_,rfl,H.out.power (CO H.out.tB _ _ _) A (by first|exact As C.out o _ (λ_=>rfl)|(subst_vars;exact As C.out o _ (λh=>by omega))) (E4 H.out.root _ _ _),CO H.out.tB _ _ _⟩
open Go.Maps Go.WideMaps
namespace Fs
def openE (st:St) (n:List UInt8):Int:=if good n=false then 7 else if mhas st.dir n=false then 3 else 0
def idx (st:St) (n:List UInt8):Nat:=(mget st.dir n).toNat
theorem mget_mem {l:Names} {k:List UInt8} (h:mhas l k=true):∃p∈l,p.1=k∧p.2=mget l k:=by
 unfold mhas at h;rw[List.any_eq_true]at h;obtain⟨q,B,o⟩:=h;unfold mget;cases hf:l.find? (λp=>p.1==k) with
 | none =>
  rw[List.find?_eq_none]at hf;exact absurd o (hf q B)
 | some p =>
  have A:=List.find?_some hf;exact⟨p,List.mem_of_find?_eq_some hf,by simpa using A,rfl⟩
end Fs
theorem Fx {w:World} {g:Nat} {s:ByteArray} (hg:g<w.heap.size) (h:w.cell? ⟨g,0,none⟩=some (.string s)):DG w (.slice (some ⟨g,0,none⟩) 1 1) [s] :=
 ⟨some ⟨g,0,none⟩,1,rfl,λi x hi=>by
  match i,hi with
  | 0,hi =>
   simp at hi;subst hi;exact⟨g,0,rfl,hg,h⟩
  | i+1,hi=>simp at hi⟩
theorem addr_add (g k:Nat):(⟨g,0,none⟩:Addr).add k=⟨g,k,none⟩:=by
 by_cases h:k=0
 ·subst h;simp[Addr.add]
 ·simp[Addr.add,h]
theorem Bz {w:World} {b k:Nat} {v:Value} (h:w.cell? ⟨b,k,none⟩=some v):b<w.heap.size:=by
 rcases Nat.lt_or_ge b w.heap.size with h'|h'
 ·exact h'
 ·simp[World.cell?,Array.getElem?_eq_none h']at h
theorem Ak (w:World) (cs:Array Value) (t:TypeId) (k:Nat) (v:Value) (h:cs[k]?=some v):(w.alloc (.cells cs t)).cell? ⟨w.heap.size,k,none⟩=some v:=by
 have o:(w.alloc (.cells cs t)).heap[w.heap.size]?=some (.cells cs t (0,0)):=by
  show (w.heap.push _)[w.heap.size]?=_;simp
 rw[Lib.cell_of_heap o];exact h
def C1 (st:Fs.St) (V:FsV) (s:ByteArray) (w:World) (e:Ending) (w':World):Prop :=
 Below w.heap.size w w' ∧
 (
  (Fs.openE st s.data.toList=0∧∃f b d,st.files[Fs.idx st s.data.toList]?=some f∧V.fb[Fs.idx st s.data.toList]?=some b∧V.dv[Fs.idx st s.data.toList]?=some d∧e=.returned (.tuple #[.pointer (some ⟨b,0,none⟩),.int .i64 0])) ∨
  (Fs.openE st s.data.toList≠0∧e=.returned (.tuple #[.pointer none,.int .i64 (Fs.openE st s.data.toList)])))
theorem E7 (fb:List Nat) (i b:Nat) (h:fb[i]?=some b):(fb.map λb=>(Value.pointer (some ⟨b,0,none⟩):Value))[i]?=some (.pointer (some ⟨b,0,none⟩)):=by
 rw[List.getElem?_map,h];rfl
theorem C3 (base B:Nat) (st:Fs.St) (V:FsV) (own:Nat→Tag) (s:ByteArray) (w:World) (h:CI base B st V own w) (hs:s.size≤1000000) :
  Calls Tryz.prog 59 #[.pointer (some ⟨B,0,none⟩),.string s] w (C1 st V s w):=by
 have T:w.cell? ⟨B,4,none⟩=some V.fv:=AA h.root 4 _ rfl;have U:w.cell? ⟨B,5,none⟩=some (.map (some V.md)):=AA h.root 5 _ rfl;have o:Below w.heap.size w (w.alloc (.cells #[.string s] 9)):=(Below.refl _ _).alloc (Nat.le_refl _) _;have ad:(w.alloc (.cells #[.string s] 9)).cell? ⟨B,5,none⟩=some (.map (some V.md)):=by rw[o.cell (Bz U)];exact U
 have F:=QA (DW _ [s] (w.alloc (.cells #[.string s] 9)) (Fx (by simp) (Ak w _ _ 0 _ rfl)) (by simp) (by intro x hx;simp at hx;subst hx;omega));have R:BZ [s]=Fs.good s.data.toList:=by simp[BZ]
 rw[R]at F;have C:=keyOf_string_mk Tryz.underlying9 (s:=s) (show s.size≤maxLen by unfold maxLen;omega);have HD:=QA h.dir;have N:=QA (h.dir.heap (o.block _ h.dir.lt));have H:=QA h;clear h;go_enter Tryz.func59,Tryz.ntmps59;cases hgd:Fs.good s.data.toList
 ·have K:Hid (Fs.openE st s.data.toList=7):=by unfold Fs.openE;rw[if_pos hgd];exact QA rfl
  rw[hgd]at F;go_wp2_with fail;refine F.out.mono ?_;rintro e w2 ⟨rfl,hw2⟩;obtain rfl:=hw2.symm;go_wp2;refine bodyPost_ret (v:=.tuple #[.pointer none,.int .i64 7]) (by simp[results,Tryz.results59,go_sem]) rfl ?_;unfold C1;rw[K.out];exact⟨o,.inr ⟨by decide,rfl⟩⟩
 ·rw[hgd]at F;cases hhas:Fs.mhas st.dir s.data.toList
  ·have K:Hid (Fs.openE st s.data.toList=3):=by unfold Fs.openE;rw[if_neg (by rw[hgd];simp),if_pos hhas];exact QA rfl
   have P:Hid (Maps.has (Fs.datum st.dir) (.string s.data.toList)=false):=by rw[Fs.datum_has];exact QA hhas
   clear hgd hhas;go_wp2_with fail;refine F.out.mono ?_;rintro e w2 ⟨rfl,hw2⟩;obtain rfl:=hw2.symm;go_wp2_with (first|(at_lookup;refine wpList_lookup_own_ok_int _ rfl _ _ 60 rfl 9 3 .i64 Ar Tryz.underlying60 Tryz.underlying3 (BN _) V.md _ _ rfl N.out _ _ rfl C ?_;intro c hat hwc;rw[P.out])|fail);refine bodyPost_ret (v:=.tuple #[.pointer none,.int .i64 3]) (by simp[results,Tryz.results59,go_sem]) rfl ?_;unfold C1;rw[K.out];exact⟨o,.inr ⟨by decide,rfl⟩⟩
  ·have K:Hid (Fs.openE st s.data.toList=0):=by unfold Fs.openE;rw[if_neg (by rw[hgd];simp),if_neg (by rw[hhas];simp)];exact QA rfl
   have P:Hid (Maps.has (Fs.datum st.dir) (.string s.data.toList)=true):=by rw[Fs.datum_has];exact QA hhas
   obtain⟨p,X,S,J⟩:=Fs.mget_mem hhas;obtain⟨O,L⟩:=H.out.known p X;rw[J]at O L;have D:((Fs.idx st s.data.toList:Nat):Int)=Fs.mget st.dir s.data.toList:=by unfold Fs.idx;omega
   have E:Fs.idx st s.data.toList<st.files.length:=by omega
   obtain⟨f,Y⟩:∃f,st.files[Fs.idx st s.data.toList]?=some f:=⟨_,ZG E⟩
   obtain⟨b,W⟩:∃b,V.fb[Fs.idx st s.data.toList]?=some b:=⟨_,ZG (by rw[H.out.nfb];exact E)⟩
   obtain⟨d,hd⟩:∃d,V.dv[Fs.idx st s.data.toList]?=some d:=⟨_,ZG (by rw[H.out.ndv];exact E)⟩
   have I:=QA (Fs.datum_get st.dir s.data.toList);have HI:=QA D
   generalize hix:Fs.idx st s.data.toList=i at *
   have Q:=QA hix;clear hix;obtain⟨g,cap,M,A⟩:∃g cap,V.fv=.slice (some ⟨g,0,none⟩) st.files.length cap∧w.cell? ⟨g,i,none⟩=some (.pointer (some ⟨b,0,none⟩)):=by
    rcases H.out.files.2 with⟨h1,h2⟩|⟨g,cap,cur,h1,_⟩
    ·omega
    ·exact⟨g,cap,h1,by rw[← addr_add];exact World.ownsRow.cells H.out.files (by rw[h1];rfl) _ _ (E7 _ _ _ W)⟩
   rw[M]at T;have Z:(w.alloc (.cells #[.string s] 9)).cell? ⟨B,4,none⟩=some (.slice (some ⟨g,0,none⟩) st.files.length cap):=by rw[o.cell (Bz T)];exact T
   have G:=A;have aa:(w.alloc (.cells #[.string s] 9)).cell? ⟨g,i,none⟩=some (.pointer (some ⟨b,0,none⟩)):=by rw[o.cell (Bz A)];exact A
   have ab:(0:Int)≤(i:Int):=Int.natCast_nonneg _;have ae:(i:Int)<(st.files.length:Int):=by omega
   clear hgd hhas X S J O L D M A G;go_wp2_with fail;refine F.out.mono ?_;rintro e w2 ⟨rfl,hw2⟩;obtain rfl:=hw2.symm;go_wp2_with (first|(at_lookup;refine wpList_lookup_own_ok_int _ rfl _ _ 60 rfl 9 3 .i64 Ar Tryz.underlying60 Tryz.underlying3 (BN _) V.md _ _ rfl N.out _ _ rfl C ?_;intro c hat hwc;rw[P.out];obtain rfl:c=(i:Int):=(by have:=hat.symm.trans I.out;simp only[DataW.lit.injEq,Lit.int.injEq,true_and]at this;rw[this,HI.out]);clear hat hwc)|fail);refine bodyPost_ret (v:=.tuple #[.pointer (some ⟨b,0,none⟩),.int .i64 0]) (by simp[results,Tryz.results59,go_sem]) rfl ?_;unfold C1;rw[Q.out];exact⟨o,.inl ⟨K.out,f,b,d,Y,W,hd,rfl⟩⟩
end Go.Proofs.YtjldahcckmmenaaGreatDoor
