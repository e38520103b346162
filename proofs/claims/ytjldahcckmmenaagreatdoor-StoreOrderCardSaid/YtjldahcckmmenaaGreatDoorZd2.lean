/-
  Base words of our own: bytes of a string, endings, the frame of a call that writes one old block alone. The store (plain): changes, entries by rising keys, their bytes and how they are read. A region that draws its order, whose operations read what was there, and whose calls only lay new blocks: walked once, in the text's order. (The kit's Deep.Quiet at the class of the later worlds.) A region that draws its order: a first phase, of operations below n, all of which the later ones wait for. What only reads may be taken first, if all of that phase keeps what it reads. (The kit's OrdersHeld, with the condition asked of the first phase alone.) The file system: plain words; a name's test, walked. The file system in memory: its words (tags of blocks, what is kept), its maps.
-/
import Derived.Test.YtjldahcckmmenaaGreatDoorProg
import Derived.WalkKit
import Derived.WalkLawsBesides
import Derived.WalkSpells
import Derived.BigQuiet
import Derived.Deep.QuietTactic
import Derived.StillTailTactics
import Derived.Lib.Hide
import Derived.Test.YtjldahcckmmenaaGreatDoorZd1
import Derived.OrdersHeld
import Derived.OwnWalk
import Derived.Outline
import Derived.Deep.LoopGhost
import Derived.Maps.OwnSet
import Derived.Maps.AppendAt
open Go.Lib renaming hid → QA
open List renaming mem_cons_self → QP, mem_cons_of_mem → QT, drop_eq_getElem_cons → ZB, getElem?_eq_getElem → ZG, map_cons → ZP, mem_cons → ZX
open Nat renaming le_refl → QM, le_trans → QQ, lt_of_lt_of_le → ZT, lt_or_ge → ZU
namespace Go.Proofs.YtjldahcckmmenaaGreatDoor
set_option maxRecDepth 100000
set_option maxHeartbeats 4000000
set_option linter.unusedSimpArgs false
set_option linter.unusedVariables false
open Go Go.RowKit
def bt (s:ByteArray) (n:Nat):UInt8:=s.data.toList.getD n 0
def sfx (s:ByteArray) (n:Nat):List UInt8:=s.data.toList.drop n
theorem Gt (s:ByteArray) (n:Nat) (h:n<s.size):s[n]'h=bt s n:=by
 have o:n<s.data.toList.length:=by simpa using h
 show s.data[n]'h=_;unfold bt;rw[List.getD_eq_getElem?_getD,ZG o];simp
theorem KS (s:ByteArray) (n:Nat):(sfx s n).length=s.size-n:=by unfold sfx;simp
theorem KQ (s:ByteArray):sfx s 0=s.data.toList:=by simp[sfx]
theorem KI (s:ByteArray) (n:Nat) (h:s.size≤n):sfx s n=[]:=by
 have:=KS s n;exact List.eq_nil_of_length_eq_zero (by omega)
theorem JG (s:ByteArray) (n:Nat) (h:n<s.size):sfx s n=bt s n::sfx s (n+1):=by
 unfold sfx bt;have o:n<s.data.toList.length:=by simpa using h
 rw[ZB o,List.getD_eq_getElem?_getD,ZG o];simp
@[go_sem high] theorem J5 {P : Program} (w : World) (t : TypeId) (s : ByteArray) (k : IntKind) (i : Int) (h : P.underlying t = some .string) :
  (Instr.index t (.string s) (.int k i)).run P w=if 0≤i∧i<s.size then .ok (.int .u8 (bt s i.toNat).toNat) w else (boundsPanic k i s.size .index).run P w:=by
 rw[run_index_string w t s k i h]
 by_cases hi:0≤i∧i<s.size
 ·rw[dif_pos hi,if_pos hi,Gt]
 ·rw[dif_neg hi,if_neg hi]
structure But (X:Nat→Prop) (w w':World):Prop where
 os:w'.os=w.os
 tape:w'.tape=w.tape
 output:w'.output=w.output
 size:w.heap.size≤w'.heap.size
 block:∀k,k<w.heap.size→¬X k→w'.heap[k]?=w.heap[k]?
theorem But.refl (X:Nat→Prop) (w:World):But X w w:=⟨rfl,rfl,rfl,QM _,λ_ _ _=>rfl⟩
theorem But.trans {X:Nat→Prop} {a b c:World} (h:But X a b) (k:But X b c):But X a c :=
 ⟨k.os.trans h.os,k.tape.trans h.tape,k.output.trans h.output,QQ h.size k.size,
  λi hi hx=>(k.block i (ZT hi h.size) hx).trans (h.block i hi hx)⟩
theorem But.mono {X Y:Nat→Prop} {w w':World} (h:But X w w') (hxy:∀k,k<w.heap.size→X k→Y k):But Y w w' :=
 ⟨h.os,h.tape,h.output,h.size,λk hk hy=>h.block k hk (λhx=>hy (hxy k hk hx))⟩
theorem But.drewN {X:Nat→Prop} {a w:World} (h:But X a w) (n:Nat):But X a (w.drewN n) :=
 h.trans ⟨rfl,rfl,rfl,QM _,λ_ _ _=>rfl⟩
theorem But.drew {X:Nat→Prop} {a w:World} (h:But X a w):But X a w.drew :=
 h.trans ⟨rfl,rfl,rfl,QM _,λ_ _ _=>rfl⟩
theorem But.alloc {X:Nat→Prop} {a w:World} (h:But X a w) (o:Obj):But X a (w.alloc o) :=
 h.trans ⟨rfl,rfl,rfl,by simp,λk hk _=>Below.heap_alloc _ _ _ hk⟩
theorem But.setCell {X:Nat→Prop} {a w:World} (h:But X a w) {p:Addr} (hp:X p.block∨a.heap.size≤p.block) (u:Value):But X a (w.setCell p u) :=
 ⟨h.os,h.tape,h.output,by have:=h.size;simpa [World.setCell] using this,
  λk hk hx=>by rw[Below.heap_setCell _ _ _ _ (λe=>by subst e;rcases hp with hp|hp;exact hx hp;omega)];exact h.block k hk hx⟩
theorem But.of_below {X:Nat→Prop} {w w':World} (h:Below w.heap.size w w'):But X w w' :=
 ⟨h.os,h.tape,h.output,h.size,λk hk _=>h.block k hk⟩
theorem But.below {w w':World} (h:But (λ_=>False) w w'):Below w.heap.size w w' :=
 ⟨h.os,h.tape,h.output,h.size,λk hk=>h.block k hk (λhf=>hf)⟩
theorem But.cell {X:Nat→Prop} {w w':World} (h:But X w w') {p:Addr} (hp:p.block<w.heap.size) (hx:¬X p.block):w'.cell? p=w.cell? p :=
 World.cell?_of_block (w:=w) (h.block p.block hp hx)
theorem But.frozen {X:Nat→Prop} {w w':World} (h:But X w w') {p:Addr} (hp:p.block<w.heap.size) (hx:¬X p.block):w'.frozen? p=w.frozen? p :=
 World.frozen?_of_block (w:=w) (h.block p.block hp hx)
theorem Below.drewN {B:Nat} {a w:World} (h:Below B a w) (n:Nat):Below B a (w.drewN n):=h.trans ⟨rfl,rfl,rfl,QM _,λ_ _=>rfl⟩
theorem neT {n:Nat} {k:Int} (h:(n:Int)≠k):((n:Int) != k)=true:=by simp[h]
namespace Sto
abbrev Op:=List UInt8×Int×List UInt8
abbrev Ents:=List Op
def CQ (x:Op):Ents→Ents
 | []=>[x]
 | y::r=>if x.1<y.1 then x::y::r else y::CQ x r
def Cw (l:Ents) (k:List UInt8):Ents:=l.filter λe=>!(e.1==k)
def chg (l:Ents) (o:Op):Ents:=if o.2.1=0 then Cw l o.1 else CQ o (Cw l o.1)
def chgs (l:Ents) (ops:List Op):Ents:=ops.foldl chg l
def live (l:Ents):Nat:=(l.map λe=>44+e.2.2.length).sum
def badK (o:Op):Bool:=decide (o.2.1<0∨9<o.2.1)||(decide (o.2.1=0)&&decide (0<o.2.2.length))
def mass (ops:List Op):Nat:=(ops.map λo=>35+o.2.2.length).sum
def chk (ops:List Op):Int:=if 64<ops.length then 8 else if ops.any badK then 1 else if 8192<mass ops then 5 else 0
def bytes (o:Op):List UInt8:=o.1++[UInt8.ofNat o.2.1.toNat,UInt8.ofNat (o.2.2.length % 256),UInt8.ofNat (o.2.2.length / 256 % 256)]++o.2.2
def flat (ops:List Op):List UInt8:=ops.flatMap bytes
structure Ok (o:Op):Prop where
 key:o.1.length=32
 kind:0≤o.2.1∧o.2.1≤9
 val:o.2.2.length≤8192
theorem bytes_len {o:Op} (h:o.1.length=32):(bytes o).length=35+o.2.2.length:=by
 unfold bytes;simp[h];omega
theorem flat_len:∀(ops:List Op),(∀o∈ops,o.1.length=32)→(flat ops).length=mass ops
 | [],_=>rfl
 | o::r,h=>by
  have A:=flat_len r λx hx=>h x (QT _ hx)
  unfold flat mass at *;rw[List.flatMap_cons,List.length_append,bytes_len (h o QP),A,ZP,List.sum_cons]
theorem mass_len (ops:List Op):35*ops.length≤mass ops:=by
 unfold mass
 induction ops with
 | nil=>simp
 | cons o r ih=>rw[ZP,List.sum_cons,List.length_cons];omega
theorem le_sum:∀{l:List Nat} {x:Nat},x∈l→x≤l.sum
 | y::r,x,h=>by
  rw[List.sum_cons];rcases ZX.1 h with rfl|h
  ·omega
  ·have:=le_sum h;omega
def Srt (l:Ents):Prop:=l.Pairwise λa b=>a.1<b.1
theorem lt_asymm {a b:List UInt8} (h:a<b) (h':b<a):False:=List.lt_irrefl _ (List.lt_trans h h')
theorem Fo {x y:Op}:∀{l:Ents},y∈CQ x l↔y=x∨y∈l
 | []=>by simp[CQ]
 | z::r=>by
  unfold CQ;split
  ·simp
  ·rw[ZX,Fo,ZX];constructor
   ·rintro (h|h|h)
    ·exact .inr (.inl h)
    ·exact .inl h
    ·exact .inr (.inr h)
   ·rintro (h|h|h)
    ·exact .inr (.inl h)
    ·exact .inl h
    ·exact .inr (.inr h)
theorem Dr {k:List UInt8} {y:Op} {l:Ents}:y∈Cw l k↔y∈l∧y.1≠k:=by
 unfold Cw;rw[List.mem_filter];simp
theorem Hy {l:Ents} (h:Srt l) (k:List UInt8):Srt (Cw l k):=List.Pairwise.filter _ h
theorem JI {a b:List UInt8} (h:a≠b):a<b∨b<a:=by
 by_cases h1:a<b
 ·exact .inl h1
 ·right
  rcases List.le_total a b with h2|h2
  ·exact absurd (List.le_antisymm h2 h1) h
  ·refine Classical.byContradiction λh3=>h (List.le_antisymm h3 h1)
theorem Hj {x:Op}:∀{l:Ents},Srt l→(∀y∈l,y.1≠x.1)→Srt (CQ x l)
 | [],_,_=>List.pairwise_singleton _ _
 | y::r,h,hn=>by
  have o:=List.pairwise_cons.1 h;unfold CQ;by_cases hlt:x.1<y.1
  ·rw[if_pos hlt];refine List.pairwise_cons.2 ⟨λz hz=>?_,h⟩;rcases ZX.1 hz with rfl|hz
   ·exact hlt
   ·exact List.lt_trans hlt (o.1 z hz)
  ·rw[if_neg hlt];refine List.pairwise_cons.2 ⟨λz hz=>?_,Hj o.2 (λz hz=>hn z (QT _ hz))⟩;rcases Fo.1 hz with rfl|hz
   ·exact (JI (hn y QP)).resolve_right hlt
   ·exact o.1 z hz
theorem J4 {l:Ents} (h:Srt l) (o:Op):Srt (chg l o):=by
 unfold chg;split
 ·exact Hy h _
 ·exact Hj (Hy h _) (λy hy=>(Dr.1 hy).2)
theorem srt_chgs:∀(ops:List Op) {l:Ents},Srt l→Srt (chgs l ops)
 | [],_,h=>h
 | o::r,_,h=>srt_chgs r (J4 h o)
theorem chgs_app (l:Ents) (a b:List Op):chgs l (a++b)=chgs (chgs l a) b:=List.foldl_append ..
def get (l:Ents) (k:List UInt8):Option (Int×List UInt8):=(l.find? λe=>e.1==k).map (·.2)
theorem H9 (l:Ents) (k n:List UInt8):get (Cw l k) n=if n=k then none else get l n:=by
 unfold get Cw
 induction l with
 | nil=>simp
 | cons y r ih =>
  by_cases hk:y.1=k
  ·rw[List.filter_cons_of_neg (by simp[hk])];by_cases h:n=k
   ·rw[if_pos h]at ih ⊢;exact ih
   ·rw[if_neg h]at ih ⊢;rw[List.find?_cons_of_neg (by simp[hk];exact λe=>h e.symm)];exact ih
  ·rw[List.filter_cons_of_pos (by simp[hk])];by_cases h:y.1=n
   ·rw[List.find?_cons_of_pos (by simpa using h),List.find?_cons_of_pos (by simpa using h),if_neg (λe=>hk (h.trans e))]
   ·rw[List.find?_cons_of_neg (by simpa using h),List.find?_cons_of_neg (by simpa using h)];exact ih
theorem Hs (x:Op) (n:List UInt8):∀l:Ents,(∀y∈l,y.1≠x.1)→get (CQ x l) n=if n=x.1 then some x.2 else get l n
 | [],_=>by
  unfold CQ get;by_cases h:n=x.1
  ·rw[if_pos h,List.find?_cons_of_pos (by simpa using h.symm)];rfl
  ·rw[if_neg h,List.find?_cons_of_neg (by simpa using λe=>h e.symm)]
 | y::r,hn=>by
  have A:=Hs x n r λz hz=>hn z (QT _ hz)
  unfold CQ;split
  ·by_cases h:n=x.1
   ·rw[if_pos h];unfold get;rw[List.find?_cons_of_pos (by simpa using h.symm)];rfl
   ·rw[if_neg h];unfold get;rw[List.find?_cons_of_neg (by simpa using λe=>h e.symm)]
  ·by_cases h:y.1=n
   ·have o:n≠x.1:=λe=>hn y QP (h.trans e)
    rw[if_neg o];unfold get;rw[List.find?_cons_of_pos (by simpa using h),List.find?_cons_of_pos (by simpa using h)]
   ·unfold get at A ⊢;rw[List.find?_cons_of_neg (by simpa using h),List.find?_cons_of_neg (by simpa using h)];exact A
theorem KP (l:Ents) (o:Op) (n:List UInt8):get (chg l o) n=if n=o.1 then (if o.2.1=0 then none else some o.2) else get l n:=by
 unfold chg;by_cases h0:o.2.1=0
 ·rw[if_pos h0,if_pos h0,H9]
 ·rw[if_neg h0,if_neg h0,Hs _ _ _ (λy hy=>(Dr.1 hy).2),H9];by_cases h:n=o.1
  ·rw[if_pos h,if_pos h]
  ·rw[if_neg h,if_neg h,if_neg h]
end Sto
def Later (w:World):Type:={ w':World // Below w.heap.size w w' }
instance Later.nonempty (w : World) : Nonempty (Later w) := ⟨⟨w, Below.refl _ _⟩⟩
theorem Later.cell {w:World} {p:Addr} {v:Value} (h:w.cell? p=some v) (x:Later w):x.1.cell? p=some v:=by
 have o:p.block<w.heap.size:=by
  unfold World.cell? at h;rcases ZU p.block w.heap.size with h'|h'
  ·exact h'
  ·simp[Array.getElem?_eq_none h']at h
 rw[x.2.cell o];exact h
theorem Later.call {P:Program} {f:FuncId} {args:Array Value} {w:World} {x:Later w} {v:Value}
  (h:Calls P f args x.1 λe w'=>e=.returned v∧Below x.1.heap.size x.1 w'):Calls P f args x.1 λe w''=>e=.returned v∧∃y:Later w,w''=y.1 :=
 h.mono λ_ _ ⟨he,hb⟩=>⟨he,⟨_,x.2.trans (hb.mono x.2.size)⟩,rfl⟩
theorem Dp {P:Program} {id:Nat} {Q:Exit→Act→World→Prop} {a:Act} {w:World} {l:List Oper} (hm:P.follows .mixedOrders=true) (hB:Region.lexB .any l.toArray=true)
  (h:wpQuiet P l.toArray (λw'=>∃x:Later w,w'=x.1) (λa'=>∀w',(∃x:Later w,w'=x.1)→Q .normal a' w') l a):(Code.region id l.toArray true).wp P Q a w :=
 wp_region_quiet (C:=λw'=>∃x:Later w,w'=x.1) hm hB ⟨⟨{ w with drawn:=w.drawn+1 },⟨rfl,rfl,rfl,QM _,λ_ _=>rfl⟩⟩,rfl⟩ (by simpa using h)
section
variable {P : Program} {ops : Array Oper} {Q : Exit → Act → World → Prop} {md : Region.Mode} {S : World → Prop} {n : Nat}
def FV (md:Region.Mode) (ops:Array Oper) (n:Nat):Bool :=
 (List.range ops.size).all λt=>decide (t<n)||(List.range n).all λi=>Region.waitsFor md ops t i
theorem Dn {listed:Array Bool} (hp:FV md ops n=true) {i t:Nat} (hi:i<n) (hun:listed.getD i true=false) (ht:t∈Region.ready md ops listed):t<n:=by
 rcases ZU t n with h|h
 ·exact h
 ·obtain⟨_,G,B,A⟩:=mem_ready.1 ht;have C:t<ops.size:=(Array.getElem?_eq_some_iff.1 B).1;have o:=List.all_eq_true.1 hp t (List.mem_range.2 C);simp only[Bool.or_eq_true,decide_eq_true_eq]at o;rcases o with o|o
  ·exact o
  ·have I:=List.all_eq_true.1 o i (List.mem_range.2 hi);obtain⟨H,D,e,K,J,E⟩:=Region.waitsFor_spec I;have:H=G:=Option.some.inj (D.symm.trans B);subst this;have F:=A e K J;rw[E,getD_both hun]at F;cases F
def Af (P:Program) (md:Region.Mode) (ops:Array Oper) (Q:Exit→Act→World→Prop) (S:World→Prop) (n:Nat):Nat→Array Bool→Act→World→Prop
 | 0,listed,a,w=>Region.ready md ops listed=[]∧Q .normal a w
 | fuel+1,listed,a,w =>
  (Region.ready md ops listed=[]→Q .normal a w) ∧
  ∀i∈Region.ready md ops listed,wpOp P ops Q i (λa' w'=>(i<n→S w')∧Af P md ops Q S n fuel (listed.setIfInBounds i true) a' w') a w
theorem EI:∀(fuel:Nat) (listed:Array Bool) (a:Act) (w:World),Af P md ops Q S n fuel listed a w→wpAny P md ops Q fuel listed a w
 | 0,_,_,_,h=>h
 | fuel+1,_,_,_,h=>⟨h.1,λi hi=>wpOp_mono (λa' w' h'=>EI fuel _ a' w' h'.2) (h.2 i hi)⟩
theorem Fl {i:Nat} {oi:Oper} {v:Value} (hp:FV md ops n=true) (hin:i<n) (hi:ops[i]?=some oi) (hsel:∀(j:Nat) (o:Oper) cs b,ops[j]?=some o→o.op≠.select cs b)
  (hQ:∀c a w,Q (.panic c) (a.put oi.dst v) w→Q (.panic c) a w) :
  ∀(fuel:Nat) (listed:Array Bool) (a:Act) (w:World),
   (∀j oj,ops[j]?=some oj→j≠i→listed.getD j true=false→(∀e∈oj.after,Region.binds md e=true→e.on≠i)→oi.apart ops oj=true) →
   i∈Region.ready md ops listed→YieldsIf P ops S oi v a→S w →
   Af P md ops Q S n fuel (listed.setIfInBounds i true) (a.put oi.dst v) w→Af P md ops Q S n (fuel+1) listed a w:=by
 intro fuel
 induction fuel with
 | zero =>
  intro listed a w _ hr hy hS H;refine⟨λh=>(by rw[h]at hr;cases hr),λj hj=>?_⟩;by_cases hji:j=i
  ·subst hji;exact hy.wpOp hi hS ⟨λ_=>hS,H⟩
  ·have:=ready_mono hj hji;rw[H.1]at this;cases this
 | succ fuel ih =>
  intro listed a w hfree hr hy hS H;refine⟨λh=>(by rw[h]at hr;cases hr),λj hj=>?_⟩;by_cases hji:j=i
  ·subst hji;exact hy.wpOp hi hS ⟨λ_=>hS,H⟩
  ·have G:j<n:=Dn hp hin (mem_ready.1 hr).1 hj;have C:=H.2 j (ready_mono hj hji);obtain⟨B,oj,D,E⟩:=mem_ready.1 hj;have F:∀e∈oj.after,Region.binds md e=true→e.on≠i:=λe he hb heq=>by
    have C:=E e he hb;have I:=(mem_ready.1 hr).1;rw[heq]at C;rcases ZU i listed.size with h'|h'
    ·simp[h']at I C;rw[I]at C;cases C
    ·simp[Array.getElem?_eq_none h']at C
   have J:=wpOp_putIf D (hfree j oj D hji B F) (λcs b=>hsel i oi cs b hi) (λcs b=>hsel j oj cs b D) hQ hy C;have A:∀k ok,ops[k]?=some ok→k≠i→(listed.setIfInBounds j true).getD k true=false →
     (∀e∈ok.after,Region.binds md e=true→e.on≠i)→oi.apart ops ok=true:=λk ok hk hki hun hno=>by
    refine hfree k ok hk hki ?_ hno;by_cases hjk:j=k
    ·subst hjk;exact B
    ·rw[getD_set_ne true hjk]at hun;exact hun
   refine wpOp_mono (λa' w' h3=>⟨h3.2.1,ih (listed.setIfInBounds j true) a' w' A (ready_mono hr (Ne.symm hji)) h3.1 (h3.2.1 G) ?_⟩) J;rw[Array.setIfInBounds_comm _ _ hji];exact h3.2.2
theorem GK {i:Nat} {oi:Oper} {v:Value} {fuel:Nat} {listed:Array Bool} {a:Act} {w:World} (hp:FV md ops n=true) (hin:i<n) (hi:ops[i]?=some oi)
  (hs:Region.noSelect ops=true) (hf:Region.free md ops listed i=true) (hr:(Region.ready md ops listed).contains i=true)
  (hQ:∀c a w,Q (.panic c) (a.put oi.dst v) w→Q (.panic c) a w) (hy:YieldsIf P ops S oi v a) (hS:S w)
  (h:Af P md ops Q S n fuel (listed.setIfInBounds i true) (a.put oi.dst v) w):Af P md ops Q S n (fuel+1) listed a w :=
 Fl hp hin hi (Region.noSelect_spec hs) hQ fuel listed a w (Region.free_spec hi hf) (by simpa using hr) hy hS h
theorem TK {i : Nat} {oi : Oper} {v : Value} {fuel : Nat} {listed : Array Bool} {a : Act} {w : World} (hi : ops[i]? = some oi) (hy : YieldsIf P ops S oi v a) (hS : S w) (h : Af P md ops Q S n fuel (listed.setIfInBounds i true) (a.put oi.dst v) w) (hp : FV md ops n = true := by kernel_rfl) (hin : i < n := by decide) (hs : Region.noSelect ops = true := by kernel_rfl) (hf : Region.free md ops listed i = true := by kernel_rfl) (hr : (Region.ready md ops listed).contains i = true := by kernel_rfl) (hQ : ∀ c a w, Q (.panic c) (a.put oi.dst v) w → Q (.panic c) a w := by exact fun _ _ _ h => h) : Af P md ops Q S n (fuel + 1) listed a w := GK hp hin hi hs hf hr hQ hy hS h
theorem Gy {i:Nat} {fuel:Nat} {listed:Array Bool} {a:Act} {w:World} (hr:Region.ready md ops listed=[i])
  (h:wpOp P ops Q i (λa' w'=>(i<n→S w')∧Af P md ops Q S n fuel (listed.setIfInBounds i true) a' w') a w):Af P md ops Q S n (fuel+1) listed a w :=
 ⟨λh0=>(by rw[hr]at h0;cases h0),λj hj=>by
  rw[hr]at hj;obtain rfl:j=i:=(by simpa using hj)
  exact h⟩
theorem TO {i : Nat} {fuel : Nat} {listed : Array Bool} {a : Act} {w : World} (h : wpOp P ops Q i (fun a' w' => (i < n → S w') ∧ Af P md ops Q S n fuel (listed.setIfInBounds i true) a' w') a w) (hr : Region.ready md ops listed = [i] := by kernel_rfl) : Af P md ops Q S n (fuel + 1) listed a w := Gy hr h
theorem Bg {i k:Nat} {fuel:Nat} {listed:Array Bool} {a:Act} {w:World} (hr:Region.ready md ops listed=[i,k])
  (h:wpOp P ops Q i (λa' w'=>(i<n→S w')∧Af P md ops Q S n fuel (listed.setIfInBounds i true) a' w') a w)
  (h':wpOp P ops Q k (λa' w'=>(k<n→S w')∧Af P md ops Q S n fuel (listed.setIfInBounds k true) a' w') a w):Af P md ops Q S n (fuel+1) listed a w :=
 ⟨λh0=>(by rw[hr]at h0;cases h0),λj hj=>by
  rw[hr]at hj;have:j=i∨j=k:=by simpa using hj
  rcases this with rfl|rfl
  ·exact h
  ·exact h'⟩
theorem AO {listed:Array Bool} {a:Act} {w:World} (hr:Region.ready md ops listed=[]) (h:Q .normal a w) :
  ∀fuel,Af P md ops Q S n fuel listed a w
 | 0=>⟨hr,h⟩
 | _+1=>⟨λ_=>h,by rw[hr];simp⟩
theorem AM (S:World→Prop) (n:Nat) {id:Nat} {a:Act} {w:World} (hm:P.follows .mixedOrders=true)
  (h:Af P .any ops Q S n ops.size (Array.replicate ops.size false) a { w with drawn:=w.drawn+1 }):(Code.region id ops true).wp P Q a w :=
 wp_region_any hm (EI _ _ _ _ h)
theorem AD {l:List Oper} {i:Nat} {K:Act→World→Prop} {a:Act} {w:World} (hn:i<l.length)
  (h:∀K':Act→World→Prop,Hid (∀a w,K a w→K' a w)→wpList P l.toArray (Exit.then K' Q) ((l.drop i).take 1) a w):wpOp P l.toArray Q i K a w:=by
 have o:=h K (QA λ_ _ h=>h);have B:l.toArray[i]?=some l[i]:=by simp[hn]
 have A:(l.drop i).take 1=[l[i]]:=by rw[ZB hn,List.take_succ_cons,List.take_zero]
 rw[A]at o;unfold wpOp;simp only[B];unfold wpList at o;split
 ·rename_i hwant;rw[if_pos hwant]at o;refine o.imp (λhs=>?_) (λhs=>⟨hs.1,?_⟩)
  ·have E:=Oper.wp_mono (Q:=Exit.then K Q) (K':=K) (λa w h=>h) hs;unfold Oper.wp at *
   generalize (execOp a.eval l[i]).run P w=r at *
   cases r with
   | ok nx w2 =>
    cases nx with
    | enter f args =>
     exact Calls.mono E λe w3 h3=>by cases e<;>first|exact h3|(obtain⟨a4,D,C⟩:=h3;exact⟨a4,D,C⟩)
    | _=>exact E
   | halt x w2=>cases x<;>exact E
  ·obtain⟨a4,D,C⟩:=hs.2;exact⟨a4,D,C⟩
 ·rename_i hwant;rw[if_neg hwant]at o;exact o
end
def DG (w:World) (v:Value) (ls:List ByteArray):Prop :=
 ∃a cap,v=.slice a ls.length cap∧∀(i:Nat) s,ls[i]?=some s→∃b off,a=some ⟨b,off,none⟩∧b<w.heap.size∧w.cell? ⟨b,off+i,none⟩=some (.string s)
theorem DG.form {w:World} {v:Value} {ls:List ByteArray} (h:DG w v ls):∃a cap,v=.slice a ls.length cap:=by
 obtain⟨a,cap,o,A⟩:=h;exact⟨a,cap,o⟩
theorem DG.at {w:World} {a:Option Addr} {n cap:Nat} {ls:List ByteArray} (h:DG w (.slice a n cap) ls) {i:Nat} {s:ByteArray} (hi:ls[i]?=some s) :
  ∃b off,a=some ⟨b,off,none⟩∧w.cell? ⟨b,off+i,none⟩=some (.string s):=by
 obtain⟨E,o,A,B⟩:=h;obtain⟨b,off,e,D,C⟩:=B i s hi;simp only[Value.slice.injEq]at A;exact⟨b,off,by rw[A.1,e],C⟩
namespace Fs
def goodB (c:UInt8):Bool:=(decide (97≤c.toNat)&&decide (c.toNat≤122))||(decide (48≤c.toNat)&&decide (c.toNat≤57))||decide (c.toNat=46)||decide (c.toNat=45)
def good (l:List UInt8):Bool:=decide (1≤l.length)&&decide (l.length≤20)&&l.all goodB
end Fs
theorem KF (s:ByteArray) (p:UInt8→Bool) (a:Nat) (h:a<s.size):(sfx s a).all p=(p (bt s a)&&(sfx s (a+1)).all p):=by
 rw[JG s a h,List.all_cons]
theorem IG (s:ByteArray):Fs.good s.data.toList=(decide (1≤s.size)&&decide (s.size≤20)&&(sfx s 0).all Fs.goodB):=by
 unfold Fs.good;rw[KQ];rfl
theorem IP (ls:List ByteArray) (p:ByteArray→Bool) (j:Nat) (s:ByteArray) (h:ls[j]?=some s):(ls.drop j).all p=(p s&&(ls.drop (j+1)).all p):=by
 obtain⟨o,rfl⟩:=List.getElem?_eq_some_iff.1 h;rw[ZB o,List.all_cons]
def BZ (ls:List ByteArray):Bool:=ls.all λs=>Fs.good s.data.toList
theorem DW (v:Value) (ls:List ByteArray) (w:World) (hV:DG w v ls) (hl:ls.length≤1000000) (hs:∀s∈ls,s.size≤9223372036854775807) :
  Calls Tryz.prog 84 #[v] w λe w'=>e=.returned (.bool (BZ ls))∧w'=w:=by
 obtain⟨va,vc,rfl⟩:=hV.form;go_enter Tryz.func84,Tryz.ntmps84;go_wp2
 go_loopg [9] ls.length (λk s9 wr=>∃j:Nat,j≤ls.length∧k=ls.length-j∧s9=.int .i64 (j:Nat)∧(ls.drop j).all (λs=>Fs.good s.data.toList)=BZ ls∧wr=w)
 case atStart=>exact⟨0,Nat.zero_le _,rfl,rfl,rfl,rfl⟩
 case round =>
  obtain⟨j,hj,M,rfl,I,rfl⟩:=hrel;have W:=QA M;have A:=QA I;clear M I;have ab:(0:Int)≤(j:Int):=Int.natCast_nonneg _;by_cases hjn:j<ls.length
  ·have O:(j:Int)<(ls.length:Int):=by omega
   obtain⟨s,F⟩:∃s,ls[j]?=some s:=⟨_,ZG hjn⟩
   have X:=hs s (List.mem_of_getElem? F);obtain⟨g,o,rfl,R⟩:=hV.at F;have D:=QA (IP ls (λs=>Fs.good s.data.toList) j s F);have Q:=QA (IG s);clear F;have aa:(0:Int)≤(s.size:Int):=Int.natCast_nonneg _;by_cases hlen:s.size<1∨20<s.size
   ·have U:Hid (BZ ls=false):=by
     rw[← A.out,D.out];have:Fs.good s.data.toList=false:=by
      rw[Q.out];rcases hlen with h|h
      ·rw[decide_eq_false (by omega)];rfl
      ·rw[decide_eq_false (p:=s.size≤20) (by omega)];simp
     refine QA ?_;show (Fs.good s.data.toList&&_)=false;rw[this,Bool.false_and]
    rcases hlen with h|h
    ·have S:(s.size:Int)<1:=by omega
     go_wp2;go_ret;exact⟨congrArg (λb=>Ending.returned (.bool b)) U.out.symm,rfl⟩
    ·have S:(1:Int)≤(s.size:Int):=by omega
     have Y:(20:Int)<(s.size:Int):=by omega
     go_wp2;go_ret;exact⟨congrArg (λb=>Ending.returned (.bool b)) U.out.symm,rfl⟩
   ·have S:(1:Int)≤(s.size:Int):=by omega
    have Y:(s.size:Int)≤20:=by omega
    have E:Hid (Fs.good s.data.toList=(sfx s 0).all Fs.goodB):=by
     rw[Q.out,decide_eq_true (by omega),decide_eq_true (by omega)];exact QA rfl
    clear hlen Q;go_wp2
    go_loopg [23] s.size (λk s23 wq=>∃a:Nat,a≤s.size∧k=s.size-a∧s23=.int .i64 (a:Nat)∧(sfx s a).all Fs.goodB=(sfx s 0).all Fs.goodB∧wq=wr)
    case atStart=>exact⟨0,Nat.zero_le _,rfl,rfl,rfl,rfl⟩
    case round =>
     obtain⟨a,ha,M,rfl,N,rfl⟩:=hrel;have H:=QA M;have C:=QA N;clear M N;have Z:(0:Int)≤(a:Int):=Int.natCast_nonneg _;by_cases hlt:a<s.size
     ·have L:(a:Int)<(s.size:Int):=by omega
      have J:=QA (KF s Fs.goodB a hlt);have T:Hid (Fs.goodB (bt s a)=true↔(97≤(bt s a).toNat∧(bt s a).toNat≤122)∨(48≤(bt s a).toNat∧(bt s a).toNat≤57)∨(bt s a).toNat=46∨(bt s a).toNat=45):=by
       refine QA ?_;unfold Fs.goodB;simp only[Bool.or_eq_true,Bool.and_eq_true,decide_eq_true_eq];omega
      have G:((97≤(bt s a).toNat∧(bt s a).toNat≤122)∨(48≤(bt s a).toNat∧(bt s a).toNat≤57)∨(bt s a).toNat=46∨(bt s a).toNat=45)∨(((bt s a).toNat<48∧(bt s a).toNat≠46∧(bt s a).toNat≠45)∨(57<(bt s a).toNat∧(bt s a).toNat<97)∨122<(bt s a).toNat):=by omega
      rcases G with hgd|hbd
      ·have B:Hid (Fs.goodB (bt s a)=true):=QA (T.out.2 hgd);rcases hgd with⟨g1,g2⟩|⟨g1,g2⟩|g1|g1
       ·have K:(97:Int)≤((bt s a).toNat:Int):=by omega
        have P:((bt s a).toNat:Int)≤122:=by omega
        go_wp2;go_roundg (s.size-(a+1))
        case measure=>rw[H.out];omega
        case rel=>exact⟨a+1,hlt,rfl,by simp,by rw[← C.out,J.out,B.out,Bool.true_and],rfl⟩
       ·have K:(48:Int)≤((bt s a).toNat:Int):=by omega
        have P:((bt s a).toNat:Int)≤57:=by omega
        go_wp2;go_roundg (s.size-(a+1))
        case measure=>rw[H.out];omega
        case rel=>exact⟨a+1,hlt,rfl,by simp,by rw[← C.out,J.out,B.out,Bool.true_and],rfl⟩
       ·have K:((bt s a).toNat:Int)=46:=by omega
        clear g1;go_wp2;go_roundg (s.size-(a+1))
        case measure=>rw[H.out];omega
        case rel=>exact⟨a+1,hlt,rfl,by simp,by rw[← C.out,J.out,B.out,Bool.true_and],rfl⟩
       ·have K:((bt s a).toNat:Int)=45:=by omega
        clear g1;go_wp2;go_roundg (s.size-(a+1))
        case measure=>rw[H.out];omega
        case rel=>exact⟨a+1,hlt,rfl,by simp,by rw[← C.out,J.out,B.out,Bool.true_and],rfl⟩
      ·have B:Hid (Fs.goodB (bt s a)=false):=by
        refine QA ?_;cases hh:Fs.goodB (bt s a)
        ·rfl
        ·have:=T.out.1 hh;omega
       rcases hbd with⟨g1,g2,g3⟩|⟨g1,g2⟩|g1
       ·have K:((bt s a).toNat:Int)<48:=by omega
        have P:=neT (n:=(bt s a).toNat) (k:=46) (by omega);have V:=neT (n:=(bt s a).toNat) (k:=45) (by omega);clear g2 g3;go_wp2;go_ret;refine⟨congrArg (λb=>Ending.returned (.bool b)) ?_,rfl⟩;rw[← A.out,D.out,E.out,← C.out,J.out,B.out];rfl
       ·have K:((bt s a).toNat:Int)<97:=by omega
        have q4:(57:Int)<((bt s a).toNat:Int):=by omega
        have P:=neT (n:=(bt s a).toNat) (k:=46) (by omega);have V:=neT (n:=(bt s a).toNat) (k:=45) (by omega);go_wp2;go_ret;refine⟨congrArg (λb=>Ending.returned (.bool b)) ?_,rfl⟩;rw[← A.out,D.out,E.out,← C.out,J.out,B.out];rfl
       ·have K:(122:Int)<((bt s a).toNat:Int):=by omega
        have P:=neT (n:=(bt s a).toNat) (k:=46) (by omega);have V:=neT (n:=(bt s a).toNat) (k:=45) (by omega);go_wp2;go_ret;refine⟨congrArg (λb=>Ending.returned (.bool b)) ?_,rfl⟩;rw[← A.out,D.out,E.out,← C.out,J.out,B.out];rfl
     ·have L:(s.size:Int)≤(a:Int):=by omega
      go_wp2;go_roundg (ls.length-(j+1))
      case measure=>rw[W.out];omega
      case rel =>
       refine⟨j+1,hjn,rfl,by simp,?_,rfl⟩;rw[← A.out,D.out,E.out,← C.out,KI s a (by omega)];rfl
  ·have O:(ls.length:Int)≤(j:Int):=by omega
   go_wp2;go_ret;refine⟨congrArg (λb=>Ending.returned (.bool b)) ?_,rfl⟩;rw[← A.out,List.drop_of_length_le (by omega)];rfl
open Go.Maps
/-! ### A map from names to numbers -/
namespace Fs
abbrev Names:=List (List UInt8×Int)
def mins (x:List UInt8×Int):Names→Names
 | []=>[x]
 | y::r=>if (Lit.string x.1).before (.string y.1) then x::y::r else y::mins x r
def mdel (l:Names) (k:List UInt8):Names:=l.filter λp=>!(p.1==k)
def mput (l:Names) (k:List UInt8) (v:Int):Names:=mins (k,v) (mdel l k)
def mhas (l:Names) (k:List UInt8):Bool:=l.any λp=>p.1==k
def mget (l:Names) (k:List UInt8):Int:=match l.find? (λp=>p.1==k) with|some p=>p.2|none=>0
def ent (p:List UInt8×Int):Lit×DataW Unit:=(.string p.1,.lit (.int .i64 p.2))
def datum (l:Names):DataW Unit:=.map (l.map ent)
theorem C2 (x:List UInt8×Int):∀l:Names,DataW.insert (ent x) (l.map ent)=(mins x l).map ent
 | []=>rfl
 | y::r=>by
  rw[ZP];unfold DataW.insert mins;by_cases h:(Lit.string x.1).before (.string y.1)=true
  ·rw[if_pos h,if_pos (by exact h)];rfl
  ·rw[if_neg h,if_neg (by exact h),ZP,C2 x r]
theorem Be (k:List UInt8):∀l:Names,(l.map ent).filter (λp=>!p.1.sameKey (.string k))=(mdel l k).map ent:=by
 intro l;unfold mdel;rw[List.filter_map];rfl
theorem datum_del (l:Names) (k:List UInt8):(datum l).del (.string k)=datum (mdel l k):=by
 unfold datum DataW.del;simp only[Be]
theorem datum_put (l:Names) (k:List UInt8) (v:Int):(datum l).put (.string k) (.lit (.int .i64 v))=datum (mput l k v):=by
 unfold datum DataW.put mput;simp only[Be];rw[show ((Lit.string k,DataW.lit (Lit.int .i64 v)):Lit×DataW Unit)=ent (k,v) from rfl,C2]
theorem datum_has (l:Names) (k:List UInt8):Maps.has (datum l) (.string k)=mhas l k:=by
 unfold datum mhas;rw[Maps.has_eq,List.any_map];rfl
theorem datum_get (l:Names) (k:List UInt8):(datum l).atKey (.string k) (.lit (.int .i64 0))=.lit (.int .i64 (mget l k)):=by
 unfold datum DataW.atKey mget;simp only[List.find?_map];have:((λp:Lit×DataW Unit=>p.1.sameKey (.string k))∘ent)=λp=>p.1==k:=rfl
 rw[this];cases l.find? (λp=>p.1==k)<;>rfl
theorem datum_size (l:Names):Maps.size (datum l)=l.length:=by
 unfold datum;rw[Maps.size_eq,List.length_map]
end Fs
theorem Ar:Keyed Tryz.prog 9:=string_keyed Tryz.underlying9
theorem BN (w:World):(zeroValue 3).run Tryz.prog w=.ok (.int .i64 0) w:=by kernel_rfl
def A5 (w:World) (b:Nat) (l:Fs.Names):Prop:=w.ownsMap Tryz.prog 9 (plainElem Tryz.prog 3) b l.length (Fs.datum l)
theorem A5.of {w:World} {b n:Nat} {l:Fs.Names} (h:w.ownsMap Tryz.prog 9 (plainElem Tryz.prog 3) b n (Fs.datum l)):A5 w b l:=by
 obtain⟨C,o,D,F,E,B⟩:=h;refine⟨C,o,D,F,?_,B⟩;have A:=congrArg Maps.size B;rw[Fs.datum_size]at A;rw[A];simp[Maps.size,length_sorted]
theorem A5.heap {w w':World} {b:Nat} {l:Fs.Names} (h:A5 w b l) (he:w'.heap[b]?=w.heap[b]?):A5 w' b l:=by
 obtain⟨A,o,B,r⟩:=h;exact⟨A,o,by rw[he];exact B,r⟩
theorem A5.lt {w:World} {b:Nat} {l:Fs.Names} (h:A5 w b l):b<w.heap.size:=World.ownsMap.lt h
theorem A5.nodup {w:World} {b:Nat} {l:Fs.Names} (h:A5 w b l):l.Pairwise (λp q=>p.1≠q.1):=by
 obtain⟨B,o,A⟩:=World.ownsMap.tidy h Ar;unfold Fs.datum at o;simp only[DataW.map.injEq]at o;subst o;rw[List.pairwise_map]at A;exact A.imp (λ{a b} h e=>h (by simp[Fs.ent,e]))
/-! ### Tags -/
inductive Tag where
 | root|plan|files|file (i:Nat)|data (i:Nat)|dir|sure|chg|chgs|other
deriving DecidableEq
structure Kept (own:Nat→Tag) (T:Tag→Prop) (w w':World):Prop where
 os:w'.os=w.os
 tape:w'.tape=w.tape
 output:w'.output=w.output
 size:w.heap.size≤w'.heap.size
 block:∀k,k<w.heap.size→¬T (own k)→w'.heap[k]?=w.heap[k]?
theorem Kept.refl (own:Nat→Tag) (T:Tag→Prop) (w:World):Kept own T w w:=⟨rfl,rfl,rfl,QM _,λ_ _ _=>rfl⟩
theorem Kept.trans {own:Nat→Tag} {T:Tag→Prop} {a b c:World} (h:Kept own T a b) (k:Kept own T b c):Kept own T a c :=
 ⟨k.os.trans h.os,k.tape.trans h.tape,k.output.trans h.output,QQ h.size k.size,λi hi ht=>(k.block i (ZT hi h.size) ht).trans (h.block i hi ht)⟩
theorem Kept.mono {own:Nat→Tag} {T U:Tag→Prop} {w w':World} (h:Kept own T w w') (hTU:∀t,T t→U t):Kept own U w w':=⟨h.os,h.tape,h.output,h.size,λk hk hu=>h.block k hk (λht=>hu (hTU _ ht))⟩
theorem Kept.setCell {own:Nat→Tag} {T:Tag→Prop} {a w:World} (h:Kept own T a w) (p:Addr) (hp:T (own p.block)) (v:Value):Kept own T a (w.setCell p v) :=
 ⟨h.os,h.tape,h.output,by simp[World.setCell];exact h.size,λk hk ht=>by
  rw[Below.heap_setCell _ _ _ _ (λe=>ht (by rw[e];exact hp))];exact h.block k hk ht⟩
theorem Kept.alloc {own:Nat→Tag} {T:Tag→Prop} {a w:World} (h:Kept own T a w) (o:Obj):Kept own T a (w.alloc o) :=
 ⟨h.os,h.tape,h.output,by have:=h.size;simp;omega,λk hk ht=>by rw[Lib.alloc_old w o k (ZT hk h.size)];exact h.block k hk ht⟩
theorem Kept.grown {own:Nat→Tag} {T:Tag→Prop} {a w w':World} {r:Option Nat} (h:Kept own T a w) (hg:w.grownBy w' r) (hr:∀k,r=some k→T (own k)∨a.heap.size≤k):Kept own T a w' :=
 ⟨hg.os.trans h.os,hg.tape.trans h.tape,hg.output.trans h.output,QQ h.size hg.size,λk hk ht=>by
  rw[hg.block k (ZT hk h.size) (λe=>by rcases hr k e.symm with x|x<;>first|exact ht x|omega)];exact h.block k hk ht⟩
theorem Kept.below {own:Nat→Tag} {T:Tag→Prop} {a w w':World} (h:Kept own T a w) (hb:Below w.heap.size w w'):Kept own T a w' :=
 ⟨hb.os.trans h.os,hb.tape.trans h.tape,hb.output.trans h.output,QQ h.size hb.size,λk hk ht=>(hb.block k (ZT hk h.size)).trans (h.block k hk ht)⟩
theorem Kept.drewN {own:Nat→Tag} {T:Tag→Prop} {a w:World} (h:Kept own T a w) (n:Nat):Kept own T a (w.drewN n):=⟨h.os,h.tape,h.output,h.size,h.block⟩
theorem Kept.tags {own own':Nat→Tag} {T:Tag→Prop} {w w':World} (h:Kept own T w w') (ho:∀k,k<w.heap.size→own' k=own k):Kept own' T w w' :=
 ⟨h.os,h.tape,h.output,h.size,λk hk ht=>h.block k hk (by rw[← ho k hk];exact ht)⟩
theorem Kept.tagsO {own own':Nat→Tag} {T:Tag→Prop} {w w':World} (h:Kept own T w w') (ho:∀k,k<w.heap.size→own k≠.other→own' k=own k) (hT:¬T .other):Kept own' T w w' :=
 ⟨h.os,h.tape,h.output,h.size,λk hk ht=>by
  by_cases hx:own k=.other
  ·exact h.block k hk (by rw[hx];exact hT)
  ·exact h.block k hk (by rw[← ho k hk hx];exact ht)⟩
theorem AC {w:World} {k:Nat} {o:Obj} (h:w.heap[k]?=some o):k<w.heap.size:=by
 rcases ZU k w.heap.size with h'|h'
 ·exact h'
 ·simp[Array.getElem?_eq_none h']at h
theorem heap_set {w:World} {b k:Nat} {cs:Array Value} {t:TypeId} {fz:Nat×Nat} (h:w.heap[b]?=some (.cells cs t fz)) (v:Value) :
  (w.setCell ⟨b,k,none⟩ v).heap[b]?=some (.cells (cs.setIfInBounds k v) t fz):=by
 simp[World.setCell,Array.getElem?_modify,h]
theorem AN {w w':World} {base:Nat} {t:TypeId} {k n:Nat} {v:Value} {cs:List Value} (h:w.ownsRow base t k v n cs) (he:∀g,v.ownBlock=some g→w'.heap[g]?=w.heap[g]?):w'.ownsRow base t k v n cs:=by
 refine⟨h.1,?_⟩;rcases h.2 with h2|⟨g,cap,cur,hv,hg,hc,h3⟩
 ·exact .inl h2
 ·refine .inr ⟨g,cap,cur,hv,hg,?_,h3⟩;rw[he g (by rw[hv];rfl)];exact hc
theorem AY {w:World} {base:Nat} {t:TypeId} {k n:Nat} {v:Value} {cs:List Value} (h:w.ownsRow base t k v n cs) (g:Nat) (hg:v.ownBlock=some g):base≤g∧g<w.heap.size:=World.ownsRow.lt h g hg
end Go.Proofs.YtjldahcckmmenaaGreatDoor
