/-
  Data in memory: trees of numbers, texts, structs and slices; rows that grow. A region that draws its order: a first phase, of operations below n, all of which the later ones wait for. What only reads may be taken first, if all of that phase keeps what it reads. (The kit's OrdersHeld, with the condition asked of the first phase alone.) Data that came in, of any type of numbers, texts, structs and slices: its cells hold a tree of that shape. DERIVED: THE SHELF's CONTRACTS AT THIS DUMP, IN PLAIN WORDS (tools/lay-plain.mjs out of 'TryzShelf.lean', which tools/lay-shelf.mjs wrote): THE SAME DECLARATIONS UNDER THE SAME NAMES: 'import', 'namespace', 'open', 'def', 'theorem' AND NOTHING ELSE: no command of the shelf's: FOR A HAND-IN. Each laying: the table of numbers ('.._ren') and one theorem, a field a fact of the dump's own or the kernel's comparison; each contract: ONE APPLICATION.
-/
import Derived.Test.YtefjgpkpplkkgaaGreatDoorZo4
import Derived.OwnWalk
import Derived.OrdersHeld
import Derived.ChangeArms
import Derived.DataElems
import Derived.Shelf.Strings.Builder1
import Derived.Shelf.Strings.Builder2
import Derived.Shelf.Strings.OnBuilder
import Derived.Shelf.Strings.Trim
import Derived.Shelf.Small.Utf8
import Derived.Shelf.Small.Strs
import Derived.Shelf.Small.Wraps
import Derived.Shelf.Strings.BuilderF
import Derived.Shelf.Strings.BuilderK
import Derived.Shelf.Strings.BuilderRune
import Derived.Shelf.Utf8.AppendRune
import Derived.Shelf.Utf8.AppendRunePlain
import Derived.Shelf.Utf8.RuneCount
import Derived.Shelf.Strings.Builder2Cap
import Derived.Shelf.Strings.Search1
import Derived.Shelf.Strings.Search2
import Derived.Shelf.Strings.Search3
import Derived.Shelf.Strings.Count
import Derived.Shelf.LaysM
import Derived.Shelf.Strings.Shaped
import Derived.Shelf.Strings.Prefix
import Derived.Shelf.Strings.Split
import Derived.Shelf.Strings.Replace
import Derived.Shelf.Strings.SplitShaped
import Derived.Shelf.Unicode.Decode
import Derived.Shelf.Strings.Runes
import Derived.Shelf.Strings.RuneCount
import Derived.Shelf.Strings.AsciiSet
import Derived.Shelf.Strings.Explode
import Derived.Shelf.Unicode.DecodeSlow
import Derived.Shelf.Unicode.DecodeAny
import Derived.Shelf.Strings.BuilderCap
import Derived.Shelf.Slices.Turned
import Derived.Shelf.Slices.Equal
import Derived.Shelf.Slices.Empties2
import Derived.Test.YtefjgpkpplkkgaaGreatDoorProg
open Bool renaming and_eq_true → ZF
open List renaming getElem?_eq_getElem → ZL, all_eq_true → ZP
open Nat renaming lt_or_ge → ZZ
namespace Go.Proofs.YtefjgpkpplkkgaaGreatDoor
set_option linter.unusedSimpArgs false
set_option linter.unusedVariables false
open Go Go.RowKit
inductive D where
 | int (n:Int)
 | str (s:List UInt8)
 | bool (b:Bool)
 | obj (fs:List D)
 | seq (k:Nat) (xs:List D)
deriving Inhabited
mutual
inductive Reads (w:World) (P:Nat→Prop):D→List Value→Prop
 | int (n:Int):Reads w P (.int n) [.int .i64 n]
 | str (s:List UInt8):Reads w P (.str s) [.string ⟨s.toArray⟩]
 | bool (b:Bool):Reads w P (.bool b) [.bool b]
 | obj {fs:List D} {cs:List Value}:Ac w P fs cs→Reads w P (.obj fs) cs
 | seq {k:Nat} {xs:List D} {a:Option Addr} {cap:Nat}:Ba w P k a 0 xs→Reads w P (.seq k xs) [.slice a xs.length cap]
inductive Ac (w:World) (P:Nat→Prop):List D→List Value→Prop
 | nil:Ac w P [] []
 | cons {d:D} {ds:List D} {cs cs':List Value}:Reads w P d cs→Ac w P ds cs'→Ac w P (d::ds) (cs++cs')
inductive Ba (w:World) (P:Nat→Prop):Nat→Option Addr→Nat→List D→Prop
 | nil {k:Nat} {a:Option Addr} {i:Nat}:Ba w P k a i []
 | cons {k:Nat} {a:Option Addr} {i g o:Nat} {d:D} {ds:List D} {cs:List Value}:a=some ⟨g,o,none⟩→P g→g<w.heap.size→cs.length=k →
   (∀(j:Nat) v,cs[j]?=some v→w.cell? ⟨g,o+i*k+j,none⟩=some v)→Reads w P d cs→Ba w P k a (i+1) ds→Ba w P k a i (d::ds)
end
structure AE (w:World) (P:Nat→Prop) (w':World) (Q:Nat→Prop):Prop where
 size:w.heap.size≤w'.heap.size
 block:∀g,g<w.heap.size→P g→Q g∧w'.heap[g]?=w.heap[g]?
mutual
theorem Reads.to {w w':World} {P Q:Nat→Prop} (hs:AE w P w' Q):∀{d:D} {cs:List Value},Reads w P d cs→Reads w' Q d cs
 | _,_,.int n=>.int n
 | _,_,.str s=>.str s
 | _,_,.bool b=>.bool b
 | _,_,.obj h=>.obj (Ac.to hs h)
 | _,_,.seq h=>.seq (Ba.to hs h)
theorem Ac.to {w w':World} {P Q:Nat→Prop} (hs:AE w P w' Q):∀{ds:List D} {cs:List Value},Ac w P ds cs→Ac w' Q ds cs
 | _,_,.nil=>.nil
 | _,_,.cons h t=>.cons (Reads.to hs h) (Ac.to hs t)
theorem Ba.to {w w':World} {P Q:Nat→Prop} (hs:AE w P w' Q):∀{k:Nat} {a:Option Addr} {i:Nat} {ds:List D},Ba w P k a i ds→Ba w' Q k a i ds
 | _,_,_,_,.nil=>.nil
 | _,_,_,_,.cons e hP hg hl hc h t=>.cons e (hs.block _ hg hP).1 (Nat.lt_of_lt_of_le hg hs.size) hl (λj v hv=>by
   rw[World.cell?_of_block (w:=w) (hs.block _ hg hP).2];exact hc j v hv) (Reads.to hs h) (Ba.to hs t)
end
mutual
theorem Reads.one {w:World} {P:Nat→Prop}:∀{d:D} {cs:List Value},Reads w P d cs→∀u∈cs,u.oneCell'=true
 | _,_,.int n=>λu hu=>by simp at hu;subst hu;rfl
 | _,_,.str s=>λu hu=>by simp at hu;subst hu;rfl
 | _,_,.bool b=>λu hu=>by simp at hu;subst hu;rfl
 | _,_,.obj h=>Ac.one h
 | _,_,.seq h=>λu hu=>by simp at hu;subst hu;rfl
theorem Ac.one {w:World} {P:Nat→Prop}:∀{ds:List D} {cs:List Value},Ac w P ds cs→∀u∈cs,u.oneCell'=true
 | _,_,.nil=>λu hu=>by simp at hu
 | _,_,.cons h t=>λu hu=>by
  rcases List.mem_append.1 hu with hu|hu
  ·exact Reads.one h u hu
  ·exact Ac.one t u hu
end
section
variable {w w' : World} {P Q : Nat → Prop}
theorem AE.refl (w:World) (P:Nat→Prop):AE w P w P:=⟨Nat.le_refl _,λ_ _ h=>⟨h,rfl⟩⟩
theorem AE.sub (w:World) (h:∀g,g<w.heap.size→P g→Q g):AE w P w Q:=⟨Nat.le_refl _,λg hg hp=>⟨h g hg hp,rfl⟩⟩
theorem AE.but {X:Nat→Prop} (h:But X w w') (hx:∀g,P g→¬X g):AE w P w' P:=⟨h.size,λg hg hp=>⟨hp,h.block g hg (hx g hp)⟩⟩
theorem AE.below (h:Below w.heap.size w w'):AE w P w' P:=⟨h.size,λg hg hp=>⟨hp,h.block g hg⟩⟩
theorem AE.trans {w2:World} {R:Nat→Prop} (h:AE w P w' Q) (k:AE w' Q w2 R):AE w P w2 R :=
 ⟨Nat.le_trans h.size k.size,λg hg hp=>by
  obtain⟨q,e⟩:=h.block g hg hp;obtain⟨r,f⟩:=k.block g (Nat.lt_of_lt_of_le hg h.size) q;exact⟨r,f.trans e⟩⟩
theorem AE.drewN (h:AE w P w' Q) (n:Nat):AE w P (w'.drewN n) Q:=⟨h.size,h.block⟩
theorem Reads.int_inv {n:Int} {cs:List Value} (h:Reads w P (.int n) cs):cs=[.int .i64 n]:=by cases h;rfl
theorem Reads.str_inv {s:List UInt8} {cs:List Value} (h:Reads w P (.str s) cs):cs=[.string ⟨s.toArray⟩]:=by cases h;rfl
theorem Reads.bool_inv {b:Bool} {cs:List Value} (h:Reads w P (.bool b) cs):cs=[.bool b]:=by cases h;rfl
theorem Reads.obj_inv {fs:List D} {cs:List Value} (h:Reads w P (.obj fs) cs):Ac w P fs cs:=by cases h;assumption
theorem Reads.seq_inv {k:Nat} {xs:List D} {cs:List Value} (h:Reads w P (.seq k xs) cs):∃a cap,cs=[.slice a xs.length cap]∧Ba w P k a 0 xs:=by cases h;exact⟨_,_,rfl,by assumption⟩
theorem Ac.nil_inv {cs:List Value} (h:Ac w P [] cs):cs=[]:=by cases h;rfl
theorem Ac.cons_inv {d:D} {ds:List D} {cs:List Value} (h:Ac w P (d::ds) cs):∃c r,cs=c++r∧Reads w P d c∧Ac w P ds r:=by cases h;exact⟨_,_,rfl,by assumption,by assumption⟩
theorem Ba.at {k:Nat} {a:Option Addr}:∀{i:Nat} {ds:List D},Ba w P k a i ds→∀(j:Nat) (d:D),ds[j]?=some d →
  ∃g o cs,a=some ⟨g,o,none⟩∧P g∧g<w.heap.size∧cs.length=k∧(∀(q:Nat) v,cs[q]?=some v→w.cell? ⟨g,o+(i+j)*k+q,none⟩=some v)∧Reads w P d cs
 | _,_,.nil,j,d,h=>by simp at h
 | i,_::_,.cons e hP hg hl hc h t,0,d,hd=>by
  simp at hd;subst hd;exact⟨_,_,_,e,hP,hg,hl,hc,h⟩
 | i,_::ds,.cons e hP hg hl hc h t,j+1,d,hd=>by
  have:=Ba.at t j d (by simpa using hd);rw[show i+1+j=i+(j+1) by omega]at this;exact this
end
inductive BK (w:World) (P:Nat→Prop) (k:Nat):List D→List Value→Prop
 | nil:BK w P k [] []
 | cons {d:D} {ds:List D} {cs cs':List Value}:Reads w P d cs→cs.length=k→BK w P k ds cs'→BK w P k (d::ds) (cs++cs')
section
variable {w w' : World} {P Q : Nat → Prop} {k : Nat}
theorem BK.to (hs:AE w P w' Q):∀{ds:List D} {cs:List Value},BK w P k ds cs→BK w' Q k ds cs
 | _,_,.nil=>.nil
 | _,_,.cons h hl t=>.cons (h.to hs) hl (t.to hs)
theorem BK.len:∀{ds:List D} {cs:List Value},BK w P k ds cs→cs.length=ds.length*k
 | _,_,.nil=>by simp
 | _,_,.cons h hl t=>by rw[List.length_append,t.len,hl,List.length_cons,Nat.succ_mul];omega
theorem BK.snoc:∀{ds:List D} {cs:List Value},BK w P k ds cs→∀{d:D} {c:List Value},Reads w P d c→c.length=k→BK w P k (ds++[d]) (cs++c)
 | _,_,.nil,d,c,h,hl=>by
  have:=BK.cons h hl .nil
  rwa [List.append_nil]at this
 | _,_,.cons h0 hl0 t,d,c,h,hl=>by
  rw[List.cons_append,List.append_assoc];exact .cons h0 hl0 (t.snoc h hl)
theorem BK.seqAt {g:Nat} (hP:P g) (hg:g<w.heap.size):∀{ds:List D} {cs:List Value},BK w P k ds cs→∀(i:Nat),(∀(j:Nat) v,cs[j]?=some v→w.cell? ⟨g,i*k+j,none⟩=some v)→Ba w P k (some ⟨g,0,none⟩) i ds
 | _,_,.nil,i,hc=>.nil
 | _,_,.cons (cs:=c) (cs':=c') h hl t,i,hc=>by
  refine .cons rfl hP hg hl (λj v hv=>?_) h (t.seqAt hP hg (i+1) (λj v hv=>?_))
  ·rw[Nat.zero_add];have o:=(List.getElem?_eq_some_iff.1 hv).1;exact hc j v (by rw[List.getElem?_append_left o];exact hv)
  ·have:=hc (k+j) v (by rw[List.getElem?_append_right (by omega),show k+j-c.length=j by omega];exact hv);rw[show (i+1)*k+j=i*k+(k+j) by rw[Nat.succ_mul];omega];exact this
end
theorem Dx (g k:Nat):(⟨g,0,none⟩:Addr).add k=⟨g,k,none⟩:=by
 by_cases h:k=0
 ·subst h;simp[Addr.add]
 ·simp[Addr.add,h]
theorem block_lt {w:World} {k:Nat} {o:Obj} (h:w.heap[k]?=some o):k<w.heap.size:=by
 rcases ZZ k w.heap.size with h'|h'
 ·exact h'
 ·simp[Array.getElem?_eq_none h']at h
theorem AC (w:World) (o:Obj):(w.alloc o).heap[w.heap.size]?=some o:=by
 show (w.heap.push _)[w.heap.size]?=_;simp
theorem A4 (w:World) (cs:Array Value) (T:TypeId) (fz:Nat×Nat) (k:Nat) (v:Value) (h:cs[k]?=some v):(w.alloc (.cells cs T fz)).cell? ⟨w.heap.size,k,none⟩=some v:=by
 unfold World.cell?;rw[AC];exact h
theorem CK (w:World) (cs:Array Value) (T:TypeId) (k:Nat):(w.alloc (.cells cs T (0,0))).frozen? ⟨w.heap.size,k,none⟩=false:=by
 unfold World.frozen?;rw[AC];simp
structure Az (w:World) (P:Nat→Prop) (base:Nat) (T:TypeId) (k:Nat) (v:Value) (xs:List D):Prop where
 row:∃cs,w.ownsRow base T k v xs.length cs∧BK w P k xs cs
 apart:∀g,v.ownBlock=some g→¬P g
section
variable {w w' : World} {P Q : Nat → Prop} {base k : Nat} {T : TypeId} {v v' : Value} {xs : List D}
theorem Az.nil (w:World) (P:Nat→Prop) (base:Nat) (T:TypeId) (k:Nat):Az w P base T k (.slice none 0 0) [] :=
 ⟨⟨[],World.ownsRow_nil _ _ _ _,.nil⟩,λg hg=>by simp[Value.ownBlock]at hg⟩
theorem CI {cs:List Value} {n:Nat} (h:w.ownsRow base T k v n cs) (hb:∀g,v.ownBlock=some g→w'.heap[g]?=w.heap[g]?):w'.ownsRow base T k v n cs:=by
 refine⟨h.1,?_⟩;rcases h.2 with h2|⟨g,cap,cur,hv,hg,hc,h3⟩
 ·exact .inl h2
 ·refine .inr ⟨g,cap,cur,hv,hg,?_,h3⟩;rw[hb g (by rw[hv];rfl)];exact hc
theorem Az.to (h:Az w P base T k v xs) (hs:AE w P w' Q) (hb:∀g,v.ownBlock=some g→¬Q g∧w'.heap[g]?=w.heap[g]?):Az w' Q base T k v xs:=by
 obtain⟨⟨B,A,o⟩,C⟩:=h;exact⟨⟨B,CI A (λg hg=>(hb g hg).2),o.to hs⟩,λg hg=>(hb g hg).1⟩
theorem Az.form (h:Az w P base T k v xs):∃a c,v=.slice a xs.length c:=by
 obtain⟨⟨B,o,A⟩,C⟩:=h;rcases o.2 with⟨h4,h5⟩|⟨g,cap,cur,hv,hg,hc,h6⟩
 ·exact⟨none,0,by rw[h5];exact h4⟩
 ·exact⟨_,_,hv⟩
theorem Az.lt (h:Az w P base T k v xs):∀g,v.ownBlock=some g→base≤g∧g<w.heap.size:=by
 obtain⟨⟨B,o,A⟩,C⟩:=h;exact o.lt
theorem Az.reads (h:Az w P base T k v xs):Reads w (λg=>P g∨v.ownBlock=some g) (.seq k xs) [v]:=by
 obtain⟨⟨C,o,B⟩,D⟩:=h;have A:=λg hg=>World.ownsRow.cells (g:=g) o hg
 rcases o.2 with⟨h4,h5⟩|⟨g,cap,cur,hv,hg,hcur,h6⟩
 ·subst h4;have:xs=[]:=List.eq_nil_of_length_eq_zero h5;subst this;exact .seq .nil
 ·subst hv;refine .seq ((B.to (Q:=λx=>P x∨(Value.slice (some ⟨g,0,none⟩) xs.length cap).ownBlock=some x) (AE.sub w (λx _ hx=>.inl hx))).seqAt (g:=g) (.inr rfl) (block_lt hcur) 0 (λj v hj=>?_));have:=A g rfl j v hj;rw[Dx]at this;rw[Nat.zero_mul,Nat.zero_add];exact this
theorem Az.more {d:D} {c:List Value} (h:Az w P base T k v xs) (hd:Reads w P d c) (hk:c.length=k) {w1:World} (hs:AE w P w1 P)
  (hrow:∀cs,BK w P k xs cs→w1.ownsRow base T k v' (xs.length+1) (cs++c)) (hap:∀g,v'.ownBlock=some g→¬P g):Az w1 P base T k v' (xs++[d]):=by
 obtain⟨⟨cs,A,o⟩,B⟩:=h;refine⟨⟨cs++c,?_,(o.snoc hd hk).to hs⟩,hap⟩;rw[List.length_append];exact hrow cs o
end
section
variable {P : Program} {ops : Array Oper} {Q : Exit → Act → World → Prop} {md : Region.Mode} {S : World → Prop} {n : Nat}
def G3 (md:Region.Mode) (ops:Array Oper) (n:Nat):Bool :=
 (List.range ops.size).all λt=>decide (t<n)||(List.range n).all λi=>Region.waitsFor md ops t i
theorem EW {listed:Array Bool} (hp:G3 md ops n=true) {i t:Nat} (hi:i<n) (hun:listed.getD i true=false) (ht:t∈Region.ready md ops listed):t<n:=by
 rcases ZZ t n with h|h
 ·exact h
 ·obtain⟨_,G,B,A⟩:=mem_ready.1 ht;have C:t<ops.size:=(Array.getElem?_eq_some_iff.1 B).1;have o:=ZP.1 hp t (List.mem_range.2 C);simp only[Bool.or_eq_true,decide_eq_true_eq]at o;rcases o with o|o
  ·exact o
  ·have I:=ZP.1 o i (List.mem_range.2 hi);obtain⟨J,D,e,H,K,E⟩:=Region.waitsFor_spec I;have:J=G:=Option.some.inj (D.symm.trans B);subst this;have F:=A e H K;rw[E,getD_both hun]at F;cases F
def Aq (P:Program) (md:Region.Mode) (ops:Array Oper) (Q:Exit→Act→World→Prop) (S:World→Prop) (n:Nat):Nat→Array Bool→Act→World→Prop
 | 0,listed,a,w=>Region.ready md ops listed=[]∧Q .normal a w
 | fuel+1,listed,a,w =>
  (Region.ready md ops listed=[]→Q .normal a w) ∧
  ∀i∈Region.ready md ops listed,wpOp P ops Q i (λa' w'=>(i<n→S w')∧Aq P md ops Q S n fuel (listed.setIfInBounds i true) a' w') a w
theorem Ey:∀(fuel:Nat) (listed:Array Bool) (a:Act) (w:World),Aq P md ops Q S n fuel listed a w→wpAny P md ops Q fuel listed a w
 | 0,_,_,_,h=>h
 | fuel+1,_,_,_,h=>⟨h.1,λi hi=>wpOp_mono (λa' w' h'=>Ey fuel _ a' w' h'.2) (h.2 i hi)⟩
theorem Gz {i:Nat} {oi:Oper} {v:Value} (hp:G3 md ops n=true) (hin:i<n) (hi:ops[i]?=some oi) (hsel:∀(j:Nat) (o:Oper) cs b,ops[j]?=some o→o.op≠.select cs b)
  (hQ:∀c a w,Q (.panic c) (a.put oi.dst v) w→Q (.panic c) a w) :
  ∀(fuel:Nat) (listed:Array Bool) (a:Act) (w:World),
   (∀j oj,ops[j]?=some oj→j≠i→listed.getD j true=false→(∀e∈oj.after,Region.binds md e=true→e.on≠i)→oi.apart ops oj=true) →
   i∈Region.ready md ops listed→YieldsIf P ops S oi v a→S w →
   Aq P md ops Q S n fuel (listed.setIfInBounds i true) (a.put oi.dst v) w→Aq P md ops Q S n (fuel+1) listed a w:=by
 intro fuel
 induction fuel with
 | zero =>
  intro listed a w _ hr hy hS H;refine⟨λh=>(by rw[h]at hr;cases hr),λj hj=>?_⟩;by_cases hji:j=i
  ·subst hji;exact hy.wpOp hi hS ⟨λ_=>hS,H⟩
  ·have:=ready_mono hj hji;rw[H.1]at this;cases this
 | succ fuel ih =>
  intro listed a w hfree hr hy hS H;refine⟨λh=>(by rw[h]at hr;cases hr),λj hj=>?_⟩;by_cases hji:j=i
  ·subst hji;exact hy.wpOp hi hS ⟨λ_=>hS,H⟩
  ·have G:j<n:=EW hp hin (mem_ready.1 hr).1 hj;have C:=H.2 j (ready_mono hj hji);obtain⟨B,oj,D,F⟩:=mem_ready.1 hj;have E:∀e∈oj.after,Region.binds md e=true→e.on≠i:=λe he hb heq=>by
    have C:=F e he hb;have I:=(mem_ready.1 hr).1;rw[heq]at C;rcases ZZ i listed.size with h'|h'
    ·simp[h']at I C;rw[I]at C;cases C
    ·simp[Array.getElem?_eq_none h']at C
   have J:=wpOp_putIf D (hfree j oj D hji B E) (λcs b=>hsel i oi cs b hi) (λcs b=>hsel j oj cs b D) hQ hy C;have A:∀k ok,ops[k]?=some ok→k≠i→(listed.setIfInBounds j true).getD k true=false →
     (∀e∈ok.after,Region.binds md e=true→e.on≠i)→oi.apart ops ok=true:=λk ok hk hki hun hno=>by
    refine hfree k ok hk hki ?_ hno;by_cases hjk:j=k
    ·subst hjk;exact B
    ·rw[getD_set_ne true hjk]at hun;exact hun
   refine wpOp_mono (λa' w' h3=>⟨h3.2.1,ih (listed.setIfInBounds j true) a' w' A (ready_mono hr (Ne.symm hji)) h3.1 (h3.2.1 G) ?_⟩) J;rw[Array.setIfInBounds_comm _ _ hji];exact h3.2.2
theorem Hq {i:Nat} {oi:Oper} {v:Value} {fuel:Nat} {listed:Array Bool} {a:Act} {w:World} (hp:G3 md ops n=true) (hin:i<n) (hi:ops[i]?=some oi)
  (hs:Region.noSelect ops=true) (hf:Region.free md ops listed i=true) (hr:(Region.ready md ops listed).contains i=true)
  (hQ:∀c a w,Q (.panic c) (a.put oi.dst v) w→Q (.panic c) a w) (hy:YieldsIf P ops S oi v a) (hS:S w)
  (h:Aq P md ops Q S n fuel (listed.setIfInBounds i true) (a.put oi.dst v) w):Aq P md ops Q S n (fuel+1) listed a w :=
 Gz hp hin hi (Region.noSelect_spec hs) hQ fuel listed a w (Region.free_spec hi hf) (by simpa using hr) hy hS h
theorem TK {i : Nat} {oi : Oper} {v : Value} {fuel : Nat} {listed : Array Bool} {a : Act} {w : World} (hi : ops[i]? = some oi) (hy : YieldsIf P ops S oi v a) (hS : S w) (h : Aq P md ops Q S n fuel (listed.setIfInBounds i true) (a.put oi.dst v) w) (hp : G3 md ops n = true := by kernel_rfl) (hin : i < n := by decide) (hs : Region.noSelect ops = true := by kernel_rfl) (hf : Region.free md ops listed i = true := by kernel_rfl) (hr : (Region.ready md ops listed).contains i = true := by kernel_rfl) (hQ : ∀ c a w, Q (.panic c) (a.put oi.dst v) w → Q (.panic c) a w := by exact fun _ _ _ h => h) : Aq P md ops Q S n (fuel + 1) listed a w := Hq hp hin hi hs hf hr hQ hy hS h
theorem Ea {i:Nat} {oi:Oper} {v:Value} (hi:ops[i]?=some oi) (hsel:∀(j:Nat) (o:Oper) cs b,ops[j]?=some o→o.op≠.select cs b)
  (hQ:∀c a w,Q (.panic c) (a.put oi.dst v) w→Q (.panic c) a w) :
  ∀(fuel:Nat) (listed:Array Bool) (a:Act) (w:World),
   (∀j oj,ops[j]?=some oj→j≠i→listed.getD j true=false→(∀e∈oj.after,Region.binds md e=true→e.on≠i)→oi.apart ops oj=true) →
   i∈Region.ready md ops listed→YieldsIf P ops (λ_=>True) oi v a→(i<n→S w)→n≤i →
   Aq P md ops Q S n fuel (listed.setIfInBounds i true) (a.put oi.dst v) w→Aq P md ops Q S n (fuel+1) listed a w:=by
 intro fuel
 induction fuel with
 | zero =>
  intro listed a w _ hr hy hS hni H;refine⟨λh=>(by rw[h]at hr;cases hr),λj hj=>?_⟩;by_cases hji:j=i
  ·subst hji;exact hy.wpOp hi trivial ⟨hS,H⟩
  ·have:=ready_mono hj hji;rw[H.1]at this;cases this
 | succ fuel ih =>
  intro listed a w hfree hr hy hS hni H;refine⟨λh=>(by rw[h]at hr;cases hr),λj hj=>?_⟩;by_cases hji:j=i
  ·subst hji;exact hy.wpOp hi trivial ⟨hS,H⟩
  ·have C:=H.2 j (ready_mono hj hji);obtain⟨B,oj,D,F⟩:=mem_ready.1 hj;have E:∀e∈oj.after,Region.binds md e=true→e.on≠i:=λe he hb heq=>by
    have C:=F e he hb;have G:=(mem_ready.1 hr).1;rw[heq]at C;rcases ZZ i listed.size with h'|h'
    ·simp[h']at G C;rw[G]at C;cases C
    ·simp[Array.getElem?_eq_none h']at C
   have I:=wpOp_putIf D (hfree j oj D hji B E) (λcs b=>hsel i oi cs b hi) (λcs b=>hsel j oj cs b D) hQ hy C;have A:∀k ok,ops[k]?=some ok→k≠i→(listed.setIfInBounds j true).getD k true=false →
     (∀e∈ok.after,Region.binds md e=true→e.on≠i)→oi.apart ops ok=true:=λk ok hk hki hun hno=>by
    refine hfree k ok hk hki ?_ hno;by_cases hjk:j=k
    ·subst hjk;exact B
    ·rw[getD_set_ne true hjk]at hun;exact hun
   refine wpOp_mono (λa' w' h3=>⟨h3.2.1,ih (listed.setIfInBounds j true) a' w' A (ready_mono hr (Ne.symm hji)) h3.1 (λh=>absurd h (by omega)) hni ?_⟩) I;rw[Array.setIfInBounds_comm _ _ hji];exact h3.2.2
theorem FP {i:Nat} {oi:Oper} {v:Value} {fuel:Nat} {listed:Array Bool} {a:Act} {w:World} (hni:n≤i) (hi:ops[i]?=some oi)
  (hs:Region.noSelect ops=true) (hf:Region.free md ops listed i=true) (hr:(Region.ready md ops listed).contains i=true)
  (hQ:∀c a w,Q (.panic c) (a.put oi.dst v) w→Q (.panic c) a w) (hy:YieldsIf P ops (λ_=>True) oi v a)
  (h:Aq P md ops Q S n fuel (listed.setIfInBounds i true) (a.put oi.dst v) w):Aq P md ops Q S n (fuel+1) listed a w :=
 Ea hi (Region.noSelect_spec hs) hQ fuel listed a w (Region.free_spec hi hf) (by simpa using hr) hy (λh=>absurd h (by omega)) hni h
theorem TA {i : Nat} {oi : Oper} {v : Value} {fuel : Nat} {listed : Array Bool} {a : Act} {w : World} (hi : ops[i]? = some oi) (hy : YieldsIf P ops (fun _ => True) oi v a) (h : Aq P md ops Q S n fuel (listed.setIfInBounds i true) (a.put oi.dst v) w) (hni : n ≤ i := by decide) (hs : Region.noSelect ops = true := by kernel_rfl) (hf : Region.free md ops listed i = true := by kernel_rfl) (hr : (Region.ready md ops listed).contains i = true := by kernel_rfl) (hQ : ∀ c a w, Q (.panic c) (a.put oi.dst v) w → Q (.panic c) a w := by exact fun _ _ _ h => h) : Aq P md ops Q S n (fuel + 1) listed a w := FP hni hi hs hf hr hQ hy h
theorem Ip {i:Nat} {fuel:Nat} {listed:Array Bool} {a:Act} {w:World} (hr:Region.ready md ops listed=[i])
  (h:wpOp P ops Q i (λa' w'=>(i<n→S w')∧Aq P md ops Q S n fuel (listed.setIfInBounds i true) a' w') a w):Aq P md ops Q S n (fuel+1) listed a w :=
 ⟨λh0=>(by rw[hr]at h0;cases h0),λj hj=>by
  rw[hr]at hj;obtain rfl:j=i:=(by simpa using hj)
  exact h⟩
theorem TO {i : Nat} {fuel : Nat} {listed : Array Bool} {a : Act} {w : World} (h : wpOp P ops Q i (fun a' w' => (i < n → S w') ∧ Aq P md ops Q S n fuel (listed.setIfInBounds i true) a' w') a w) (hr : Region.ready md ops listed = [i] := by kernel_rfl) : Aq P md ops Q S n (fuel + 1) listed a w := Ip hr h
theorem Ag {i k:Nat} {fuel:Nat} {listed:Array Bool} {a:Act} {w:World} (hr:Region.ready md ops listed=[i,k])
  (h:wpOp P ops Q i (λa' w'=>(i<n→S w')∧Aq P md ops Q S n fuel (listed.setIfInBounds i true) a' w') a w)
  (h':wpOp P ops Q k (λa' w'=>(k<n→S w')∧Aq P md ops Q S n fuel (listed.setIfInBounds k true) a' w') a w):Aq P md ops Q S n (fuel+1) listed a w :=
 ⟨λh0=>(by rw[hr]at h0;cases h0),λj hj=>by
  rw[hr]at hj;have:j=i∨j=k:=by simpa using hj
  rcases this with rfl|rfl
  ·exact h
  ·exact h'⟩
theorem AH {listed:Array Bool} {a:Act} {w:World} (hr:Region.ready md ops listed=[]) (h:Q .normal a w) :
  ∀fuel,Aq P md ops Q S n fuel listed a w
 | 0=>⟨hr,h⟩
 | _+1=>⟨λ_=>h,by rw[hr];simp⟩
theorem AM (S:World→Prop) (n:Nat) {id:Nat} {a:Act} {w:World} (hm:P.follows .mixedOrders=true)
  (h:Aq P .any ops Q S n ops.size (Array.replicate ops.size false) a { w with drawn:=w.drawn+1 }):(Code.region id ops true).wp P Q a w :=
 wp_region_any hm (Ey _ _ _ _ h)
theorem AB {l:List Oper} {i:Nat} {K:Act→World→Prop} {a:Act} {w:World} (hn:i<l.length)
  (h:∀K':Act→World→Prop,Hid (∀a w,K a w→K' a w)→wpList P l.toArray (Exit.then K' Q) ((l.drop i).take 1) a w):wpOp P l.toArray Q i K a w:=by
 have o:=h K (Lib.hid λ_ _ h=>h);have B:l.toArray[i]?=some l[i]:=by simp[hn]
 have A:(l.drop i).take 1=[l[i]]:=by rw[List.drop_eq_getElem_cons hn,List.take_succ_cons,List.take_zero]
 rw[A]at o;unfold wpOp;simp only[B];unfold wpList at o;split
 ·rename_i hwant;rw[if_pos hwant]at o;refine o.imp (λhs=>?_) (λhs=>⟨hs.1,?_⟩)
  ·have F:=Oper.wp_mono (Q:=Exit.then K Q) (K':=K) (λa w h=>h) hs;unfold Oper.wp at *
   generalize (execOp a.eval l[i]).run P w=r at *
   cases r with
   | ok nx w2 =>
    cases nx with
    | enter f args =>
     exact Calls.mono F λe w3 h3=>by cases e<;>first|exact h3|(obtain⟨D,C,E⟩:=h3;exact⟨D,C,E⟩)
    | _=>exact F
   | halt x w2=>cases x<;>exact F
  ·obtain⟨D,C,E⟩:=hs.2;exact⟨D,C,E⟩
 ·rename_i hwant;rw[if_neg hwant]at o;exact o
end
mutual
def Ai (P:Program):TypeId→D→Prop
 | t,.int n=>P.underlying t=some (.int .i64)∧(Lit.int .i64 n).wf=true
 | t,.str s=>P.underlying t=some .string∧s.length≤maxLen
 | t,.bool _=>P.underlying t=some .bool
 | t,.obj ds=>∃fs,P.underlying t=some (.struct fs)∧Cf P (fs.toList.map (·.type)) ds
 | t,.seq k ds=>∃e,P.underlying t=some (.slice e)∧P.cellsOf e=k∧ds.length≤maxLen∧FN P e ds
def Cf (P:Program):List TypeId→List D→Prop
 | [],[]=>True
 | t::ts,d::ds=>Ai P t d∧Cf P ts ds
 | [],_::_=>False
 | _::_,[]=>False
def FN (P:Program):TypeId→List D→Prop
 | _,[]=>True
 | e,d::ds=>Ai P e d∧FN P e ds
end
def Mm (P:Program) (L:List TypeId):Bool:=L.all λt=>match P.underlying t with
 | some (.int k)=>decide (k=.i64)
 | some .string=>true
 | some .bool=>true
 | some (.struct fs)=>P.consecB fs.toList 0 (P.cellsOf t)&&fs.toList.all λf=>L.contains f.type
 | some (.slice e)=>L.contains e&&decide (0<P.cellsOf e)
 | _=>false
section
variable {H : Type} {enc : TypeId × Value → H} {P : Program} {w : World} {sp : Nat → Bool} {held : Bool}
theorem EK {n:Nat} {L:List TypeId} (IH:∀t cs x,t∈L→DataW.trod enc P w 0 sp held n t cs=some x→∃d,Reads w (λ_=>True) d cs∧Ai P t d) :
  ∀(fs:List Field) (xs:List (DataW H×List MemPlace)) (off:Nat) (cs:List Value),P.consecB fs off cs.length=true→(∀f∈fs,f.type∈L)→xs.length=fs.length →
   (∀(i:Nat) (f:Field),fs[i]?=some f→DataW.trod enc P w 0 sp held n f.type ((cs.drop f.offset).take (P.cellsOf f.type))=xs[i]?) →
   ∃ds,Ac w (λ_=>True) ds (cs.drop off)∧Cf P (fs.map (·.type)) ds
 | [],xs,off,cs,hc,_,_,_=>by
  unfold Program.consecB at hc;have:off=cs.length:=by simpa using hc
  subst this;rw[List.drop_length];exact⟨[],.nil,trivial⟩
 | f::fs,[],off,cs,hc,_,hl,_=>by simp at hl
 | f::fs,x::xs,off,cs,hc,hT,hl,h=>by
  unfold Program.consecB at hc;rw[ZF]at hc;have C:f.offset=off:=by simpa using hc.1
  have B:=h 0 f rfl;rw[C]at B;obtain⟨d,E,D⟩:=IH _ _ _ (hT f (by simp)) B;obtain⟨ds,o,A⟩:=EK IH fs xs (off+P.cellsOf f.type) cs hc.2 (λg hg=>hT g (by simp[hg])) (by simpa using hl) (λi g hg=>h (i+1) g hg);refine⟨d::ds,?_,D,A⟩;rw[← take_drop_step cs off (P.cellsOf f.type)];exact .cons E o
theorem Ep {n k:Nat} {e:TypeId} (IH:∀cs x,DataW.trod enc P w 0 sp held n e cs=some x→∃d,Reads w (λ_=>True) d cs∧Ai P e d) (hk:P.cellsOf e=k) (h0:0<k) (a:Addr) (len:Nat) (hs:0<len→a.spot=none) :
  ∀(m i:Nat) (elems:List (DataW H×List MemPlace)),i+m=len→elems.length=len→(∀i,i<len→(w.cells? 0 (a.add (i*P.cellsOf e)) (P.cellsOf e)).bind (DataW.trod enc P w 0 sp held n e)=elems[i]?) →
   ∃ds,ds.length=m∧Ba w (λ_=>True) k (some a) i ds∧FN P e ds
 | 0,i,elems,hi,hl,h=>⟨[],rfl,.nil,trivial⟩
 | m+1,i,elems,hi,hl,h=>by
  obtain⟨ds,J,K,L⟩:=Ep IH hk h0 a len hs m (i+1) elems (by omega) hl h;have M:=h i (by omega);rw[ZL (by omega:i<elems.length),Option.bind_eq_some_iff]at M;obtain⟨cs,B,O⟩:=M;obtain⟨d,S,Q⟩:=IH cs _ O;obtain⟨_,C,A⟩:=World.cells?_some B;rw[hk]at A C;have E:=A 0 h0;rw[ZL (by omega:0<cs.length)]at E;obtain⟨g,o,spot⟩:=a;have D:spot=none:=hs (by omega);subst D;have G:g<w.heap.size:=by
   have F:=World.block_lt_of_cell? w _ E;rw[Addr.add_add]at F;unfold Addr.add at F;split at F<;>exact F
  refine⟨d::ds,by rw[List.length_cons,J],?_,Q,L⟩;refine .cons rfl trivial G C (λj v hj=>?_) S K;have I:j<k:=by rw[← C];exact (List.getElem?_eq_some_iff.1 hj).1
  have:=A j I;rw[hj,Addr.add_add]at this;rw[← this]
  congr 1
  unfold Addr.add;split
  ·rename_i hz;have N:i*k=0:=by omega
   have R:j=0:=by omega
   rw[N,R];rfl
  ·show _=(⟨g,o+(i*k+j),_⟩:Addr);rw[Nat.add_assoc]
theorem D4 {L:List TypeId} (hL:Mm P L=true):∀(fuel:Nat) (t:TypeId) (cs:List Value) (x:DataW H×List MemPlace),t∈L→DataW.trod enc P w 0 sp held fuel t cs=some x→∃d,Reads w (λ_=>True) d cs∧Ai P t d
 | 0,t,cs,x,_,h=>by simp[DataW.trod]at h
 | n+1,t,cs,x,ht,h=>by
  have o:=ZP.1 hL t ht;split at o
  ·rename_i k hu;obtain rfl:k=.i64:=of_decide_eq_true o;obtain⟨m,rfl,-,V⟩:=DataW.trod_int hu h;exact⟨.int m,.int m,hu,V⟩
  ·rename_i hu;obtain⟨s,rfl,-,T⟩:=DataW.trod_string hu h;have e:s=⟨s.data.toList.toArray⟩:=by cases s;simp
   refine⟨.str s.data.toList,?_,hu,T⟩;have:=Reads.str (w:=w) (P:=λ_=>True) s.data.toList;rw[← e]at this;exact this
  ·rename_i hu;obtain⟨b,rfl,-⟩:=DataW.trod_bool hu h;exact⟨.bool b,.bool b,hu⟩
  ·rename_i fs hu;rw[ZF]at o;obtain⟨U,O,e,-,S,K,I⟩:=DataW.trod_struct hu h;obtain rfl:n=O:=by omega
   obtain⟨M,B,F⟩:=EK (λt cs x ht G=>D4 hL n t cs x ht G) fs.toList U 0 cs (by rw[S];exact o.1) (λf I=>by simpa using ZP.1 o.2 f I) (by rw[K];simp) (λi f hi=>I i f (by simpa using hi));rw[List.drop_zero]at B;exact⟨.obj M,.obj B,fs,hu,F⟩
  ·rename_i e hu;rw[ZF,decide_eq_true_eq]at o;have N:e∈L:=by simpa using o.1
   rcases DataW.trod_slice hu h with⟨rfl,-⟩|⟨a,len,cap,elems,rest,O,e2,rfl,-,-,J,hcm,hel,hrd,-⟩
   ·exact⟨.seq (P.cellsOf e) [],.seq .nil,e,hu,rfl,by simp,trivial⟩
   ·obtain rfl:n=O:=by omega
    have D:0<len→a.spot=none:=λh0=>by
     have G:=hrd 0 h0;rw[ZL (by omega:0<elems.length),Option.bind_eq_some_iff]at G;obtain⟨cs,A,-⟩:=G;obtain⟨_,J,C⟩:=World.cells?_some A;have E:=C 0 o.2;rw[ZL (by omega:0<cs.length)]at E;have R:(a.add (0*P.cellsOf e)).add 0=a:=by simp[Addr.add]
     rw[R]at E;exact World.cell?_spot E
    obtain⟨M,Q,B,F⟩:=Ep (λcs x G=>D4 hL n e cs x N G) rfl o.2 a len D len 0 elems (by omega) hel hrd;subst Q;exact⟨.seq (P.cellsOf e) M,.seq B,e,hu,rfl,by omega,F⟩
  ·cases o
theorem Mx {L:List TypeId} (hL:Mm P L=true) {t:TypeId} {v:Value} {x:DataW H} {ps:List MemPlace} (ht:t∈L) (h:DataW.Trod enc P w 0 sp held t v x ps):∃d,Reads w (λ_=>True) d v.cells.toList∧Ai P t d:=by
 obtain⟨o,A⟩:=h;exact D4 hL o t _ _ ht A
end
section
variable {P : Program} {t : TypeId} {d : D}
theorem Ai.int (ht:P.underlying t=some (.int .i64)) (h:Ai P t d):∃n,d=.int n∧(Lit.int .i64 n).wf=true:=by
 cases d with
 | int n=>unfold Ai at h;exact⟨n,rfl,h.2⟩
 | str s=>unfold Ai at h;rw[ht]at h;cases h.1
 | bool b=>unfold Ai at h;rw[ht]at h;cases h
 | obj ds=>unfold Ai at h;obtain⟨o,h,-⟩:=h;rw[ht]at h;cases h
 | seq k ds=>unfold Ai at h;obtain⟨o,h,-⟩:=h;rw[ht]at h;cases h
theorem Ai.str (ht:P.underlying t=some .string) (h:Ai P t d):∃s,d=.str s∧s.length≤maxLen:=by
 cases d with
 | int n=>unfold Ai at h;rw[ht]at h;cases h.1
 | str s=>unfold Ai at h;exact⟨s,rfl,h.2⟩
 | bool b=>unfold Ai at h;rw[ht]at h;cases h
 | obj ds=>unfold Ai at h;obtain⟨o,h,-⟩:=h;rw[ht]at h;cases h
 | seq k ds=>unfold Ai at h;obtain⟨o,h,-⟩:=h;rw[ht]at h;cases h
theorem Ai.bool (ht:P.underlying t=some .bool) (h:Ai P t d):∃b,d=.bool b:=by
 cases d with
 | int n=>unfold Ai at h;rw[ht]at h;cases h.1
 | str s=>unfold Ai at h;rw[ht]at h;cases h.1
 | bool b=>exact⟨b,rfl⟩
 | obj ds=>unfold Ai at h;obtain⟨o,h,-⟩:=h;rw[ht]at h;cases h
 | seq k ds=>unfold Ai at h;obtain⟨o,h,-⟩:=h;rw[ht]at h;cases h
theorem Ai.obj {fs:Array Field} (ht:P.underlying t=some (.struct fs)) (h:Ai P t d):∃ds,d=.obj ds∧Cf P (fs.toList.map (·.type)) ds:=by
 cases d with
 | int n=>unfold Ai at h;rw[ht]at h;cases h.1
 | str s=>unfold Ai at h;rw[ht]at h;cases h.1
 | bool b=>unfold Ai at h;rw[ht]at h;cases h
 | obj ds =>
  unfold Ai at h;obtain⟨A,o,B⟩:=h;rw[ht]at o;cases o;exact⟨ds,rfl,B⟩
 | seq k ds=>unfold Ai at h;obtain⟨fs,h,-⟩:=h;rw[ht]at h;cases h
theorem Ai.seq {e:TypeId} (ht:P.underlying t=some (.slice e)) (h:Ai P t d):∃ds,d=.seq (P.cellsOf e) ds∧ds.length≤maxLen∧FN P e ds:=by
 cases d with
 | int n=>unfold Ai at h;rw[ht]at h;cases h.1
 | str s=>unfold Ai at h;rw[ht]at h;cases h.1
 | bool b=>unfold Ai at h;rw[ht]at h;cases h
 | obj ds=>unfold Ai at h;obtain⟨E,h,-⟩:=h;rw[ht]at h;cases h
 | seq k ds =>
  unfold Ai at h;obtain⟨D,o,B,C,A⟩:=h;rw[ht]at o;cases o;subst B;exact⟨ds,rfl,C,A⟩
theorem Cf.cons {ts:List TypeId} {ds:List D} (h:Cf P (t::ts) ds):∃d r,ds=d::r∧Ai P t d∧Cf P ts r:=by
 cases ds with
 | nil=>unfold Cf at h;exact h.elim
 | cons d r=>unfold Cf at h;exact⟨d,r,rfl,h.1,h.2⟩
theorem Cf.nil {ds:List D} (h:Cf P [] ds):ds=[]:=by
 cases ds with
 | nil=>rfl
 | cons d r=>unfold Cf at h;exact h.elim
theorem FN.mem {ds:List D} (h:FN P t ds):∀d∈ds,Ai P t d:=by
 induction ds with
 | nil=>intro d hd;simp at hd
 | cons x r ih =>
  unfold FN at h;intro d hd;rcases List.mem_cons.1 hd with rfl|hd
  ·exact h.1
  ·exact ih h.2 d hd
end
end Go.Proofs.YtefjgpkpplkkgaaGreatDoor
namespace Go.Proofs
open Go.Shelf
def Tryz.lays169_ren:Go.Shelf.Ren:=⟨fun|169=>33|n=>n,fun|70=>62|9=>9|0=>0|72=>65|37=>63|127=>154|3=>3|5=>5|n=>n,fun|n=>n⟩
theorem Tryz.lays169:Go.Proofs.Lays.n169 Tryz.prog Tryz.lays169_ren:={
 mixed:=by kernel_rfl
 f169:=Tryz.func33.trans (congrArg some (by kernel_rfl))
 t0:=Tryz.underlying0
 a0:=Tryz.isAgg0
 z0:=Tryz.sizeOf0
 v0:=Tryz.zeroValue0
 t3:=Tryz.underlying3
 a3:=Tryz.isAgg3
 z3:=Tryz.sizeOf3
 v3:=Tryz.zeroValue3
 t9:=Tryz.underlying9
 a9:=Tryz.isAgg9
 z9:=Tryz.sizeOf9
 v9:=Tryz.zeroValue9
 t37:=Tryz.underlying63
 a37:=Tryz.isAgg63
 z37:=Tryz.sizeOf63
 v37:=Tryz.zeroValue63
 t70:=Tryz.underlying62
 a70:=Tryz.isAgg62
 z70:=Tryz.sizeOf62
 v70:=Tryz.zeroValue62
 t72:=Tryz.underlying65
 a72:=Tryz.isAgg65
 z72:=Tryz.sizeOf65
 v72:=Tryz.zeroValue65
 t127:=Tryz.underlying154
 a127:=Tryz.isAgg154
 z127:=Tryz.sizeOf154
 v127:=Tryz.zeroValue154 }
theorem Tryz.Builder_Extra_169:Builder.Extra Tryz.prog Tryz.lays169_ren:={
 sizeBuilder:=by kernel_rfl
 liesBuilder:=by kernel_rfl
 t5:=Tryz.underlying5
 a5:=Tryz.isAgg5
 z5:=Tryz.sizeOf5
 v5:=Tryz.zeroValue5
 infoByte:=by kernel_rfl
 cellsByte:=by kernel_rfl
 sizeByte:=by kernel_rfl
 neB5:=by decide }
def Tryz.lays156_ren:Go.Shelf.Ren:=⟨fun|156=>239|165=>244|166=>88|169=>33|240=>160|241=>249|276=>198|277=>253|n=>n,fun|31=>120|9=>9|3=>3|4=>4|0=>0|20=>20|72=>65|76=>151|70=>62|37=>63|75=>150|127=>154|164=>236|5=>5|80=>69|n=>n,fun|n=>n⟩
theorem Tryz.lays156:Go.Proofs.Lays.n156 Tryz.prog Tryz.lays156_ren:={
 mixed:=by kernel_rfl
 f156:=Tryz.func239.trans (congrArg some (by kernel_rfl))
 f165:=Tryz.func244.trans (congrArg some (by kernel_rfl))
 f166:=Tryz.func88.trans (congrArg some (by kernel_rfl))
 f169:=Tryz.func33.trans (congrArg some (by kernel_rfl))
 f240:=Tryz.func160.trans (congrArg some (by kernel_rfl))
 f241:=Tryz.func249.trans (congrArg some (by kernel_rfl))
 f276:=Tryz.func198.trans (congrArg some (by kernel_rfl))
 f277:=Tryz.func253.trans (congrArg some (by kernel_rfl))
 t0:=Tryz.underlying0
 a0:=Tryz.isAgg0
 z0:=Tryz.sizeOf0
 v0:=Tryz.zeroValue0
 t3:=Tryz.underlying3
 a3:=Tryz.isAgg3
 z3:=Tryz.sizeOf3
 v3:=Tryz.zeroValue3
 t4:=Tryz.underlying4
 a4:=Tryz.isAgg4
 z4:=Tryz.sizeOf4
 v4:=Tryz.zeroValue4
 t9:=Tryz.underlying9
 a9:=Tryz.isAgg9
 z9:=Tryz.sizeOf9
 v9:=Tryz.zeroValue9
 t20:=Tryz.underlying20
 a20:=Tryz.isAgg20
 z20:=Tryz.sizeOf20
 v20:=Tryz.zeroValue20
 t31:=Tryz.underlying120
 a31:=Tryz.isAgg120
 z31:=Tryz.sizeOf120
 v31:=Tryz.zeroValue120
 t37:=Tryz.underlying63
 a37:=Tryz.isAgg63
 z37:=Tryz.sizeOf63
 v37:=Tryz.zeroValue63
 t70:=Tryz.underlying62
 a70:=Tryz.isAgg62
 z70:=Tryz.sizeOf62
 v70:=Tryz.zeroValue62
 t72:=Tryz.underlying65
 a72:=Tryz.isAgg65
 z72:=Tryz.sizeOf65
 v72:=Tryz.zeroValue65
 t75:=Tryz.underlying150
 a75:=Tryz.isAgg150
 z75:=Tryz.sizeOf150
 v75:=Tryz.zeroValue150
 t76:=Tryz.underlying151
 a76:=Tryz.isAgg151
 z76:=Tryz.sizeOf151
 v76:=Tryz.zeroValue151
 t127:=Tryz.underlying154
 a127:=Tryz.isAgg154
 z127:=Tryz.sizeOf154
 v127:=Tryz.zeroValue154
 t164:=Tryz.underlying236
 a164:=Tryz.isAgg236
 z164:=Tryz.sizeOf236
 v164:=Tryz.zeroValue236 }
theorem Tryz.Builder_Extra_156:Builder.Extra Tryz.prog Tryz.lays156_ren:={
 sizeBuilder:=by kernel_rfl
 liesBuilder:=by kernel_rfl
 t5:=Tryz.underlying5
 a5:=Tryz.isAgg5
 z5:=Tryz.sizeOf5
 v5:=Tryz.zeroValue5
 infoByte:=by kernel_rfl
 cellsByte:=by kernel_rfl
 sizeByte:=by kernel_rfl
 neB5:=by decide }
open Go.RowKit in
theorem Tryz.strings_Join (bk o c:Nat) (xs:List ByteArray) (sep:ByteArray) (w:World) (hcells:∀(j:Nat) x,xs[j]?=some x→w.cell? ⟨bk,o+j,none⟩=some (.string x)) (hbk:bk<w.heap.size) (hN:xs.length≤140737488355328) (hcap:xs.length≤c) (hlen:(Lib.join (xs.map (·.data.toList)) sep.data.toList).length≤140737488355328) :
  Calls Tryz.prog 239 #[.slice (some ⟨bk,o,none⟩) xs.length c,.string sep] w λe w'=>e=.returned (.string ⟨(Lib.join (xs.map (·.data.toList)) sep.data.toList).toArray⟩)∧Below w.heap.size w w':=Any.strings_Join Tryz.lays156 Tryz.Builder_Extra_156 bk o c xs sep w hcells hbk hN hcap hlen
def Tryz.lays161_ren:Go.Shelf.Ren:=⟨fun|161=>243|231=>151|227=>153|233=>154|235=>156|228=>194|197=>195|151=>196|260=>222|152=>223|137=>163|119=>233|224=>234|225=>235|217=>200|266=>225|n=>n,fun|9=>9|4=>4|3=>3|5=>5|117=>204|116=>203|0=>0|124=>207|105=>233|21=>21|119=>239|46=>210|139=>242|138=>241|n=>n,fun|3=>0|4=>1|n=>n⟩
theorem Tryz.lays161:Go.Proofs.Lays.n161 Tryz.prog Tryz.lays161_ren:={
 mixed:=by kernel_rfl
 f119:=Tryz.func233.trans (congrArg some (by kernel_rfl))
 f137:=Tryz.func163.trans (congrArg some (by kernel_rfl))
 f151:=Tryz.func196.trans (congrArg some (by kernel_rfl))
 f152:=Tryz.func223.trans (congrArg some (by kernel_rfl))
 f161:=Tryz.func243.trans (congrArg some (by kernel_rfl))
 f197:=Tryz.func195.trans (congrArg some (by kernel_rfl))
 f217:=Tryz.func200.trans (congrArg some (by kernel_rfl))
 f224:=Tryz.func234.trans (congrArg some (by kernel_rfl))
 f225:=Tryz.func235.trans (congrArg some (by kernel_rfl))
 f227:=Tryz.func153.trans (congrArg some (by kernel_rfl))
 f228:=Tryz.func194.trans (congrArg some (by kernel_rfl))
 f231:=Tryz.func151.trans (congrArg some (by kernel_rfl))
 f233:=Tryz.func154.trans (congrArg some (by kernel_rfl))
 f235:=Tryz.func156.trans (congrArg some (by kernel_rfl))
 f260:=Tryz.func222.trans (congrArg some (by kernel_rfl))
 f266:=Tryz.func225.trans (congrArg some (by kernel_rfl))
 t0:=Tryz.underlying0
 a0:=Tryz.isAgg0
 z0:=Tryz.sizeOf0
 v0:=Tryz.zeroValue0
 t3:=Tryz.underlying3
 a3:=Tryz.isAgg3
 z3:=Tryz.sizeOf3
 v3:=Tryz.zeroValue3
 t4:=Tryz.underlying4
 a4:=Tryz.isAgg4
 z4:=Tryz.sizeOf4
 v4:=Tryz.zeroValue4
 t5:=Tryz.underlying5
 a5:=Tryz.isAgg5
 z5:=Tryz.sizeOf5
 v5:=Tryz.zeroValue5
 t9:=Tryz.underlying9
 a9:=Tryz.isAgg9
 z9:=Tryz.sizeOf9
 v9:=Tryz.zeroValue9
 t21:=Tryz.underlying21
 a21:=Tryz.isAgg21
 z21:=Tryz.sizeOf21
 v21:=Tryz.zeroValue21
 t46:=Tryz.underlying210
 a46:=Tryz.isAgg210
 z46:=Tryz.sizeOf210
 v46:=Tryz.zeroValue210
 t105:=Tryz.underlying233
 a105:=Tryz.isAgg233
 z105:=Tryz.sizeOf233
 v105:=Tryz.zeroValue233
 t116:=Tryz.underlying203
 a116:=Tryz.isAgg203
 z116:=Tryz.sizeOf203
 t117:=Tryz.underlying204
 a117:=Tryz.isAgg204
 z117:=Tryz.sizeOf204
 v117:=Tryz.zeroValue204
 t119:=Tryz.underlying239
 a119:=Tryz.isAgg239
 z119:=Tryz.sizeOf239
 t124:=Tryz.underlying207
 a124:=Tryz.isAgg207
 z124:=Tryz.sizeOf207
 v124:=Tryz.zeroValue207
 t138:=Tryz.underlying241
 a138:=Tryz.isAgg241
 z138:=Tryz.sizeOf241
 v138:=Tryz.zeroValue241
 t139:=Tryz.underlying242
 a139:=Tryz.isAgg242
 z139:=Tryz.sizeOf242
 v139:=Tryz.zeroValue242
 g3:=by kernel_rfl
 g4:=by kernel_rfl }
def Tryz.lays137_ren:Go.Shelf.Ren:=⟨fun|137=>163|217=>200|266=>225|n=>n,fun|9=>9|5=>5|3=>3|n=>n,fun|n=>n⟩
theorem Tryz.lays137:Go.Proofs.Lays.n137 Tryz.prog Tryz.lays137_ren:={
 mixed:=by kernel_rfl
 f137:=Tryz.func163.trans (congrArg some (by kernel_rfl))
 f217:=Tryz.func200.trans (congrArg some (by kernel_rfl))
 f266:=Tryz.func225.trans (congrArg some (by kernel_rfl))
 t3:=Tryz.underlying3
 a3:=Tryz.isAgg3
 z3:=Tryz.sizeOf3
 v3:=Tryz.zeroValue3
 t5:=Tryz.underlying5
 a5:=Tryz.isAgg5
 z5:=Tryz.sizeOf5
 v5:=Tryz.zeroValue5
 t9:=Tryz.underlying9
 a9:=Tryz.isAgg9
 z9:=Tryz.sizeOf9
 v9:=Tryz.zeroValue9 }
open Go.RowKit in
theorem Tryz.strings_IndexByte (s:ByteArray) (c:Int) (w:World) :
  Calls Tryz.prog 163 #[.string s,.int .u8 c] w λe w'=>e=.returned (.int .i64 (Lib.indexByte s.data.toList c.toNat.toUInt8))∧w'=w:=Any.strings_IndexByte Tryz.lays137 s c w
open Go.RowKit in
theorem Tryz.Builder_String_any_k (B b:Nat) (l:List UInt8) (w:World) (h:Lib.IsBuilderF 65 5 B b (Lib.byteCells l) w) (hBw:B≤w.heap.size) :
  Calls Tryz.prog 33 #[.pointer (some ⟨b,0,none⟩)] w λe w'=>e=.returned (.string ⟨l.toArray⟩)∧(Lib.IsBuilderF 65 5 B b (Lib.byteCells l) w'∧Below B w w'∧Lib.OthersKept 5 (some b) w w'):=Any.Builder_String_any_k Tryz.lays169 Tryz.Builder_Extra_169 B b l w h hBw
def Tryz.lays242_ren:Go.Shelf.Ren:=⟨fun|242=>240|278=>245|n=>n,fun|37=>63|21=>21|51=>269|4=>4|5=>5|46=>210|n=>n,fun|n=>n⟩
theorem Tryz.lays242:Go.Proofs.Lays.n242 Tryz.prog Tryz.lays242_ren:={
 mixed:=by kernel_rfl
 f242:=Tryz.func240.trans (congrArg some (by kernel_rfl))
 f278:=Tryz.func245.trans (congrArg some (by kernel_rfl))
 t4:=Tryz.underlying4
 a4:=Tryz.isAgg4
 z4:=Tryz.sizeOf4
 v4:=Tryz.zeroValue4
 t5:=Tryz.underlying5
 a5:=Tryz.isAgg5
 z5:=Tryz.sizeOf5
 v5:=Tryz.zeroValue5
 t21:=Tryz.underlying21
 a21:=Tryz.isAgg21
 z21:=Tryz.sizeOf21
 v21:=Tryz.zeroValue21
 t37:=Tryz.underlying63
 a37:=Tryz.isAgg63
 z37:=Tryz.sizeOf63
 v37:=Tryz.zeroValue63
 t46:=Tryz.underlying210
 a46:=Tryz.isAgg210
 z46:=Tryz.sizeOf210
 v46:=Tryz.zeroValue210
 t51:=Tryz.underlying269
 a51:=Tryz.isAgg269
 z51:=Tryz.sizeOf269
 v51:=Tryz.zeroValue269 }
open Go.RowKit in
theorem Tryz.utf8_AppendRune_row (B:Nat) (v:Value) (n:Nat) (xs:List Value) (r:Int) (hr0:-2147483648≤r) (hr1:r≤2147483647) (w:World) (hown:w.ownsRowF B 5 1 v n xs) (hlen:n+4≤140737488355328) (hBw:B≤w.heap.size) :
  Calls Tryz.prog 240 #[v,.int .i32 r] w λe w'=>∃v',e=.returned v'∧w'.ownsRowF B 5 1 v' (n+(Lib.runeCells r).length) (xs++Lib.runeCells r)∧∃o,(w.alloc o).grownBy w' v.ownBlock:=Any.utf8_AppendRune_row Tryz.lays242 (by kernel_rfl) B v n xs r hr0 hr1 w hown hlen hBw
def Tryz.lays99_ren:Go.Shelf.Ren:=⟨fun|99=>201|206=>192|n=>n,fun|9=>9|4=>4|3=>3|n=>n,fun|n=>n⟩
theorem Tryz.lays99:Go.Proofs.Lays.n99 Tryz.prog Tryz.lays99_ren:={
 mixed:=by kernel_rfl
 f99:=Tryz.func201.trans (congrArg some (by kernel_rfl))
 f206:=Tryz.func192.trans (congrArg some (by kernel_rfl))
 t3:=Tryz.underlying3
 a3:=Tryz.isAgg3
 z3:=Tryz.sizeOf3
 v3:=Tryz.zeroValue3
 t4:=Tryz.underlying4
 a4:=Tryz.isAgg4
 z4:=Tryz.sizeOf4
 v4:=Tryz.zeroValue4
 t9:=Tryz.underlying9
 a9:=Tryz.isAgg9
 z9:=Tryz.sizeOf9
 v9:=Tryz.zeroValue9 }
open Go.RowKit Go.Lib in
theorem Tryz.strings_HasPrefix (s p:ByteArray) (w:World) :
  Calls Tryz.prog 201 #[.string s,.string p] w λe w'=>e=.returned (.bool (Lib.hasPrefix s.data.toList p.data.toList))∧w'=w:=Any.strings_HasPrefix Tryz.lays99 s p w
def Tryz.lays146_ren:Go.Shelf.Ren:=⟨fun|146=>236|221=>241|268=>246|138=>247|143=>248|195=>250|197=>195|218=>251|219=>252|260=>222|217=>200|225=>235|224=>234|267=>254|266=>225|314=>255|n=>n,fun|9=>9|31=>120|3=>3|4=>4|0=>0|105=>233|21=>21|5=>5|46=>210|119=>239|139=>242|138=>241|146=>272|51=>269|n=>n,fun|1=>2|3=>0|4=>1|n=>n⟩
theorem Tryz.lays146:Go.Proofs.Lays.n146 Tryz.prog Tryz.lays146_ren:={
 mixed:=by kernel_rfl
 f138:=Tryz.func247.trans (congrArg some (by kernel_rfl))
 f143:=Tryz.func248.trans (congrArg some (by kernel_rfl))
 f146:=Tryz.func236.trans (congrArg some (by kernel_rfl))
 f195:=Tryz.func250.trans (congrArg some (by kernel_rfl))
 f197:=Tryz.func195.trans (congrArg some (by kernel_rfl))
 f217:=Tryz.func200.trans (congrArg some (by kernel_rfl))
 f218:=Tryz.func251.trans (congrArg some (by kernel_rfl))
 f219:=Tryz.func252.trans (congrArg some (by kernel_rfl))
 f221:=Tryz.func241.trans (congrArg some (by kernel_rfl))
 f224:=Tryz.func234.trans (congrArg some (by kernel_rfl))
 f225:=Tryz.func235.trans (congrArg some (by kernel_rfl))
 f260:=Tryz.func222.trans (congrArg some (by kernel_rfl))
 f266:=Tryz.func225.trans (congrArg some (by kernel_rfl))
 f267:=Tryz.func254.trans (congrArg some (by kernel_rfl))
 f268:=Tryz.func246.trans (congrArg some (by kernel_rfl))
 f314:=Tryz.func255.trans (congrArg some (by kernel_rfl))
 t0:=Tryz.underlying0
 a0:=Tryz.isAgg0
 z0:=Tryz.sizeOf0
 v0:=Tryz.zeroValue0
 t3:=Tryz.underlying3
 a3:=Tryz.isAgg3
 z3:=Tryz.sizeOf3
 v3:=Tryz.zeroValue3
 t4:=Tryz.underlying4
 a4:=Tryz.isAgg4
 z4:=Tryz.sizeOf4
 v4:=Tryz.zeroValue4
 t5:=Tryz.underlying5
 a5:=Tryz.isAgg5
 z5:=Tryz.sizeOf5
 v5:=Tryz.zeroValue5
 t9:=Tryz.underlying9
 a9:=Tryz.isAgg9
 z9:=Tryz.sizeOf9
 v9:=Tryz.zeroValue9
 t21:=Tryz.underlying21
 a21:=Tryz.isAgg21
 z21:=Tryz.sizeOf21
 v21:=Tryz.zeroValue21
 t31:=Tryz.underlying120
 a31:=Tryz.isAgg120
 z31:=Tryz.sizeOf120
 v31:=Tryz.zeroValue120
 t46:=Tryz.underlying210
 a46:=Tryz.isAgg210
 z46:=Tryz.sizeOf210
 v46:=Tryz.zeroValue210
 t51:=Tryz.underlying269
 a51:=Tryz.isAgg269
 z51:=Tryz.sizeOf269
 v51:=Tryz.zeroValue269
 t105:=Tryz.underlying233
 a105:=Tryz.isAgg233
 z105:=Tryz.sizeOf233
 v105:=Tryz.zeroValue233
 t119:=Tryz.underlying239
 a119:=Tryz.isAgg239
 z119:=Tryz.sizeOf239
 t138:=Tryz.underlying241
 a138:=Tryz.isAgg241
 z138:=Tryz.sizeOf241
 v138:=Tryz.zeroValue241
 t139:=Tryz.underlying242
 a139:=Tryz.isAgg242
 z139:=Tryz.sizeOf242
 v139:=Tryz.zeroValue242
 t146:=Tryz.underlying272
 a146:=Tryz.isAgg272
 z146:=Tryz.sizeOf272
 v146:=Tryz.zeroValue272
 g1:=by kernel_rfl
 g3:=by kernel_rfl
 g4:=by kernel_rfl }
open Go.RowKit Go.Lib in
theorem Tryz.strings_Split (s sep:ByteArray) (m:Int) (w:World) (hs:s.size<4294967281) (hm:w.cell? ⟨2,0,none⟩=some (.int .i64 m)) (h1:1≤sep.size) :
  Calls Tryz.prog 236 #[.string s,.string sep] w λe w' =>
   e=.returned (.slice (some ⟨w.heap.size,0,none⟩) (Lib.countB s sep+1) (Lib.countB s sep+1))∧w'=w.alloc (.cells ((Lib.splitB sep 0 (Lib.countB s sep) s).map Value.string).toArray 9):=Any.strings_Split Tryz.lays146 (by kernel_rfl) s sep m w hs hm h1
def Tryz.lays155_ren:Go.Shelf.Ren:=⟨fun|155=>237|154=>242|138=>247|165=>244|143=>248|166=>88|197=>195|169=>33|195=>250|218=>251|240=>160|241=>249|219=>252|260=>222|276=>198|277=>253|217=>200|225=>235|224=>234|267=>254|266=>225|314=>255|n=>n,fun|9=>9|3=>3|4=>4|72=>65|0=>0|76=>151|105=>233|21=>21|5=>5|70=>62|20=>20|37=>63|75=>150|127=>154|164=>236|46=>210|119=>239|139=>242|138=>241|146=>272|51=>269|80=>69|n=>n,fun|1=>2|3=>0|4=>1|n=>n⟩
theorem Tryz.lays155:Go.Proofs.Lays.n155 Tryz.prog Tryz.lays155_ren:={
 mixed:=by kernel_rfl
 f138:=Tryz.func247.trans (congrArg some (by kernel_rfl))
 f143:=Tryz.func248.trans (congrArg some (by kernel_rfl))
 f154:=Tryz.func242.trans (congrArg some (by kernel_rfl))
 f155:=Tryz.func237.trans (congrArg some (by kernel_rfl))
 f165:=Tryz.func244.trans (congrArg some (by kernel_rfl))
 f166:=Tryz.func88.trans (congrArg some (by kernel_rfl))
 f169:=Tryz.func33.trans (congrArg some (by kernel_rfl))
 f195:=Tryz.func250.trans (congrArg some (by kernel_rfl))
 f197:=Tryz.func195.trans (congrArg some (by kernel_rfl))
 f217:=Tryz.func200.trans (congrArg some (by kernel_rfl))
 f218:=Tryz.func251.trans (congrArg some (by kernel_rfl))
 f219:=Tryz.func252.trans (congrArg some (by kernel_rfl))
 f224:=Tryz.func234.trans (congrArg some (by kernel_rfl))
 f225:=Tryz.func235.trans (congrArg some (by kernel_rfl))
 f240:=Tryz.func160.trans (congrArg some (by kernel_rfl))
 f241:=Tryz.func249.trans (congrArg some (by kernel_rfl))
 f260:=Tryz.func222.trans (congrArg some (by kernel_rfl))
 f266:=Tryz.func225.trans (congrArg some (by kernel_rfl))
 f267:=Tryz.func254.trans (congrArg some (by kernel_rfl))
 f276:=Tryz.func198.trans (congrArg some (by kernel_rfl))
 f277:=Tryz.func253.trans (congrArg some (by kernel_rfl))
 f314:=Tryz.func255.trans (congrArg some (by kernel_rfl))
 t0:=Tryz.underlying0
 a0:=Tryz.isAgg0
 z0:=Tryz.sizeOf0
 v0:=Tryz.zeroValue0
 t3:=Tryz.underlying3
 a3:=Tryz.isAgg3
 z3:=Tryz.sizeOf3
 v3:=Tryz.zeroValue3
 t4:=Tryz.underlying4
 a4:=Tryz.isAgg4
 z4:=Tryz.sizeOf4
 v4:=Tryz.zeroValue4
 t5:=Tryz.underlying5
 a5:=Tryz.isAgg5
 z5:=Tryz.sizeOf5
 v5:=Tryz.zeroValue5
 t9:=Tryz.underlying9
 a9:=Tryz.isAgg9
 z9:=Tryz.sizeOf9
 v9:=Tryz.zeroValue9
 t20:=Tryz.underlying20
 a20:=Tryz.isAgg20
 z20:=Tryz.sizeOf20
 v20:=Tryz.zeroValue20
 t21:=Tryz.underlying21
 a21:=Tryz.isAgg21
 z21:=Tryz.sizeOf21
 v21:=Tryz.zeroValue21
 t37:=Tryz.underlying63
 a37:=Tryz.isAgg63
 z37:=Tryz.sizeOf63
 v37:=Tryz.zeroValue63
 t46:=Tryz.underlying210
 a46:=Tryz.isAgg210
 z46:=Tryz.sizeOf210
 v46:=Tryz.zeroValue210
 t51:=Tryz.underlying269
 a51:=Tryz.isAgg269
 z51:=Tryz.sizeOf269
 v51:=Tryz.zeroValue269
 t70:=Tryz.underlying62
 a70:=Tryz.isAgg62
 z70:=Tryz.sizeOf62
 v70:=Tryz.zeroValue62
 t72:=Tryz.underlying65
 a72:=Tryz.isAgg65
 z72:=Tryz.sizeOf65
 v72:=Tryz.zeroValue65
 t75:=Tryz.underlying150
 a75:=Tryz.isAgg150
 z75:=Tryz.sizeOf150
 v75:=Tryz.zeroValue150
 t76:=Tryz.underlying151
 a76:=Tryz.isAgg151
 z76:=Tryz.sizeOf151
 v76:=Tryz.zeroValue151
 t105:=Tryz.underlying233
 a105:=Tryz.isAgg233
 z105:=Tryz.sizeOf233
 v105:=Tryz.zeroValue233
 t119:=Tryz.underlying239
 a119:=Tryz.isAgg239
 z119:=Tryz.sizeOf239
 t127:=Tryz.underlying154
 a127:=Tryz.isAgg154
 z127:=Tryz.sizeOf154
 v127:=Tryz.zeroValue154
 t138:=Tryz.underlying241
 a138:=Tryz.isAgg241
 z138:=Tryz.sizeOf241
 v138:=Tryz.zeroValue241
 t139:=Tryz.underlying242
 a139:=Tryz.isAgg242
 z139:=Tryz.sizeOf242
 v139:=Tryz.zeroValue242
 t146:=Tryz.underlying272
 a146:=Tryz.isAgg272
 z146:=Tryz.sizeOf272
 v146:=Tryz.zeroValue272
 t164:=Tryz.underlying236
 a164:=Tryz.isAgg236
 z164:=Tryz.sizeOf236
 v164:=Tryz.zeroValue236
 g1:=by kernel_rfl
 g3:=by kernel_rfl
 g4:=by kernel_rfl }
theorem Tryz.Builder_Extra_155:Builder.Extra Tryz.prog Tryz.lays155_ren:={
 sizeBuilder:=by kernel_rfl
 liesBuilder:=by kernel_rfl
 t5:=Tryz.underlying5
 a5:=Tryz.isAgg5
 z5:=Tryz.sizeOf5
 v5:=Tryz.zeroValue5
 infoByte:=by kernel_rfl
 cellsByte:=by kernel_rfl
 sizeByte:=by kernel_rfl
 neB5:=by decide }
open Go.RowKit Go.Lib in
theorem Tryz.strings_ReplaceAll (s old new:ByteArray) (m:Int) (w:World) (hs:s.size<4294967281) (hm:w.cell? ⟨2,0,none⟩=some (.int .i64 m)) (h1:1≤old.size) (hlen:s.size+Lib.countB s old*new.size≤140737488355328) :
  Calls Tryz.prog 237 #[.string s,.string old,.string new] w λe w' =>
   e=.returned (.string ⟨(Lib.replaceAll s.data.toList old.data.toList new.data.toList).toArray⟩)∧Below w.heap.size w w':=Any.strings_ReplaceAll Tryz.lays155 Tryz.Builder_Extra_155 s old new m w hs hm h1 hlen
def Tryz.lays197_ren:Go.Shelf.Ren:=⟨fun|197=>195|260=>222|n=>n,fun|9=>9|21=>21|3=>3|4=>4|5=>5|105=>233|119=>239|0=>0|46=>210|139=>242|138=>241|n=>n,fun|3=>0|4=>1|n=>n⟩
theorem Tryz.lays197:Go.Proofs.Lays.n197 Tryz.prog Tryz.lays197_ren:={
 mixed:=by kernel_rfl
 f197:=Tryz.func195.trans (congrArg some (by kernel_rfl))
 f260:=Tryz.func222.trans (congrArg some (by kernel_rfl))
 t0:=Tryz.underlying0
 a0:=Tryz.isAgg0
 z0:=Tryz.sizeOf0
 v0:=Tryz.zeroValue0
 t3:=Tryz.underlying3
 a3:=Tryz.isAgg3
 z3:=Tryz.sizeOf3
 v3:=Tryz.zeroValue3
 t4:=Tryz.underlying4
 a4:=Tryz.isAgg4
 z4:=Tryz.sizeOf4
 v4:=Tryz.zeroValue4
 t5:=Tryz.underlying5
 a5:=Tryz.isAgg5
 z5:=Tryz.sizeOf5
 v5:=Tryz.zeroValue5
 t9:=Tryz.underlying9
 a9:=Tryz.isAgg9
 z9:=Tryz.sizeOf9
 v9:=Tryz.zeroValue9
 t21:=Tryz.underlying21
 a21:=Tryz.isAgg21
 z21:=Tryz.sizeOf21
 v21:=Tryz.zeroValue21
 t46:=Tryz.underlying210
 a46:=Tryz.isAgg210
 z46:=Tryz.sizeOf210
 v46:=Tryz.zeroValue210
 t105:=Tryz.underlying233
 a105:=Tryz.isAgg233
 z105:=Tryz.sizeOf233
 v105:=Tryz.zeroValue233
 t119:=Tryz.underlying239
 a119:=Tryz.isAgg239
 z119:=Tryz.sizeOf239
 t138:=Tryz.underlying241
 a138:=Tryz.isAgg241
 z138:=Tryz.sizeOf241
 v138:=Tryz.zeroValue241
 t139:=Tryz.underlying242
 a139:=Tryz.isAgg242
 z139:=Tryz.sizeOf242
 v139:=Tryz.zeroValue242
 g3:=by kernel_rfl
 g4:=by kernel_rfl }
def Tryz.lays260_ren:Go.Shelf.Ren:=⟨fun|260=>222|n=>n,fun|9=>9|21=>21|3=>3|4=>4|5=>5|119=>239|0=>0|46=>210|139=>242|138=>241|n=>n,fun|3=>0|4=>1|n=>n⟩
theorem Tryz.lays260:Go.Proofs.Lays.n260 Tryz.prog Tryz.lays260_ren:={
 mixed:=by kernel_rfl
 f260:=Tryz.func222.trans (congrArg some (by kernel_rfl))
 t0:=Tryz.underlying0
 a0:=Tryz.isAgg0
 z0:=Tryz.sizeOf0
 v0:=Tryz.zeroValue0
 t3:=Tryz.underlying3
 a3:=Tryz.isAgg3
 z3:=Tryz.sizeOf3
 v3:=Tryz.zeroValue3
 t4:=Tryz.underlying4
 a4:=Tryz.isAgg4
 z4:=Tryz.sizeOf4
 v4:=Tryz.zeroValue4
 t5:=Tryz.underlying5
 a5:=Tryz.isAgg5
 z5:=Tryz.sizeOf5
 v5:=Tryz.zeroValue5
 t9:=Tryz.underlying9
 a9:=Tryz.isAgg9
 z9:=Tryz.sizeOf9
 v9:=Tryz.zeroValue9
 t21:=Tryz.underlying21
 a21:=Tryz.isAgg21
 z21:=Tryz.sizeOf21
 v21:=Tryz.zeroValue21
 t46:=Tryz.underlying210
 a46:=Tryz.isAgg210
 z46:=Tryz.sizeOf210
 v46:=Tryz.zeroValue210
 t119:=Tryz.underlying239
 a119:=Tryz.isAgg239
 z119:=Tryz.sizeOf239
 t138:=Tryz.underlying241
 a138:=Tryz.isAgg241
 z138:=Tryz.sizeOf241
 v138:=Tryz.zeroValue241
 t139:=Tryz.underlying242
 a139:=Tryz.isAgg242
 z139:=Tryz.sizeOf242
 v139:=Tryz.zeroValue242
 g3:=by kernel_rfl
 g4:=by kernel_rfl }
open Go.RowKit Go.Lib in
theorem Tryz.utf8_DecodeRuneInString (s:ByteArray) (w:World) (hT:Lib.Utf8Tabs 0 1 w) :
  Calls Tryz.prog 195 #[.string s] w λe w'=>e=.returned (.tuple #[.int .i32 (Lib.decodeGo s).1,.int .i64 (Lib.decodeGo s).2])∧Below w.heap.size w w':=Any.utf8_DecodeRuneInString Tryz.lays197 s w hT
def Tryz.lays109_ren:Go.Shelf.Ren:=⟨fun|109=>137|n=>n,fun|31=>120|9=>9|3=>3|0=>0|4=>4|n=>n,fun|n=>n⟩
theorem Tryz.lays109:Go.Proofs.Lays.n109 Tryz.prog Tryz.lays109_ren:={
 mixed:=by kernel_rfl
 f109:=Tryz.func137.trans (congrArg some (by kernel_rfl))
 t0:=Tryz.underlying0
 a0:=Tryz.isAgg0
 z0:=Tryz.sizeOf0
 v0:=Tryz.zeroValue0
 t3:=Tryz.underlying3
 a3:=Tryz.isAgg3
 z3:=Tryz.sizeOf3
 v3:=Tryz.zeroValue3
 t4:=Tryz.underlying4
 a4:=Tryz.isAgg4
 z4:=Tryz.sizeOf4
 v4:=Tryz.zeroValue4
 t9:=Tryz.underlying9
 a9:=Tryz.isAgg9
 z9:=Tryz.sizeOf9
 v9:=Tryz.zeroValue9
 t31:=Tryz.underlying120
 a31:=Tryz.isAgg120
 z31:=Tryz.sizeOf120
 v31:=Tryz.zeroValue120 }
open Go.Lib in
theorem Tryz.slices_Index_string (b off n c:Nat) (zs:List ByteArray) (x:ByteArray) (w:World) (hz:n≤zs.length) (hbig:n≤9223372036854775807) (hc:∀j,j<zs.length→w.cell? ⟨b,off+j,none⟩=some (.string (zs.getD j ByteArray.empty))) :
  Calls Tryz.prog 137 #[.slice (some ⟨b,off,none⟩) n c,.string x] w λe w'=>e=.returned (.int .i64 (Lib.idxOfS (zs.take n) x))∧w'=w:=Any.slices_Index_string Tryz.lays109 b off n c zs x w hz hbig hc
end Go.Proofs
