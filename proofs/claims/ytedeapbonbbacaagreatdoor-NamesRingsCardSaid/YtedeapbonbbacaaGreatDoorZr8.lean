/-
  Data in memory: trees of numbers, texts, structs and slices; rows that grow. A region that draws its order: a first phase, of operations below n, all of which the later ones wait for. What only reads may be taken first, if all of that phase keeps what it reads. (The kit's OrdersHeld, with the condition asked of the first phase alone.) A map from names to numbers in memory. Maps from names to numbers, plainly: what is put, what is found; what a walk has seen. Data that came in, of any type of numbers, texts, structs and slices: its cells hold a tree of that shape. A row that another row is put behind; data in rows. A row that begins within its block: its first is dropped, a row is put behind it. A ring's names, walked. Problems in memory; the document's list of them compared, walked.
-/
import Derived.Test.YtedeapbonbbacaaGreatDoorZr7
import Derived.OwnWalk
import Derived.OrdersHeld
import Derived.Maps.OwnSet
import Derived.Maps.AppendAt
import Derived.ChangeArms
import Derived.DataElems
import Derived.Laws.AppendOwnNone
import Derived.Test.YtedeapbonbbacaaGreatDoorZr2
import Derived.Laws.BytesString
import Derived.Test.YtedeapbonbbacaaGreatDoorZr1
import Derived.Laws.StructEq
import Derived.Deep.LoopGhost
open Go.Lib renaming hid → QA
open List renaming take_succ_cons → QF, drop_zero → QL, take_zero → QN, length_append → QS, length_map → QV, append_assoc → ZF, getElem?_eq_getElem → ZH, append_nil → ZN, map_cons → ZQ, eq_nil_of_length_eq_zero → ZX
open Nat renaming le_refl → QM, lt_or_ge → ZV
namespace Go.Proofs.YtedeapbonbbacaaGreatDoor
set_option maxRecDepth 100000
set_option maxHeartbeats 4000000
set_option linter.unusedSimpArgs false
set_option linter.unusedVariables false
open Go Go.RowKit
inductive D where
 | int (n:Int)
 | str (s:List UInt8)
 | bool (b:Bool)
 | obj (fs:List D)
 | seq (k:Nat) (xs:List D)
deriving Inhabited
mutual
inductive Reads (w:World) (P:Nat→Prop):D→List Value→Prop
 | int (n:Int):Reads w P (.int n) [.int .i64 n]
 | str (s:List UInt8):Reads w P (.str s) [.string ⟨s.toArray⟩]
 | bool (b:Bool):Reads w P (.bool b) [.bool b]
 | obj {fs:List D} {cs:List Value}:Af w P fs cs→Reads w P (.obj fs) cs
 | seq {k:Nat} {xs:List D} {a:Option Addr} {cap:Nat}:A5 w P k a 0 xs→Reads w P (.seq k xs) [.slice a xs.length cap]
inductive Af (w:World) (P:Nat→Prop):List D→List Value→Prop
 | nil:Af w P [] []
 | cons {d:D} {ds:List D} {cs cs':List Value}:Reads w P d cs→Af w P ds cs'→Af w P (d::ds) (cs++cs')
inductive A5 (w:World) (P:Nat→Prop):Nat→Option Addr→Nat→List D→Prop
 | nil {k:Nat} {a:Option Addr} {i:Nat}:A5 w P k a i []
 | cons {k:Nat} {a:Option Addr} {i g o:Nat} {d:D} {ds:List D} {cs:List Value}:a=some ⟨g,o,none⟩→P g→g<w.heap.size→cs.length=k →
   (∀(j:Nat) v,cs[j]?=some v→w.cell? ⟨g,o+i*k+j,none⟩=some v)→Reads w P d cs→A5 w P k a (i+1) ds→A5 w P k a i (d::ds)
end
structure AD (w:World) (P:Nat→Prop) (w':World) (Q:Nat→Prop):Prop where
 size:w.heap.size≤w'.heap.size
 block:∀g,g<w.heap.size→P g→Q g∧w'.heap[g]?=w.heap[g]?
mutual
theorem Reads.to {w w':World} {P Q:Nat→Prop} (hs:AD w P w' Q):∀{d:D} {cs:List Value},Reads w P d cs→Reads w' Q d cs
 | _,_,.int n=>.int n
 | _,_,.str s=>.str s
 | _,_,.bool b=>.bool b
 | _,_,.obj h=>.obj (Af.to hs h)
 | _,_,.seq h=>.seq (A5.to hs h)
theorem Af.to {w w':World} {P Q:Nat→Prop} (hs:AD w P w' Q):∀{ds:List D} {cs:List Value},Af w P ds cs→Af w' Q ds cs
 | _,_,.nil=>.nil
 | _,_,.cons h t=>.cons (Reads.to hs h) (Af.to hs t)
theorem A5.to {w w':World} {P Q:Nat→Prop} (hs:AD w P w' Q):∀{k:Nat} {a:Option Addr} {i:Nat} {ds:List D},A5 w P k a i ds→A5 w' Q k a i ds
 | _,_,_,_,.nil=>.nil
 | _,_,_,_,.cons e hP hg hl hc h t=>.cons e (hs.block _ hg hP).1 (Nat.lt_of_lt_of_le hg hs.size) hl (λj v hv=>by
   rw[World.cell?_of_block (w:=w) (hs.block _ hg hP).2];exact hc j v hv) (Reads.to hs h) (A5.to hs t)
end
mutual
theorem Reads.one {w:World} {P:Nat→Prop}:∀{d:D} {cs:List Value},Reads w P d cs→∀u∈cs,u.oneCell'=true
 | _,_,.int n=>λu hu=>by simp at hu;subst hu;rfl
 | _,_,.str s=>λu hu=>by simp at hu;subst hu;rfl
 | _,_,.bool b=>λu hu=>by simp at hu;subst hu;rfl
 | _,_,.obj h=>Af.one h
 | _,_,.seq h=>λu hu=>by simp at hu;subst hu;rfl
theorem Af.one {w:World} {P:Nat→Prop}:∀{ds:List D} {cs:List Value},Af w P ds cs→∀u∈cs,u.oneCell'=true
 | _,_,.nil=>λu hu=>by simp at hu
 | _,_,.cons h t=>λu hu=>by
  rcases List.mem_append.1 hu with hu|hu
  ·exact Reads.one h u hu
  ·exact Af.one t u hu
end
section
variable {w w' : World} {P Q : Nat → Prop}
theorem AD.refl (w:World) (P:Nat→Prop):AD w P w P:=⟨QM _,λ_ _ h=>⟨h,rfl⟩⟩
theorem AD.sub (w:World) (h:∀g,g<w.heap.size→P g→Q g):AD w P w Q:=⟨QM _,λg hg hp=>⟨h g hg hp,rfl⟩⟩
theorem AD.but {X:Nat→Prop} (h:But X w w') (hx:∀g,P g→¬X g):AD w P w' P:=⟨h.size,λg hg hp=>⟨hp,h.block g hg (hx g hp)⟩⟩
theorem AD.below (h:Below w.heap.size w w'):AD w P w' P:=⟨h.size,λg hg hp=>⟨hp,h.block g hg⟩⟩
theorem AD.trans {w2:World} {R:Nat→Prop} (h:AD w P w' Q) (k:AD w' Q w2 R):AD w P w2 R :=
 ⟨Nat.le_trans h.size k.size,λg hg hp=>by
  obtain⟨q,e⟩:=h.block g hg hp;obtain⟨r,f⟩:=k.block g (Nat.lt_of_lt_of_le hg h.size) q;exact⟨r,f.trans e⟩⟩
theorem AD.drewN (h:AD w P w' Q) (n:Nat):AD w P (w'.drewN n) Q:=⟨h.size,h.block⟩
theorem Reads.int_inv {n:Int} {cs:List Value} (h:Reads w P (.int n) cs):cs=[.int .i64 n]:=by cases h;rfl
theorem Reads.str_inv {s:List UInt8} {cs:List Value} (h:Reads w P (.str s) cs):cs=[.string ⟨s.toArray⟩]:=by cases h;rfl
theorem Reads.bool_inv {b:Bool} {cs:List Value} (h:Reads w P (.bool b) cs):cs=[.bool b]:=by cases h;rfl
theorem Reads.obj_inv {fs:List D} {cs:List Value} (h:Reads w P (.obj fs) cs):Af w P fs cs:=by cases h;assumption
theorem Reads.seq_inv {k:Nat} {xs:List D} {cs:List Value} (h:Reads w P (.seq k xs) cs):∃a cap,cs=[.slice a xs.length cap]∧A5 w P k a 0 xs:=by cases h;exact⟨_,_,rfl,by assumption⟩
theorem Af.nil_inv {cs:List Value} (h:Af w P [] cs):cs=[]:=by cases h;rfl
theorem Af.cons_inv {d:D} {ds:List D} {cs:List Value} (h:Af w P (d::ds) cs):∃c r,cs=c++r∧Reads w P d c∧Af w P ds r:=by cases h;exact⟨_,_,rfl,by assumption,by assumption⟩
theorem A5.at {k:Nat} {a:Option Addr}:∀{i:Nat} {ds:List D},A5 w P k a i ds→∀(j:Nat) (d:D),ds[j]?=some d →
  ∃g o cs,a=some ⟨g,o,none⟩∧P g∧g<w.heap.size∧cs.length=k∧(∀(q:Nat) v,cs[q]?=some v→w.cell? ⟨g,o+(i+j)*k+q,none⟩=some v)∧Reads w P d cs
 | _,_,.nil,j,d,h=>by simp at h
 | i,_::_,.cons e hP hg hl hc h t,0,d,hd=>by
  simp at hd;subst hd;exact⟨_,_,_,e,hP,hg,hl,hc,h⟩
 | i,_::ds,.cons e hP hg hl hc h t,j+1,d,hd=>by
  have:=A5.at t j d (by simpa using hd);rw[show i+1+j=i+(j+1) by omega]at this;exact this
end
inductive AZ (w:World) (P:Nat→Prop) (k:Nat):List D→List Value→Prop
 | nil:AZ w P k [] []
 | cons {d:D} {ds:List D} {cs cs':List Value}:Reads w P d cs→cs.length=k→AZ w P k ds cs'→AZ w P k (d::ds) (cs++cs')
section
variable {w w' : World} {P Q : Nat → Prop} {k : Nat}
theorem AZ.to (hs:AD w P w' Q):∀{ds:List D} {cs:List Value},AZ w P k ds cs→AZ w' Q k ds cs
 | _,_,.nil=>.nil
 | _,_,.cons h hl t=>.cons (h.to hs) hl (t.to hs)
theorem AZ.len:∀{ds:List D} {cs:List Value},AZ w P k ds cs→cs.length=ds.length*k
 | _,_,.nil=>by simp
 | _,_,.cons h hl t=>by rw[QS,t.len,hl,List.length_cons,Nat.succ_mul];omega
theorem AZ.snoc:∀{ds:List D} {cs:List Value},AZ w P k ds cs→∀{d:D} {c:List Value},Reads w P d c→c.length=k→AZ w P k (ds++[d]) (cs++c)
 | _,_,.nil,d,c,h,hl=>by
  have:=AZ.cons h hl .nil
  rwa [ZN]at this
 | _,_,.cons h0 hl0 t,d,c,h,hl=>by
  rw[List.cons_append,ZF];exact .cons h0 hl0 (t.snoc h hl)
theorem AZ.seqAt {g:Nat} (hP:P g) (hg:g<w.heap.size):∀{ds:List D} {cs:List Value},AZ w P k ds cs→∀(i:Nat),(∀(j:Nat) v,cs[j]?=some v→w.cell? ⟨g,i*k+j,none⟩=some v)→A5 w P k (some ⟨g,0,none⟩) i ds
 | _,_,.nil,i,hc=>.nil
 | _,_,.cons (cs:=c) (cs':=c') h hl t,i,hc=>by
  refine .cons rfl hP hg hl (λj v hv=>?_) h (t.seqAt hP hg (i+1) (λj v hv=>?_))
  ·rw[Nat.zero_add];have o:=(List.getElem?_eq_some_iff.1 hv).1;exact hc j v (by rw[List.getElem?_append_left o];exact hv)
  ·have:=hc (k+j) v (by rw[List.getElem?_append_right (by omega),show k+j-c.length=j by omega];exact hv);rw[show (i+1)*k+j=i*k+(k+j) by rw[Nat.succ_mul];omega];exact this
end
theorem CU (g k:Nat):(⟨g,0,none⟩:Addr).add k=⟨g,k,none⟩:=by
 by_cases h:k=0
 ·subst h;simp[Addr.add]
 ·simp[Addr.add,h]
theorem block_lt {w:World} {k:Nat} {o:Obj} (h:w.heap[k]?=some o):k<w.heap.size:=by
 rcases ZV k w.heap.size with h'|h'
 ·exact h'
 ·simp[Array.getElem?_eq_none h']at h
theorem AC (w:World) (o:Obj):(w.alloc o).heap[w.heap.size]?=some o:=by
 show (w.heap.push _)[w.heap.size]?=_;simp
theorem AK (w:World) (cs:Array Value) (T:TypeId) (fz:Nat×Nat) (k:Nat) (v:Value) (h:cs[k]?=some v):(w.alloc (.cells cs T fz)).cell? ⟨w.heap.size,k,none⟩=some v:=by
 unfold World.cell?;rw[AC];exact h
theorem Bq (w:World) (cs:Array Value) (T:TypeId) (k:Nat):(w.alloc (.cells cs T (0,0))).frozen? ⟨w.heap.size,k,none⟩=false:=by
 unfold World.frozen?;rw[AC];simp
structure AY (w:World) (P:Nat→Prop) (base:Nat) (T:TypeId) (k:Nat) (v:Value) (xs:List D):Prop where
 row:∃cs,w.ownsRow base T k v xs.length cs∧AZ w P k xs cs
 apart:∀g,v.ownBlock=some g→¬P g
section
variable {w w' : World} {P Q : Nat → Prop} {base k : Nat} {T : TypeId} {v v' : Value} {xs : List D}
theorem AY.nil (w:World) (P:Nat→Prop) (base:Nat) (T:TypeId) (k:Nat):AY w P base T k (.slice none 0 0) [] :=
 ⟨⟨[],World.ownsRow_nil _ _ _ _,.nil⟩,λg hg=>by simp[Value.ownBlock]at hg⟩
theorem BG {cs:List Value} {n:Nat} (h:w.ownsRow base T k v n cs) (hb:∀g,v.ownBlock=some g→w'.heap[g]?=w.heap[g]?):w'.ownsRow base T k v n cs:=by
 refine⟨h.1,?_⟩;rcases h.2 with h2|⟨g,cap,cur,hv,hg,hc,h3⟩
 ·exact .inl h2
 ·refine .inr ⟨g,cap,cur,hv,hg,?_,h3⟩;rw[hb g (by rw[hv];rfl)];exact hc
theorem AY.to (h:AY w P base T k v xs) (hs:AD w P w' Q) (hb:∀g,v.ownBlock=some g→¬Q g∧w'.heap[g]?=w.heap[g]?):AY w' Q base T k v xs:=by
 obtain⟨⟨B,o,A⟩,C⟩:=h;exact⟨⟨B,BG o (λg hg=>(hb g hg).2),A.to hs⟩,λg hg=>(hb g hg).1⟩
theorem AY.form (h:AY w P base T k v xs):∃a c,v=.slice a xs.length c:=by
 obtain⟨⟨C,o,A⟩,B⟩:=h;rcases o.2 with⟨h4,h5⟩|⟨g,cap,cur,hv,hg,hc,h6⟩
 ·exact⟨none,0,by rw[h5];exact h4⟩
 ·exact⟨_,_,hv⟩
theorem AY.lt (h:AY w P base T k v xs):∀g,v.ownBlock=some g→base≤g∧g<w.heap.size:=by
 obtain⟨⟨C,o,A⟩,B⟩:=h;exact o.lt
theorem AY.reads (h:AY w P base T k v xs):Reads w (λg=>P g∨v.ownBlock=some g) (.seq k xs) [v]:=by
 obtain⟨⟨D,o,B⟩,C⟩:=h;have A:=λg hg=>World.ownsRow.cells (g:=g) o hg
 rcases o.2 with⟨h4,h5⟩|⟨g,cap,cur,hv,hg,hcur,h6⟩
 ·subst h4;have:xs=[]:=ZX h5;subst this;exact .seq .nil
 ·subst hv;refine .seq ((B.to (Q:=λx=>P x∨(Value.slice (some ⟨g,0,none⟩) xs.length cap).ownBlock=some x) (AD.sub w (λx _ hx=>.inl hx))).seqAt (g:=g) (.inr rfl) (block_lt hcur) 0 (λj v hj=>?_));have:=A g rfl j v hj;rw[CU]at this;rw[Nat.zero_mul,Nat.zero_add];exact this
theorem AY.more {d:D} {c:List Value} (h:AY w P base T k v xs) (hd:Reads w P d c) (hk:c.length=k) {w1:World} (hs:AD w P w1 P)
  (hrow:∀cs,AZ w P k xs cs→w1.ownsRow base T k v' (xs.length+1) (cs++c)) (hap:∀g,v'.ownBlock=some g→¬P g):AY w1 P base T k v' (xs++[d]):=by
 obtain⟨⟨cs,A,o⟩,B⟩:=h;refine⟨⟨cs++c,?_,(o.snoc hd hk).to hs⟩,hap⟩;rw[QS];exact hrow cs o
end
section
variable {P : Program} {ops : Array Oper} {Q : Exit → Act → World → Prop} {md : Region.Mode} {S : World → Prop} {n : Nat}
def FX (md:Region.Mode) (ops:Array Oper) (n:Nat):Bool :=
 (List.range ops.size).all λt=>decide (t<n)||(List.range n).all λi=>Region.waitsFor md ops t i
theorem Du {listed:Array Bool} (hp:FX md ops n=true) {i t:Nat} (hi:i<n) (hun:listed.getD i true=false) (ht:t∈Region.ready md ops listed):t<n:=by
 rcases ZV t n with h|h
 ·exact h
 ·obtain⟨_,I,C,B⟩:=mem_ready.1 ht;have A:t<ops.size:=(Array.getElem?_eq_some_iff.1 C).1;have o:=List.all_eq_true.1 hp t (List.mem_range.2 A);simp only[Bool.or_eq_true,decide_eq_true_eq]at o;rcases o with o|o
  ·exact o
  ·have K:=List.all_eq_true.1 o i (List.mem_range.2 hi);obtain⟨G,D,e,J,H,E⟩:=Region.waitsFor_spec K;have:G=I:=Option.some.inj (D.symm.trans C);subst this;have F:=B e J H;rw[E,getD_both hun]at F;cases F
def Am (P:Program) (md:Region.Mode) (ops:Array Oper) (Q:Exit→Act→World→Prop) (S:World→Prop) (n:Nat):Nat→Array Bool→Act→World→Prop
 | 0,listed,a,w=>Region.ready md ops listed=[]∧Q .normal a w
 | fuel+1,listed,a,w =>
  (Region.ready md ops listed=[]→Q .normal a w) ∧
  ∀i∈Region.ready md ops listed,wpOp P ops Q i (λa' w'=>(i<n→S w')∧Am P md ops Q S n fuel (listed.setIfInBounds i true) a' w') a w
theorem EI:∀(fuel:Nat) (listed:Array Bool) (a:Act) (w:World),Am P md ops Q S n fuel listed a w→wpAny P md ops Q fuel listed a w
 | 0,_,_,_,h=>h
 | fuel+1,_,_,_,h=>⟨h.1,λi hi=>wpOp_mono (λa' w' h'=>EI fuel _ a' w' h'.2) (h.2 i hi)⟩
theorem FN {i:Nat} {oi:Oper} {v:Value} (hp:FX md ops n=true) (hin:i<n) (hi:ops[i]?=some oi) (hsel:∀(j:Nat) (o:Oper) cs b,ops[j]?=some o→o.op≠.select cs b)
  (hQ:∀c a w,Q (.panic c) (a.put oi.dst v) w→Q (.panic c) a w) :
  ∀(fuel:Nat) (listed:Array Bool) (a:Act) (w:World),
   (∀j oj,ops[j]?=some oj→j≠i→listed.getD j true=false→(∀e∈oj.after,Region.binds md e=true→e.on≠i)→oi.apart ops oj=true) →
   i∈Region.ready md ops listed→YieldsIf P ops S oi v a→S w →
   Am P md ops Q S n fuel (listed.setIfInBounds i true) (a.put oi.dst v) w→Am P md ops Q S n (fuel+1) listed a w:=by
 intro fuel
 induction fuel with
 | zero =>
  intro listed a w _ hr hy hS H;refine⟨λh=>(by rw[h]at hr;cases hr),λj hj=>?_⟩;by_cases hji:j=i
  ·subst hji;exact hy.wpOp hi hS ⟨λ_=>hS,H⟩
  ·have:=ready_mono hj hji;rw[H.1]at this;cases this
 | succ fuel ih =>
  intro listed a w hfree hr hy hS H;refine⟨λh=>(by rw[h]at hr;cases hr),λj hj=>?_⟩;by_cases hji:j=i
  ·subst hji;exact hy.wpOp hi hS ⟨λ_=>hS,H⟩
  ·have G:j<n:=Du hp hin (mem_ready.1 hr).1 hj;have C:=H.2 j (ready_mono hj hji);obtain⟨B,oj,D,F⟩:=mem_ready.1 hj;have E:∀e∈oj.after,Region.binds md e=true→e.on≠i:=λe he hb heq=>by
    have C:=F e he hb;have I:=(mem_ready.1 hr).1;rw[heq]at C;rcases ZV i listed.size with h'|h'
    ·simp[h']at I C;rw[I]at C;cases C
    ·simp[Array.getElem?_eq_none h']at C
   have J:=wpOp_putIf D (hfree j oj D hji B E) (λcs b=>hsel i oi cs b hi) (λcs b=>hsel j oj cs b D) hQ hy C;have A:∀k ok,ops[k]?=some ok→k≠i→(listed.setIfInBounds j true).getD k true=false →
     (∀e∈ok.after,Region.binds md e=true→e.on≠i)→oi.apart ops ok=true:=λk ok hk hki hun hno=>by
    refine hfree k ok hk hki ?_ hno;by_cases hjk:j=k
    ·subst hjk;exact B
    ·rw[getD_set_ne true hjk]at hun;exact hun
   refine wpOp_mono (λa' w' h3=>⟨h3.2.1,ih (listed.setIfInBounds j true) a' w' A (ready_mono hr (Ne.symm hji)) h3.1 (h3.2.1 G) ?_⟩) J;rw[Array.setIfInBounds_comm _ _ hji];exact h3.2.2
theorem GW {i:Nat} {oi:Oper} {v:Value} {fuel:Nat} {listed:Array Bool} {a:Act} {w:World} (hp:FX md ops n=true) (hin:i<n) (hi:ops[i]?=some oi)
  (hs:Region.noSelect ops=true) (hf:Region.free md ops listed i=true) (hr:(Region.ready md ops listed).contains i=true)
  (hQ:∀c a w,Q (.panic c) (a.put oi.dst v) w→Q (.panic c) a w) (hy:YieldsIf P ops S oi v a) (hS:S w)
  (h:Am P md ops Q S n fuel (listed.setIfInBounds i true) (a.put oi.dst v) w):Am P md ops Q S n (fuel+1) listed a w :=
 FN hp hin hi (Region.noSelect_spec hs) hQ fuel listed a w (Region.free_spec hi hf) (by simpa using hr) hy hS h
theorem TK {i : Nat} {oi : Oper} {v : Value} {fuel : Nat} {listed : Array Bool} {a : Act} {w : World} (hi : ops[i]? = some oi) (hy : YieldsIf P ops S oi v a) (hS : S w) (h : Am P md ops Q S n fuel (listed.setIfInBounds i true) (a.put oi.dst v) w) (hp : FX md ops n = true := by kernel_rfl) (hin : i < n := by decide) (hs : Region.noSelect ops = true := by kernel_rfl) (hf : Region.free md ops listed i = true := by kernel_rfl) (hr : (Region.ready md ops listed).contains i = true := by kernel_rfl) (hQ : ∀ c a w, Q (.panic c) (a.put oi.dst v) w → Q (.panic c) a w := by exact fun _ _ _ h => h) : Am P md ops Q S n (fuel + 1) listed a w := GW hp hin hi hs hf hr hQ hy hS h
theorem Dr {i:Nat} {oi:Oper} {v:Value} (hi:ops[i]?=some oi) (hsel:∀(j:Nat) (o:Oper) cs b,ops[j]?=some o→o.op≠.select cs b)
  (hQ:∀c a w,Q (.panic c) (a.put oi.dst v) w→Q (.panic c) a w) :
  ∀(fuel:Nat) (listed:Array Bool) (a:Act) (w:World),
   (∀j oj,ops[j]?=some oj→j≠i→listed.getD j true=false→(∀e∈oj.after,Region.binds md e=true→e.on≠i)→oi.apart ops oj=true) →
   i∈Region.ready md ops listed→YieldsIf P ops (λ_=>True) oi v a→(i<n→S w)→n≤i →
   Am P md ops Q S n fuel (listed.setIfInBounds i true) (a.put oi.dst v) w→Am P md ops Q S n (fuel+1) listed a w:=by
 intro fuel
 induction fuel with
 | zero =>
  intro listed a w _ hr hy hS hni H;refine⟨λh=>(by rw[h]at hr;cases hr),λj hj=>?_⟩;by_cases hji:j=i
  ·subst hji;exact hy.wpOp hi trivial ⟨hS,H⟩
  ·have:=ready_mono hj hji;rw[H.1]at this;cases this
 | succ fuel ih =>
  intro listed a w hfree hr hy hS hni H;refine⟨λh=>(by rw[h]at hr;cases hr),λj hj=>?_⟩;by_cases hji:j=i
  ·subst hji;exact hy.wpOp hi trivial ⟨hS,H⟩
  ·have C:=H.2 j (ready_mono hj hji);obtain⟨B,oj,D,F⟩:=mem_ready.1 hj;have E:∀e∈oj.after,Region.binds md e=true→e.on≠i:=λe he hb heq=>by
    have C:=F e he hb;have G:=(mem_ready.1 hr).1;rw[heq]at C;rcases ZV i listed.size with h'|h'
    ·simp[h']at G C;rw[G]at C;cases C
    ·simp[Array.getElem?_eq_none h']at C
   have I:=wpOp_putIf D (hfree j oj D hji B E) (λcs b=>hsel i oi cs b hi) (λcs b=>hsel j oj cs b D) hQ hy C;have A:∀k ok,ops[k]?=some ok→k≠i→(listed.setIfInBounds j true).getD k true=false →
     (∀e∈ok.after,Region.binds md e=true→e.on≠i)→oi.apart ops ok=true:=λk ok hk hki hun hno=>by
    refine hfree k ok hk hki ?_ hno;by_cases hjk:j=k
    ·subst hjk;exact B
    ·rw[getD_set_ne true hjk]at hun;exact hun
   refine wpOp_mono (λa' w' h3=>⟨h3.2.1,ih (listed.setIfInBounds j true) a' w' A (ready_mono hr (Ne.symm hji)) h3.1 (λh=>absurd h (by omega)) hni ?_⟩) I;rw[Array.setIfInBounds_comm _ _ hji];exact h3.2.2
theorem EG {i:Nat} {oi:Oper} {v:Value} {fuel:Nat} {listed:Array Bool} {a:Act} {w:World} (hni:n≤i) (hi:ops[i]?=some oi)
  (hs:Region.noSelect ops=true) (hf:Region.free md ops listed i=true) (hr:(Region.ready md ops listed).contains i=true)
  (hQ:∀c a w,Q (.panic c) (a.put oi.dst v) w→Q (.panic c) a w) (hy:YieldsIf P ops (λ_=>True) oi v a)
  (h:Am P md ops Q S n fuel (listed.setIfInBounds i true) (a.put oi.dst v) w):Am P md ops Q S n (fuel+1) listed a w :=
 Dr hi (Region.noSelect_spec hs) hQ fuel listed a w (Region.free_spec hi hf) (by simpa using hr) hy (λh=>absurd h (by omega)) hni h
theorem TA {i : Nat} {oi : Oper} {v : Value} {fuel : Nat} {listed : Array Bool} {a : Act} {w : World} (hi : ops[i]? = some oi) (hy : YieldsIf P ops (fun _ => True) oi v a) (h : Am P md ops Q S n fuel (listed.setIfInBounds i true) (a.put oi.dst v) w) (hni : n ≤ i := by decide) (hs : Region.noSelect ops = true := by kernel_rfl) (hf : Region.free md ops listed i = true := by kernel_rfl) (hr : (Region.ready md ops listed).contains i = true := by kernel_rfl) (hQ : ∀ c a w, Q (.panic c) (a.put oi.dst v) w → Q (.panic c) a w := by exact fun _ _ _ h => h) : Am P md ops Q S n (fuel + 1) listed a w := EG hni hi hs hf hr hQ hy h
theorem Gb {i:Nat} {fuel:Nat} {listed:Array Bool} {a:Act} {w:World} (hr:Region.ready md ops listed=[i])
  (h:wpOp P ops Q i (λa' w'=>(i<n→S w')∧Am P md ops Q S n fuel (listed.setIfInBounds i true) a' w') a w):Am P md ops Q S n (fuel+1) listed a w :=
 ⟨λh0=>(by rw[hr]at h0;cases h0),λj hj=>by
  rw[hr]at hj;obtain rfl:j=i:=(by simpa using hj)
  exact h⟩
theorem TO {i : Nat} {fuel : Nat} {listed : Array Bool} {a : Act} {w : World} (h : wpOp P ops Q i (fun a' w' => (i < n → S w') ∧ Am P md ops Q S n fuel (listed.setIfInBounds i true) a' w') a w) (hr : Region.ready md ops listed = [i] := by kernel_rfl) : Am P md ops Q S n (fuel + 1) listed a w := Gb hr h
theorem AR {i k:Nat} {fuel:Nat} {listed:Array Bool} {a:Act} {w:World} (hr:Region.ready md ops listed=[i,k])
  (h:wpOp P ops Q i (λa' w'=>(i<n→S w')∧Am P md ops Q S n fuel (listed.setIfInBounds i true) a' w') a w)
  (h':wpOp P ops Q k (λa' w'=>(k<n→S w')∧Am P md ops Q S n fuel (listed.setIfInBounds k true) a' w') a w):Am P md ops Q S n (fuel+1) listed a w :=
 ⟨λh0=>(by rw[hr]at h0;cases h0),λj hj=>by
  rw[hr]at hj;have:j=i∨j=k:=by simpa using hj
  rcases this with rfl|rfl
  ·exact h
  ·exact h'⟩
theorem AF {listed:Array Bool} {a:Act} {w:World} (hr:Region.ready md ops listed=[]) (h:Q .normal a w) :
  ∀fuel,Am P md ops Q S n fuel listed a w
 | 0=>⟨hr,h⟩
 | _+1=>⟨λ_=>h,by rw[hr];simp⟩
theorem AH (S:World→Prop) (n:Nat) {id:Nat} {a:Act} {w:World} (hm:P.follows .mixedOrders=true)
  (h:Am P .any ops Q S n ops.size (Array.replicate ops.size false) a { w with drawn:=w.drawn+1 }):(Code.region id ops true).wp P Q a w :=
 wp_region_any hm (EI _ _ _ _ h)
theorem AB {l:List Oper} {i:Nat} {K:Act→World→Prop} {a:Act} {w:World} (hn:i<l.length)
  (h:∀K':Act→World→Prop,Hid (∀a w,K a w→K' a w)→wpList P l.toArray (Exit.then K' Q) ((l.drop i).take 1) a w):wpOp P l.toArray Q i K a w:=by
 have o:=h K (QA λ_ _ h=>h);have B:l.toArray[i]?=some l[i]:=by simp[hn]
 have A:(l.drop i).take 1=[l[i]]:=by rw[List.drop_eq_getElem_cons hn,QF,QN]
 rw[A]at o;unfold wpOp;simp only[B];unfold wpList at o;split
 ·rename_i hwant;rw[if_pos hwant]at o;refine o.imp (λhs=>?_) (λhs=>⟨hs.1,?_⟩)
  ·have D:=Oper.wp_mono (Q:=Exit.then K Q) (K':=K) (λa w h=>h) hs;unfold Oper.wp at *
   generalize (execOp a.eval l[i]).run P w=r at *
   cases r with
   | ok nx w2 =>
    cases nx with
    | enter f args =>
     exact Calls.mono D λe w3 h3=>by cases e<;>first|exact h3|(obtain⟨C,E,F⟩:=h3;exact⟨C,E,F⟩)
    | _=>exact D
   | halt x w2=>cases x<;>exact D
  ·obtain⟨C,E,F⟩:=hs.2;exact⟨C,E,F⟩
 ·rename_i hwant;rw[if_neg hwant]at o;exact o
end
open Go.Maps
/-! ### A map from names to numbers -/
namespace Fs
abbrev Names:=List (List UInt8×Int)
def EH (x:List UInt8×Int):Names→Names
 | []=>[x]
 | y::r=>if (Lit.string x.1).before (.string y.1) then x::y::r else y::EH x r
def mdel (l:Names) (k:List UInt8):Names:=l.filter λp=>!(p.1==k)
def mput (l:Names) (k:List UInt8) (v:Int):Names:=EH (k,v) (mdel l k)
def EC (l:Names) (k:List UInt8):Bool:=l.any λp=>p.1==k
def mget (l:Names) (k:List UInt8):Int:=match l.find? (λp=>p.1==k) with|some p=>p.2|none=>0
def ent (p:List UInt8×Int):Lit×DataW Unit:=(.string p.1,.lit (.int .i64 p.2))
def datum (l:Names):DataW Unit:=.map (l.map ent)
theorem Hs (x:List UInt8×Int):∀l:Names,DataW.insert (ent x) (l.map ent)=(EH x l).map ent
 | []=>rfl
 | y::r=>by
  rw[ZQ];unfold DataW.insert EH;by_cases h:(Lit.string x.1).before (.string y.1)=true
  ·rw[if_pos h,if_pos (by exact h)];rfl
  ·rw[if_neg h,if_neg (by exact h),ZQ,Hs x r]
theorem G4 (k:List UInt8):∀l:Names,(l.map ent).filter (λp=>!p.1.sameKey (.string k))=(mdel l k).map ent:=by
 intro l;unfold mdel;rw[List.filter_map];rfl
theorem datum_put (l:Names) (k:List UInt8) (v:Int):(datum l).put (.string k) (.lit (.int .i64 v))=datum (mput l k v):=by
 unfold datum DataW.put mput;simp only[G4];rw[show ((Lit.string k,DataW.lit (Lit.int .i64 v)):Lit×DataW Unit)=ent (k,v) from rfl,Hs]
theorem datum_get (l:Names) (k:List UInt8):(datum l).atKey (.string k) (.lit (.int .i64 0))=.lit (.int .i64 (mget l k)):=by
 unfold datum DataW.atKey mget;simp only[List.find?_map];have:((λp:Lit×DataW Unit=>p.1.sameKey (.string k))∘ent)=λp=>p.1==k:=rfl
 rw[this];cases l.find? (λp=>p.1==k)<;>rfl
theorem datum_size (l:Names):Maps.size (datum l)=l.length:=by
 unfold datum;rw[Maps.size_eq,QV]
end Fs
theorem Bj:Keyed Tryz.prog 9:=string_keyed Tryz.underlying9
theorem Dy (w:World):(zeroValue 3).run Tryz.prog w=.ok (.int .i64 0) w:=by kernel_rfl
def Ba (w:World) (b:Nat) (l:Fs.Names):Prop:=w.ownsMap Tryz.prog 9 (plainElem Tryz.prog 3) b l.length (Fs.datum l)
theorem Ba.of {w:World} {b n:Nat} {l:Fs.Names} (h:w.ownsMap Tryz.prog 9 (plainElem Tryz.prog 3) b n (Fs.datum l)):Ba w b l:=by
 obtain⟨C,o,D,F,E,B⟩:=h;refine⟨C,o,D,F,?_,B⟩;have A:=congrArg Maps.size B;rw[Fs.datum_size]at A;rw[A];simp[Maps.size,length_sorted]
theorem Ba.heap {w w':World} {b:Nat} {l:Fs.Names} (h:Ba w b l) (he:w'.heap[b]?=w.heap[b]?):Ba w' b l:=by
 obtain⟨A,o,B,r⟩:=h;exact⟨A,o,by rw[he];exact B,r⟩
theorem Ba.lt {w:World} {b:Nat} {l:Fs.Names} (h:Ba w b l):b<w.heap.size:=World.ownsMap.lt h
theorem Ba.nodup {w:World} {b:Nat} {l:Fs.Names} (h:Ba w b l):l.Pairwise (λp q=>p.1≠q.1):=by
 obtain⟨B,o,A⟩:=World.ownsMap.tidy h Bj;unfold Fs.datum at o;simp only[DataW.map.injEq]at o;subst o;rw[List.pairwise_map]at A;exact A.imp (λ{a b} h e=>h (by simp[Fs.ent,e]))
namespace Fs
theorem GB (x:List UInt8×Int):∀l:Names,(EH x l).Perm (x::l)
 | []=>List.Perm.refl _
 | y::r=>by
  unfold EH;split
  ·exact List.Perm.refl _
  ·exact ((GB x r).cons y).trans (List.Perm.swap x y r)
theorem Fv (x:List UInt8×Int):∀l:Names,(EH x l).length=l.length+1
 | []=>rfl
 | y::r=>by
  unfold EH;split
  ·simp
  ·simp[Fv x r]
theorem Ex (x:List UInt8×Int) (n:List UInt8):∀l:Names,EC l x.1=false→(EH x l).find? (λp=>p.1==n)=if x.1=n then some x else l.find? (λp=>p.1==n)
 | [],_=>by
  unfold EH;by_cases h:x.1=n
  ·rw[if_pos h,List.find?_cons_of_pos (by simpa using h)]
  ·rw[if_neg h,List.find?_cons_of_neg (by simpa using h)]
 | y::r,hh=>by
  have o:EC r x.1=false:=by unfold EC at hh ⊢;rw[List.any_cons,Bool.or_eq_false_iff]at hh;exact hh.2
  have A:y.1≠x.1:=by unfold EC at hh;rw[List.any_cons,Bool.or_eq_false_iff]at hh;simpa using hh.1
  unfold EH;split
  ·by_cases h:x.1=n
   ·rw[if_pos h,List.find?_cons_of_pos (by simpa using h)]
   ·rw[if_neg h,List.find?_cons_of_neg (by simpa using h)]
  ·by_cases h:y.1=n
   ·rw[List.find?_cons_of_pos (by simpa using h),if_neg (λe=>A (by rw[h,e])),List.find?_cons_of_pos (by simpa using h)]
   ·rw[List.find?_cons_of_neg (by simpa using h),Ex x n r o,List.find?_cons_of_neg (by simpa using h)]
theorem DV (l:Names) (n:List UInt8):EC l n=(l.find? (λp=>p.1==n)).isSome:=by
 unfold EC;rw[Bool.eq_iff_iff,List.any_eq_true];constructor
 ·rintro⟨p,o,A⟩;rw[List.find?_isSome];exact⟨p,o,A⟩
 ·intro h;rw[List.find?_isSome]at h;obtain⟨p,o,A⟩:=h;exact⟨p,o,A⟩
theorem E6 (l:Names) (k n:List UInt8):(mdel l k).find? (λp=>p.1==n)=if n=k then none else l.find? (λp=>p.1==n):=by
 unfold mdel
 induction l with
 | nil=>simp
 | cons y r ih =>
  by_cases hk:y.1=k
  ·rw[List.filter_cons_of_neg (by simp[hk]),ih];by_cases h:n=k
   ·rw[if_pos h,if_pos h]
   ·rw[if_neg h,if_neg h,List.find?_cons_of_neg (by simp[hk];exact λe=>h e.symm)]
  ·rw[List.filter_cons_of_pos (by simp[hk])];by_cases h:y.1=n
   ·rw[List.find?_cons_of_pos (by simpa using h),if_neg (λe=>hk (h.trans e)),List.find?_cons_of_pos (by simpa using h)]
   ·rw[List.find?_cons_of_neg (by simpa using h),ih,List.find?_cons_of_neg (by simpa using h)]
theorem Ha (l:Names) (k:List UInt8):EC (mdel l k) k=false:=by rw[DV,E6,if_pos rfl];rfl
theorem H4 (l:Names) (k n:List UInt8) (v:Int):(mput l k v).find? (λp=>p.1==n)=if k=n then some (k,v) else l.find? (λp=>p.1==n):=by
 unfold mput;rw[Ex (k,v) n _ (Ha l k)];by_cases h:k=n
 ·rw[if_pos h,if_pos h]
 ·rw[if_neg h,if_neg h,E6,if_neg (λe=>h e.symm)]
theorem mget_mput (l:Names) (k n:List UInt8) (v:Int):mget (mput l k v) n=if k=n then v else mget l n:=by
 unfold mget;rw[H4];by_cases h:k=n
 ·rw[if_pos h,if_pos h]
 ·rw[if_neg h,if_neg h]
theorem DL (l:Names) (k:List UInt8) (v:Int):(mput l k v).Perm ((k,v)::mdel l k):=GB _ _
theorem Iy {l:Names} {k:List UInt8} {p:List UInt8×Int}:p∈mdel l k↔p∈l∧p.1≠k:=by
 unfold mdel;rw[List.mem_filter];simp
theorem GC {l:Names} {k:List UInt8} {v:Int} {p:List UInt8×Int}:p∈mput l k v↔p=(k,v)∨(p∈l∧p.1≠k):=by
 rw[(DL l k v).mem_iff,List.mem_cons,Iy]
theorem I6 {l:Names} {k:List UInt8}:EC l k=true↔∃p∈l,p.1=k:=by
 unfold EC;rw[List.any_eq_true];constructor
 ·rintro⟨p,h1,h2⟩;exact⟨p,h1,by simpa using h2⟩
 ·rintro⟨p,h1,h2⟩;exact⟨p,h1,by simpa using h2⟩
theorem mput_len2 (l:Names) (k:List UInt8) (v:Int):(mput l k v).length=(mdel l k).length+1:=Fv _ _
structure Seen (l:Names) (seen:List (List UInt8)) (k:Nat):Prop where
 perm:(l.map Prod.fst).Perm seen
 nodup:seen.Nodup
 pos:∀p∈l,1≤p.2∧p.2≤(k:Int)
theorem Seen.nil:Seen [] [] 0:=⟨.refl _,List.nodup_nil,λp hp=>by cases hp⟩
theorem Seen.has {l:Names} {seen:List (List UInt8)} {k:Nat} (h:Seen l seen k) (n:List UInt8):EC l n=true↔n∈seen:=by
 rw[I6,← h.perm.mem_iff,List.mem_map]
theorem Seen.more {l:Names} {seen:List (List UInt8)} {k:Nat} (h:Seen l seen k):Seen l seen (k+1) :=
 ⟨h.perm,h.nodup,λp hp=>by have:=h.pos p hp;omega⟩
theorem Fo (l:Names) (n:List UInt8):(mdel l n).map Prod.fst=(l.map Prod.fst).filter (· != n):=by
 unfold mdel;rw[List.filter_map];rfl
theorem Seen.get_new {l:Names} {seen:List (List UInt8)} {k:Nat} (h:Seen l seen k) {n:List UInt8} (hn:n ∉ seen):mget l n=0:=by
 have o:EC l n=false:=by
  rw[← Bool.not_eq_true,h.has];exact hn
 rw[DV]at o;unfold mget;cases hf:l.find? (λp=>p.1==n) with
 | none=>rfl
 | some p=>rw[hf]at o;cases o
theorem Seen.get_old {l:Names} {seen:List (List UInt8)} {k:Nat} (h:Seen l seen k) {n:List UInt8} (hn:n∈seen):1≤mget l n∧mget l n≤(k:Int):=by
 have o:=(h.has n).2 hn;rw[DV]at o;unfold mget;cases hf:l.find? (λp=>p.1==n) with
 | none=>rw[hf]at o;cases o
 | some p=>exact h.pos p (List.mem_of_find?_eq_some hf)
theorem Seen.put_new {l:Names} {seen:List (List UInt8)} {k:Nat} (h:Seen l seen k) {n:List UInt8} (hn:n ∉ seen):Seen (mput l n 1) (seen++[n]) (k+1):=by
 have o:n ∉ l.map Prod.fst:=λe=>hn (h.perm.mem_iff.1 e)
 refine⟨?_,?_,λp hp=>?_⟩
 ·refine ((DL l n 1).map Prod.fst).trans ?_;rw[ZQ,Fo];have e:(l.map Prod.fst).filter (· != n)=l.map Prod.fst:=by
   rw[List.filter_eq_self];intro x hx;rw[bne_iff_ne];exact λe=>o (e▸hx)
  rw[e];exact (h.perm.cons n).trans (List.perm_append_singleton n seen).symm
 ·rw[List.nodup_append];exact⟨h.nodup,List.nodup_cons.2 ⟨List.not_mem_nil,List.nodup_nil⟩,λa ha b hb=>by rw[List.mem_singleton.1 hb];intro e;exact hn (e▸ha)⟩
 ·rcases GC.1 hp with rfl|⟨h1,-⟩
  ·exact⟨Int.le_refl _,by simp only;omega⟩
  ·have:=h.pos p h1;omega
theorem Seen.put_old {l:Names} {seen:List (List UInt8)} {k:Nat} (h:Seen l seen k) {n:List UInt8} (hn:n∈seen):Seen (mput l n (mget l n+1)) seen (k+1):=by
 have A:n∈l.map Prod.fst:=h.perm.mem_iff.2 hn;have o:(l.map Prod.fst).Nodup:=h.perm.nodup_iff.2 h.nodup;have B:=h.get_old hn;refine⟨?_,h.nodup,λp hp=>?_⟩
 ·refine ((DL l n _).map Prod.fst).trans ?_;rw[ZQ,Fo,← o.erase_eq_filter];exact (List.perm_cons_erase A).symm.trans h.perm
 ·rcases GC.1 hp with rfl|⟨h1,-⟩
  ·simp only;omega
  ·have:=h.pos p h1;omega
end Fs
mutual
def A4 (P:Program):TypeId→D→Prop
 | t,.int n=>P.underlying t=some (.int .i64)∧(Lit.int .i64 n).wf=true
 | t,.str s=>P.underlying t=some .string∧s.length≤maxLen
 | t,.bool _=>P.underlying t=some .bool
 | t,.obj ds=>∃fs,P.underlying t=some (.struct fs)∧CR P (fs.toList.map (·.type)) ds
 | t,.seq k ds=>∃e,P.underlying t=some (.slice e)∧P.cellsOf e=k∧ds.length≤maxLen∧Iq P e ds
def CR (P:Program):List TypeId→List D→Prop
 | [],[]=>True
 | t::ts,d::ds=>A4 P t d∧CR P ts ds
 | [],_::_=>False
 | _::_,[]=>False
def Iq (P:Program):TypeId→List D→Prop
 | _,[]=>True
 | e,d::ds=>A4 P e d∧Iq P e ds
end
section
variable {H : Type} {enc : TypeId × Value → H} {P : Program} {w : World} {sp : Nat → Bool} {held : Bool}
end
section
variable {P : Program} {t : TypeId} {d : D}
theorem A4.int (ht:P.underlying t=some (.int .i64)) (h:A4 P t d):∃n,d=.int n∧(Lit.int .i64 n).wf=true:=by
 cases d with
 | int n=>unfold A4 at h;exact⟨n,rfl,h.2⟩
 | str s=>unfold A4 at h;rw[ht]at h;cases h.1
 | bool b=>unfold A4 at h;rw[ht]at h;cases h
 | obj ds=>unfold A4 at h;obtain⟨o,h,-⟩:=h;rw[ht]at h;cases h
 | seq k ds=>unfold A4 at h;obtain⟨o,h,-⟩:=h;rw[ht]at h;cases h
theorem A4.str (ht:P.underlying t=some .string) (h:A4 P t d):∃s,d=.str s∧s.length≤maxLen:=by
 cases d with
 | int n=>unfold A4 at h;rw[ht]at h;cases h.1
 | str s=>unfold A4 at h;exact⟨s,rfl,h.2⟩
 | bool b=>unfold A4 at h;rw[ht]at h;cases h
 | obj ds=>unfold A4 at h;obtain⟨o,h,-⟩:=h;rw[ht]at h;cases h
 | seq k ds=>unfold A4 at h;obtain⟨o,h,-⟩:=h;rw[ht]at h;cases h
theorem A4.bool (ht:P.underlying t=some .bool) (h:A4 P t d):∃b,d=.bool b:=by
 cases d with
 | int n=>unfold A4 at h;rw[ht]at h;cases h.1
 | str s=>unfold A4 at h;rw[ht]at h;cases h.1
 | bool b=>exact⟨b,rfl⟩
 | obj ds=>unfold A4 at h;obtain⟨o,h,-⟩:=h;rw[ht]at h;cases h
 | seq k ds=>unfold A4 at h;obtain⟨o,h,-⟩:=h;rw[ht]at h;cases h
theorem A4.obj {fs:Array Field} (ht:P.underlying t=some (.struct fs)) (h:A4 P t d):∃ds,d=.obj ds∧CR P (fs.toList.map (·.type)) ds:=by
 cases d with
 | int n=>unfold A4 at h;rw[ht]at h;cases h.1
 | str s=>unfold A4 at h;rw[ht]at h;cases h.1
 | bool b=>unfold A4 at h;rw[ht]at h;cases h
 | obj ds =>
  unfold A4 at h;obtain⟨A,o,B⟩:=h;rw[ht]at o;cases o;exact⟨ds,rfl,B⟩
 | seq k ds=>unfold A4 at h;obtain⟨fs,h,-⟩:=h;rw[ht]at h;cases h
theorem A4.seq {e:TypeId} (ht:P.underlying t=some (.slice e)) (h:A4 P t d):∃ds,d=.seq (P.cellsOf e) ds∧ds.length≤maxLen∧Iq P e ds:=by
 cases d with
 | int n=>unfold A4 at h;rw[ht]at h;cases h.1
 | str s=>unfold A4 at h;rw[ht]at h;cases h.1
 | bool b=>unfold A4 at h;rw[ht]at h;cases h
 | obj ds=>unfold A4 at h;obtain⟨D,h,-⟩:=h;rw[ht]at h;cases h
 | seq k ds =>
  unfold A4 at h;obtain⟨E,o,B,A,C⟩:=h;rw[ht]at o;cases o;subst B;exact⟨ds,rfl,A,C⟩
theorem CR.cons {ts:List TypeId} {ds:List D} (h:CR P (t::ts) ds):∃d r,ds=d::r∧A4 P t d∧CR P ts r:=by
 cases ds with
 | nil=>unfold CR at h;exact h.elim
 | cons d r=>unfold CR at h;exact⟨d,r,rfl,h.1,h.2⟩
theorem CR.nil {ds:List D} (h:CR P [] ds):ds=[]:=by
 cases ds with
 | nil=>rfl
 | cons d r=>unfold CR at h;exact h.elim
end
theorem grownBy_refl (w:World) (r:Option Nat):w.grownBy w r:=⟨rfl,rfl,rfl,QM _,λ_ _ _=>rfl⟩
theorem BL {P:Program} {w:World} {ops:Array Oper} {rest:List Oper} {o:Oper} {a:Act} {Q:Exit→Act→World→Prop} (hgd:o.guard=none) (s x:Operand) (t:TypeId)
  (ho:o.op=.call { callee:=.builtin .append,args:=#[s,x],argTypes:=#[t,t] })
  (base:Nat) (e:TypeId) (i:TypeInfo) (z:Value) (size bytes:Nat) (ht:P.underlying t=some (.slice e)) (hi:P.info? e=some i) (hz:i.zero=some z)
  (hsize:i.size=size) (hby:i.bytes=bytes) (hzs:z.cells.size=size) (hsz:0<size)
  (v:Value) (n:Nat) (xs:List Value) (hs:a.eval s=v) (hown:w.ownsRow base e size v n xs)
  (base2:Nat) (v2:Value) (m:Nat) (ys:List Value) (hx:a.eval x=v2) (hown2:w.ownsRow base2 e size v2 m ys) (h1:∀u∈ys,u.oneCell'=true)
  (h63:n+m≤maxLen) (hbytes:(n+m)*bytes≤140737488355328) (hbase:base≤w.heap.size)
  (h:∀v' w',w'.ownsRow base e size v' (n+m) (xs++ys)→w.grownBy w' v.ownBlock→(v'.ownBlock=v.ownBlock∨v'.ownBlock=some w.heap.size)→wpList P ops Q rest (a.put o.dst v') w') :
  wpList P ops Q (o::rest) a w:=by
 rcases hown2.2 with⟨h4,h5⟩|⟨g,cap,cur,hv,hg,hc,h6⟩
 ·subst h4;subst h5;have B:ys=[]:=ZX (by have:=hown2.1;omega);subst B;refine wpList_append_own_none hgd s x t ho base e i size ht hi v n xs hs hown hx (h v w ?_ (grownBy_refl _ _) (.inl rfl));rw[ZN];exact hown
 ·subst hv;have A:=hown2.cells (g:=g) rfl;exact wpList_append_own_at w hgd s x t ho base e i z size bytes ht hi hz hsize hby hzs hsz v n xs hs hown ⟨g,0,none⟩ m cap ys hx hown2.1 A h1 h63 hbytes hbase (λv' w' a1 a2 _ a4=>h v' w' a1 a2 a4)
section
variable {w w' : World} {P Q : Nat → Prop} {base base2 k : Nat} {T : TypeId} {v v' v2 : Value} {xs ys : List D}
theorem AZ.join:∀{xs:List D} {cs:List Value},AZ w P k xs cs→∀{ys:List D} {cs2:List Value},AZ w P k ys cs2→AZ w P k (xs++ys) (cs++cs2)
 | [],_,.nil,_,_,h2=>h2
 | _::_,_,.cons h hl hr,_,_,h2=>by
  rw[ZF];exact .cons h hl (hr.join h2)
theorem AZ.one:∀{xs:List D} {cs:List Value},AZ w P k xs cs→∀u∈cs,u.oneCell'=true
 | [],_,.nil=>λu hu=>by cases hu
 | _::_,_,.cons h _ hr=>λu hu=>by
  rcases List.mem_append.1 hu with h1|h1
  ·exact h.one u h1
  ·exact hr.one u h1
theorem AY.join (h:AY w P base T k v xs) (h2:AY w P base2 T k v2 ys) {w1:World} (hs:AD w P w1 P)
  (hrow:∀cs cs2,AZ w P k xs cs→AZ w P k ys cs2→w1.ownsRow base T k v' (xs.length+ys.length) (cs++cs2)) (hap:∀g,v'.ownBlock=some g→¬P g):AY w1 P base T k v' (xs++ys):=by
 obtain⟨⟨cs,C,A⟩,B⟩:=h;obtain⟨⟨cs2,E,o⟩,D⟩:=h2;refine⟨⟨cs++cs2,?_,(A.join o).to hs⟩,hap⟩;rw[QS];exact hrow cs cs2 A o
end
def AW (w:World) (base:Nat) (e:TypeId) (size:Nat) (v:Value) (n:Nat) (xs:List Value):Prop :=
 xs.length=n*size∧((v=.slice none 0 0∧n=0)∨∃g off cap cur,v=.slice (some ⟨g,off,none⟩) n cap∧base≤g∧w.heap[g]?=some (.cells cur e (0,0))∧n≤cap∧cap≤maxLen ∧
  off+cap*size≤cur.size∧(cur.toList.drop off).take (n*size)=xs)
section
variable {w : World} {base : Nat} {e : TypeId} {size : Nat} {v : Value} {n : Nat} {xs : List Value}
theorem AW.of (h:w.ownsRow base e size v n xs):AW w base e size v n xs:=by
 refine⟨h.1,?_⟩;rcases h.2 with h2|⟨g,cap,cur,hv,hb,hg,hn,hc,hs,ht⟩
 ·exact .inl h2
 ·exact .inr ⟨g,0,cap,cur,hv,hb,hg,hn,hc,by omega,by rw[QL];exact ht⟩
theorem AW.form (h:AW w base e size v n xs):∃a c,v=.slice a n c∧n≤c∧(a=none→n=0):=by
 rcases h.2 with⟨h4,h5⟩|⟨g,off,cap,cur,hv,hb,hg,hn,-⟩
 ·exact⟨none,0,by rw[h5];exact h4,by omega,λ_=>h5⟩
 ·exact⟨_,_,hv,hn,λe=>by cases e⟩
theorem AW.lt (h:AW w base e size v n xs):∀k,v.ownBlock=some k→base≤k∧k<w.heap.size:=by
 intro k hk;rcases h.2 with⟨rfl,_⟩|⟨g,off,cap,cur,rfl,hb,hg,_⟩
 ·simp[Value.ownBlock]at hk
 ·simp[Value.ownBlock]at hk;subst hk;exact⟨hb,(Array.getElem?_eq_some_iff.1 hg).1⟩
theorem AW.to {w':World} (h:AW w base e size v n xs) (hb:∀g,v.ownBlock=some g→w'.heap[g]?=w.heap[g]?):AW w' base e size v n xs:=by
 refine⟨h.1,?_⟩;rcases h.2 with h2|⟨g,off,cap,cur,hv,hg,hc,h3⟩
 ·exact .inl h2
 ·refine .inr ⟨g,off,cap,cur,hv,hg,?_,h3⟩;rw[hb g (by rw[hv];rfl)];exact hc
theorem AW.cells {g off c:Nat} (h:AW w base e size (.slice (some ⟨g,off,none⟩) n c) n xs):∀j u,xs[j]?=some u→w.cell? ⟨g,off+j,none⟩=some u:=by
 intro j u hj;rcases h.2 with⟨h4,_⟩|⟨g',off',cap,cur,hv,hb,hg,hn,hc,hs,ht⟩
 ·cases h4
 ·simp only[Value.slice.injEq,Option.some.injEq,Addr.mk.injEq,and_true,true_and]at hv;obtain⟨⟨rfl,rfl⟩,rfl⟩:=hv;rw[← ht,List.getElem?_take]at hj;split at hj
  ·rw[List.getElem?_drop]at hj;have:cur[off+j]?=some u:=by rw[← hj,Array.getElem?_toList]
   simp[World.cell?,hg,this]
  ·cases hj
theorem AW.skip {p:Option Addr} {c:Nat} (h:AW w base e size (.slice p (n+1) c) (n+1) xs) :
  AW w base e size (sliced p 1 (n+1) c size) n (xs.drop size):=by
 have o:=h.1;refine⟨by rw[List.length_drop,o,Nat.add_mul];omega,?_⟩;rcases h.2 with⟨_,h5⟩|⟨g,off,cap,cur,hv,hb,hg,hn,hc,hs,ht⟩
 ·omega
 ·simp only[Value.slice.injEq,true_and]at hv;obtain⟨rfl,rfl⟩:=hv
  right
  by_cases h1:c=1
  ·subst h1;obtain rfl:n=0:=by omega
   refine⟨g,off,0,cur,by simp[sliced],hb,hg,QM _,Nat.zero_le _,by omega,?_⟩;have:xs.drop size=[]:=List.drop_eq_nil_of_le (by omega);rw[this,Nat.zero_mul,QN]
  ·have A:c*size=(c-1)*size+size:=by
    obtain⟨d,rfl⟩:∃d,c=d+1:=⟨c-1,by omega⟩
    rw[Nat.add_sub_cancel,Nat.add_mul,Nat.one_mul]
   refine⟨g,off+size,c-1,cur,?_,hb,hg,by omega,by omega,by omega,?_⟩
   ·unfold sliced;rw[if_neg h1];simp[Addr.add_lit]
   ·rw[← ht,List.drop_take,List.drop_drop,Nat.add_mul,Nat.one_mul,Nat.add_sub_cancel]
end
theorem Ds {P:Program} (w:World) (base:Nat) (t ty e:TypeId) (i:TypeInfo) (z:Value) (size bytes:Nat) (ht:P.underlying t=some (.slice e)) (hi:P.info? e=some i) (hz:i.zero=some z)
  (hsize:i.size=size) (hby:i.bytes=bytes) (hzs:z.cells.size=size) (hsz:0<size)
  (v:Value) (n:Nat) (xs:List Value) (hown:AW w base e size v n xs)
  (a:Addr) (m c:Nat) (news:List Value) (hl:news.length=m*size) (hnews:∀j u,news[j]?=some u→w.cell? (a.add j)=some u) (h1:∀u∈news,u.oneCell'=true)
  (h63:n+m≤maxLen) (hbytes:(n+m)*bytes≤140737488355328) (hbase:base≤w.heap.size) :
  ∃v' w',(Builtin.append_ #[t,t] ty #[v,.slice (some a) m c]).run P w=.ok v' w'∧AW w' base e size v' (n+m) (xs++news)∧w.grownBy w' v.ownBlock ∧
   (v'.ownBlock=v.ownBlock∨v'.ownBlock=some w.heap.size):=by
 rcases hown.2 with⟨hv,hn⟩|⟨g,off,cap,cur,hv,hbg,hg,hnc,hcm,hcs,htake⟩
 ·have G:w.ownsRow base e size v n xs:=⟨hown.1,.inl ⟨hv,hn⟩⟩
  obtain⟨v',w',C,Q,M,-,N⟩:=run_append_own_at (P:=P) w base t ty e i z size bytes ht hi hz hsize hby hzs hsz v n xs G a m c news hl hnews h1 h63 hbytes hbase;exact⟨v',w',C,.of Q,M,N⟩
 ·subst hv;subst hsize;subst hby;have H:n+m≤9223372036854775807:=by simp only[maxLen]at h63;omega
  have o:(xs++news).length=(n+m)*i.size:=by rw[QS,hown.1,hl,Nat.add_mul]
  by_cases hroom:n+m≤cap
  ·have B:(n+m)*i.size≤cap*i.size:=Nat.mul_le_mul_right _ hroom;have F:off+n*i.size+news.length≤cur.size:=by rw[hl];rw[Nat.add_mul]at B;omega
   have L:=run_firstCells_some (P:=P) w i.size m a m c news hl hnews;have D:=run_storeCells_at P g (off+n*i.size) e news 0 cur w hg (by simpa using F) h1;simp only[Nat.add_zero]at D;have C:(Builtin.append_ #[t,t] ty #[.slice (some ⟨g,off,none⟩) n cap,.slice (some a) m c]).run P w =
     .ok (.slice (some ⟨g,off,none⟩) (n+m) cap) (w.setRow g (cur.toList.take (off+n*i.size)++news++cur.toList.drop (off+n*i.size+news.length)).toArray):=by
    simp[Builtin.append_,run_underlying ht,sizeOf,typeInfo,hi,Builtin.lenOf,hroom,L,Addr.add_lit,D]
   refine⟨_,_,C,⟨o,.inr ⟨g,off,cap,_,rfl,hbg,setRow_heap w g cur _ e _ hg,hroom,hcm,?_,?_⟩⟩,⟨rfl,rfl,rfl,by simp,λk _ hk=>setRow_other w g k _ (λe=>hk (by simp[Value.ownBlock,e]))⟩,.inl rfl⟩
   ·simp only[List.size_toArray,QS,List.length_take,List.length_drop,Array.length_toList];omega
   ·have K:cur.toList.take (off+n*i.size)=cur.toList.take off++xs:=by rw[List.take_add,htake]
    have O:(cur.toList.take off).length=off:=by rw[List.length_take,Array.length_toList];omega
    show ((cur.toList.take (off+n*i.size)++news++cur.toList.drop (off+n*i.size+news.length)).drop off).take ((n+m)*i.size)=xs++news;rw[K,ZF,ZF];have J:∀r:List Value,(cur.toList.take off++r).drop off=r:=λr=>by
     have:=List.drop_left (l₁:=cur.toList.take off) (l₂:=r);rw[O]at this;exact this
    rw[J,← ZF,← o];exact List.take_left
  ·have A:∀j u,xs[j]?=some u→w.cell? ((⟨g,off,none⟩:Addr).add j)=some u:=λj u hj=>by
    rw[Addr.add_lit];exact AW.cells hown j u hj
   have C:=run_append_grow (P:=P) w t ty e i z ht hi hz ⟨g,off,none⟩ n cap xs hown.1 A a m c news hl hnews (by omega) (by omega) (growslice_fits (by omega) hbytes);have I:=grownCap_ge w (n+m) cap e;have E:grownCap w (n+m) cap e≤maxLen:=grownCap_le_maxLen w (n+m) cap e h63;refine⟨_,_,C,.of ⟨o,.inr ⟨w.heap.size,_,_,rfl,hbase,heap_alloc_new w.drew _,I,E,?_,?_⟩⟩,⟨rfl,rfl,rfl,by simp,λk hk _=>heap_alloc_old w.drew _ hk⟩,.inr rfl⟩
   ·simp only[Array.size_append,List.size_toArray,size_zeroCells,hzs,hown.1,hl,← Nat.add_mul]
    congr 1
    omega
   ·simp only[Array.toList_append,ZF];rw[← ZF,← o];exact List.take_left
theorem Ck {P:Program} {w:World} {ops:Array Oper} {rest:List Oper} {o:Oper} {a:Act} {Q:Exit→Act→World→Prop} (hgd:o.guard=none) (s x:Operand) (t:TypeId)
  (ho:o.op=.call { callee:=.builtin .append,args:=#[s,x],argTypes:=#[t,t] })
  (base:Nat) (e:TypeId) (i:TypeInfo) (z:Value) (size bytes:Nat) (ht:P.underlying t=some (.slice e)) (hi:P.info? e=some i) (hz:i.zero=some z)
  (hsize:i.size=size) (hby:i.bytes=bytes) (hzs:z.cells.size=size) (hsz:0<size)
  (v:Value) (n:Nat) (xs:List Value) (hs:a.eval s=v) (hown:AW w base e size v n xs)
  (base2:Nat) (v2:Value) (m:Nat) (ys:List Value) (hx:a.eval x=v2) (hown2:w.ownsRow base2 e size v2 m ys) (h1:∀u∈ys,u.oneCell'=true)
  (h63:n+m≤maxLen) (hbytes:(n+m)*bytes≤140737488355328) (hbase:base≤w.heap.size)
  (h:∀A B,AW B base e size A (n+m) (xs++ys)→w.grownBy B v.ownBlock→(A.ownBlock=v.ownBlock∨A.ownBlock=some w.heap.size)→wpList P ops Q rest (a.put o.dst A) B) :
  wpList P ops Q (o::rest) a w:=by
 refine wpList_plain hgd λK hK=>?_
 have C:∃A B,(Builtin.append_ #[t,t] o.type #[v,v2]).run P w=.ok A B∧AW B base e size A (n+m) (xs++ys)∧w.grownBy B v.ownBlock∧(A.ownBlock=v.ownBlock∨A.ownBlock=some w.heap.size):=by
  rcases hown2.2 with⟨D,h5⟩|⟨g,cap,cur,hv,hg,hc,h6⟩
  ·subst D;subst h5;have F:ys=[]:=ZX (by have:=hown2.1;omega);subst F;refine⟨v,w,?_,by rw[ZN];exact hown,grownBy_refl _ _,.inl rfl⟩;rcases hown.2 with⟨rfl,rfl⟩|⟨g,off,cap,cur,rfl,_,_,hnc,_⟩
   ·simp[Builtin.append_,run_underlying ht,sizeOf,typeInfo,hi,Builtin.lenOf,Builtin.firstCells]
   ·simp[Builtin.append_,run_underlying ht,sizeOf,typeInfo,hi,Builtin.lenOf,Builtin.firstCells,hnc,storeCells]
  ·subst hv;exact Ds w base t o.type e i z size bytes ht hi hz hsize hby hzs hsz v n xs hown ⟨g,0,none⟩ m cap ys hown2.1 (hown2.cells (g:=g) rfl) h1 h63 hbytes hbase
 obtain⟨A,B,C,G,E,D⟩:=C;unfold Oper.wp execOp;simp only[ho,resolve,invoke,builtin,Sem.run_bind,Sem.run_pure,Result.andThen_ok,List.map_toArray,ZQ,List.map_nil,hs,hx,C];exact hK _ _ (h A B G E D)
theorem DU (j:Nat) (hj:j<20) (w:World) :
  Calls Tryz.prog 6 #[.int .i64 j] w (λe w'=>e=.returned (.string ⟨(Nq.nm j).toArray⟩)∧Below w.heap.size w w'):=by
 have o:Below w.heap.size w (w.alloc (.cells #[.int .u8 (97+(j:Int))] 5)):=(Below.refl _ _).alloc (QM _) _;have B:=QA o;have hx:((UInt8.ofNat (97+j)).toNat:Int)=97+(j:Int):=by
  rw[UInt8.toNat_ofNat'];omega
 have A:=run_convert_bytes_back (P:=Tryz.prog) (w.alloc (.cells #[.int .u8 (97+(j:Int))] 5)) 24 9 5 ⟨w.heap.size,0,none⟩ 1 [UInt8.ofNat (97+j)] Tryz.underlying24 Tryz.underlying5 Tryz.underlying9 (λk hk=>by
  obtain rfl:k=0:=by simp at hk;omega
  have h:=AK w #[.int .u8 (97+(j:Int))] 5 (0,0) 0 _ rfl;show (w.alloc (.cells #[.int .u8 (97+(j:Int))] 5)).cell? ⟨w.heap.size,0,none⟩=some (.int .u8 ((UInt8.ofNat (97+j)).toNat:Int));rw[hx];exact h)
 rw[show ([UInt8.ofNat (97+j)]:List UInt8).length=1 from rfl]at A;have F:IntKind.u8.wrap (j:Int)=(j:Int):=by unfold IntKind.wrap IntKind.bits IntKind.signed;simp;omega
 have G:IntKind.u8.wrap (97+(j:Int))=97+(j:Int):=by unfold IntKind.wrap IntKind.bits IntKind.signed;simp;omega
 have C:((⟨#[70]⟩:ByteArray)++(⟨#[97+UInt8.ofNat j]⟩:ByteArray))=⟨(Nq.nm j).toArray⟩:=by
  have D:(97:UInt8)+UInt8.ofNat j=UInt8.ofNat (97+j):=by rw[UInt8.ofNat_add];rfl
  rw[D];apply ByteArray.ext;rw[ByteArray.data_append];rfl
 have E:=QA C;clear o hx C;go_enter Tryz.func6,Tryz.ntmps6;go_wp2_with fail;go_ret;refine⟨?_,B.out⟩;rw[← E.out];rfl
def Cp.d (p:Cp.Pb):D:=.obj [.int p.1,.int p.2]
def Cp.eqb (p q:Cp.Pb):Bool:=decide (p=q)
theorem Cp.eqb_true {p q:Cp.Pb} (h:p=q):Cp.eqb p q=true:=decide_eq_true h
theorem Cp.eqb_false {p q:Cp.Pb} (h:p≠q):Cp.eqb p q=false:=decide_eq_false h
def Pbs (w:World) (P:Nat→Prop) (v:Value) (l:List Cp.Pb):Prop:=Reads w P (.seq 2 (l.map Cp.d)) [v]
section
variable {w : World} {P : Nat → Prop}
theorem Pbs.form {v:Value} {l:List Cp.Pb} (h:Pbs w P v l):∃a c,v=.slice a l.length c:=by
 obtain⟨a,c,e,_⟩:=h.seq_inv;refine⟨a,c,?_⟩;rw[QV]at e
 simpa using e
theorem Pbs.at {a:Option Addr} {n c:Nat} {l:List Cp.Pb} (h:Pbs w P (.slice a n c) l) {j:Nat} {p:Cp.Pb} (hj:l[j]?=some p) :
  ∃g o,a=some ⟨g,o,none⟩∧P g∧g<w.heap.size∧w.cell? ⟨g,o+j*2,none⟩=some (.int .i64 p.1)∧w.cell? ⟨g,o+j*2+1,none⟩=some (.int .i64 p.2):=by
 obtain⟨E,G,e,C⟩:=h.seq_inv;rw[QV]at e;obtain⟨rfl,rfl,rfl⟩:a=E∧n=l.length∧c=G:=by simpa using e
 obtain⟨g,o,Q,F,J,D,O,A,K⟩:=C.at j (Cp.d p) (by rw[List.getElem?_map,hj];rfl);have B:=K.obj_inv;obtain⟨c1,R,rfl,L,M⟩:=B.cons_inv;obtain⟨c2,N,rfl,I,H⟩:=M.cons_inv;rw[L.int_inv,I.int_inv,H.nil_inv]at A;rw[Nat.zero_add]at A;exact⟨g,o,F,J,D,by have:=A 0 (.int .i64 p.1) rfl;rwa [Nat.add_zero]at this,A 1 (.int .i64 p.2) rfl⟩
theorem Pbs.to {w':World} {Q:Nat→Prop} {v:Value} {l:List Cp.Pb} (h:Pbs w P v l) (hs:AD w P w' Q):Pbs w' Q v l:=Reads.to hs h
theorem Pbs.len {a:Option Addr} {n c:Nat} {l:List Cp.Pb} (h:Pbs w P (.slice a n c) l):n=l.length:=by
 obtain⟨o,A,e⟩:=h.form;simp at e;exact e.2.1
end
@[go_sem high] theorem LQ (op : BinOp) (x y : Operand) (xs ys : Array Value) (w : World) : (eqGuard op 42 x y (.agg xs) (.agg ys)).run Tryz.prog w = .ok () w :=
 run_eqGuard_agg w op _ x y xs ys (by kernel_rfl)
theorem GN (a b c d:Int) (w:World):(Op.equalIn 10000 42 (.agg #[.int .i64 a,.int .i64 b]) (.agg #[.int .i64 c,.int .i64 d])).run Tryz.prog w=.ok (Cp.eqb (a,b) (c,d)) w:=by
 have B:=Tryz.underlying3;have D:=Tryz.isAgg3;have C:=Tryz.sizeOf3;have o:Tryz.prog.underlying 42=some (.struct (Tryz.prog.fieldsOf 42)):=by kernel_rfl
 have A:Tryz.prog.stoodInHeld 42=false:=by kernel_rfl
 rw[show (10000:Nat)=9999+1 from rfl,run_equalIn_agg w 9999 _ _ _ o A];simp only[Program.fieldsOf,Tryz.underlying42]
 go_simp
 unfold Cp.eqb;by_cases h1:a=c<;>by_cases h2:b=d<;>simp[h1,h2]
@[go_sem high] theorem La (a b c d : Int) (w : World) : (binOp .eql 42 (.agg #[.int .i64 a, .int .i64 b]) (.agg #[.int .i64 c, .int .i64 d])).run Tryz.prog w = .ok (.bool (Cp.eqb (a, b) (c, d))) w := by
 rw[run_eql_struct,GN];rfl
@[go_sem high] theorem LZ (a b c d : Int) (w : World) : (binOp .neq 42 (.agg #[.int .i64 a, .int .i64 b]) (.agg #[.int .i64 c, .int .i64 d])).run Tryz.prog w = .ok (.bool (!(Cp.eqb (a, b) (c, d)))) w := by
 rw[run_neq_struct,GN];rfl
theorem Jk {a b:List Cp.Pb} (h:a.length=b.length) (he:∀(i:Nat) x y,a[i]?=some x→b[i]?=some y→x=y):a=b:=by
 apply List.ext_getElem h;intro i h1 h2;exact he i _ _ (ZH h1) (ZH h2)
theorem Ej (x y:Value) (l m:List Cp.Pb) (w:World) (P Q:Nat→Prop) (hl:l.length≤9223372036854775807) (hx:Pbs w P x l) (hy:Pbs w Q y m) :
  Calls Tryz.prog 7 #[x,y] w λe w'=>e=.returned (.bool (decide (l=m)))∧∃n,w'=w.drewN n:=by
 obtain⟨xa,xc,rfl⟩:=hx.form;obtain⟨ya,yc,rfl⟩:=hy.form;have HX:=QA hx;have HY:=QA hy;clear hx hy;by_cases hlen:l.length=m.length;rotate_left
 ·have e0:((l.length:Int) != (m.length:Int))=true:=neT (by omega);have HF:Hid (decide (l=m)=false):=QA (decide_eq_false (λe=>hlen (by rw[e])));go_enter Tryz.func7,Tryz.ntmps7;go_wp2_with fail;go_ret;exact⟨by rw[HF.out];rfl,0,rfl⟩
 have e0:((l.length:Int) != (m.length:Int))=false:=neF (by omega);have C:=QA hlen;clear hlen;obtain⟨B,L⟩:∃B,B=decide (l=m):=⟨_,rfl⟩
 have X:=QA L;rw[← L];clear L;go_enter Tryz.func7,Tryz.ntmps7;go_wp2_with fail
 go_loopg [13] l.length (λk s wr=>∃j:Nat,j≤l.length∧k=l.length-j∧s=.int .i64 (j:Nat)∧(∀(i:Nat) p q,i<j→l[i]?=some p→m[i]?=some q→p=q)∧∃n,wr=w.drewN n)
 case atStart=>exact⟨0,Nat.zero_le _,rfl,rfl,λi _ _ h=>absurd h (Nat.not_lt_zero _),0,rfl⟩
 case round =>
  obtain⟨j,hj,S,rfl,I,n,G⟩:=hrel;have HK:=QA S;have W:=QA I;clear S I;have ah:(0:Int)≤(j:Int):=Int.natCast_nonneg _;by_cases hjn:j<l.length
  ·have H:(j:Int)<(l.length:Int):=by omega
   have V:(j:Int)<(m.length:Int):=by have:=C.out;omega
   obtain⟨p,K⟩:∃p,l[j]?=some p:=⟨_,ZH hjn⟩
   obtain⟨q,J⟩:∃q,m[j]?=some q:=⟨_,ZH (by omega)⟩
   obtain⟨g,o,rfl,-,hg,c1,c2⟩:=HX.out.at K;obtain⟨T,M,rfl,-,aa,F,D⟩:=HY.out.at J;obtain⟨Y,O⟩:=p;obtain⟨R,N⟩:=q
   dsimp only at c1 c2 F D
   have C1:∀k,(w.drewN k).cell? ⟨g,o+j*2,none⟩=some (.int .i64 Y):=λ_=>c1
   have C2:∀k,(w.drewN k).cell? ⟨g,o+j*2+1,none⟩=some (.int .i64 O):=λ_=>c2
   have D1:∀k,(w.drewN k).cell? ⟨T,M+j*2,none⟩=some (.int .i64 R):=λ_=>F
   have D2:∀k,(w.drewN k).cell? ⟨T,M+j*2+1,none⟩=some (.int .i64 N):=λ_=>D
   clear c1 c2 F D;have U:=QA K;have Z:=QA J;have ag:=QA G;clear K J;subst G;by_cases hpq:((Y,O):Cp.Pb)=(R,N)
   ·have hb:=Cp.eqb_true hpq;have E:=QA hpq;clear hpq;go_wp2_with fail;refine AO [] (by kernel_rfl) (by kernel_rfl) ?_;simp only[BM,QF,QN,List.drop_succ_cons,QL,Nat.sub_zero,Nat.reduceSub,Nat.reduceAdd]
    repeat (go_big_quiet_step (fail))
    refine wpQuiet_nil ?_;rintro _ ⟨nq,rfl⟩;go_wp2_with fail;go_roundg (l.length-(j+1))
    case measure=>rw[HK.out];omega
    case rel =>
     refine⟨j+1,by omega,rfl,by simp,λi p q hi A h2=>?_,_,rfl⟩;rcases ZV i j with h3|h3
     ·exact W.out i p q h3 A h2
     ·obtain rfl:i=j:=by omega
      rw[U.out]at A;rw[Z.out]at h2;cases A;cases h2;exact E.out
   ·have hb:=Cp.eqb_false hpq;have E:=QA hpq;clear hpq;go_wp2_with fail;refine AO [] (by kernel_rfl) (by kernel_rfl) ?_;simp only[BM,QF,QN,List.drop_succ_cons,QL,Nat.sub_zero,Nat.reduceSub,Nat.reduceAdd]
    repeat (go_big_quiet_step (fail))
    refine wpQuiet_nil ?_;rintro _ ⟨nq,rfl⟩;go_wp2_with fail;go_ret;refine⟨?_,_,World.drewN_drewN _ _ _⟩;rw[X.out,decide_eq_false]
    ·rfl
    intro e;have A:=U.out;rw[e,Z.out]at A;exact E.out (Option.some.inj A).symm
  ·have H:(l.length:Int)≤(j:Int):=by omega
   subst G;go_wp2_with fail;go_ret;refine⟨?_,_,rfl⟩;rw[X.out,decide_eq_true]
   ·rfl
   refine Jk C.out λi x y A h2=>W.out i x y ?_ A h2
   have:=(List.getElem?_eq_some_iff.1 A).1;omega
end Go.Proofs.YtedeapbonbbacaaGreatDoor
