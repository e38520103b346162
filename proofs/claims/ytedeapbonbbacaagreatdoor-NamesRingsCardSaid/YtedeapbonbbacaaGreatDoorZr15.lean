/-
  Values as data in memory; a captured variable that grows. The reader: what is done for each item of a list, each field of an object, each argument (closures), walked.
-/
import Derived.Test.YtedeapbonbbacaaGreatDoorZr14
import Derived.Test.YtedeapbonbbacaaGreatDoorZr8
import Derived.Maps.AppendAt
open Go.Lib renaming hid → QA
open List renaming setIfInBounds_toArray → QC, drop_succ_cons → QE, take_succ_cons → QF, set_cons_succ → QG, set_cons_zero → QH, drop_zero → QL, take_zero → QN
open Nat renaming le_refl → QM, le_trans → QQ, add_sub_cancel_left → QU, reduceAdd → QW, lt_of_lt_of_le → ZU
namespace Go.Proofs.YtedeapbonbbacaaGreatDoor
set_option maxRecDepth 100000
set_option maxHeartbeats 4000000
set_option linter.unusedSimpArgs false
set_option linter.unusedVariables false
open Go Go.RowKit
namespace Rd
mutual
def V.d:V→D
 | .mk k t items fields a=>.obj [.int k,.str t,.seq 5 (V.dl items),.seq 7 (A.dl fields),.int a]
def V.dl:List V→List D
 | []=>[]
 | x::r=>V.d x::V.dl r
def A.d:A→D
 | .mk n v a=>.obj [.str n,V.d v,.int a]
def A.dl:List A→List D
 | []=>[]
 | x::r=>A.d x::A.dl r
end
theorem V.dl_map:∀l:List V,V.dl l=l.map V.d
 | []=>rfl
 | x::r=>by rw[V.dl,V.dl_map r];rfl
theorem A.dl_map:∀l:List A,A.dl l=l.map A.d
 | []=>rfl
 | x::r=>by rw[A.dl,A.dl_map r];rfl
end Rd
abbrev Box:=Nat×Obj
def LB (t6:Nat) (bx:List Box):Nat:=bx.foldr (λp m=>max (p.1+1) m) (t6+1)
theorem BN (t6:Nat):∀(bx:List Box),t6+1≤LB t6 bx
 | []=>QM _
 | p::bx=>QQ (BN t6 bx) (Nat.le_max_right _ _)
theorem Ir {t6:Nat} {p:Box}:∀{bx:List Box},p∈bx→p.1+1≤LB t6 bx
 | q::bx,h=>by
  show _≤max (q.1+1) (LB t6 bx);rcases List.mem_cons.1 h with rfl|h
  ·exact Nat.le_max_left _ _
  ·exact QQ (Ir h) (Nat.le_max_right _ _)
theorem KX {t6 n:Nat} (h6:t6<n):∀{bx:List Box},(∀p∈bx,p.1<n)→LB t6 bx≤n
 | [],_=>h6
 | q::bx,h=>Nat.max_le.2 ⟨h q List.mem_cons_self,KX h6 (λp hp=>h p (List.mem_cons_of_mem _ hp))⟩
structure LI (w0:World) (b g t6:Nat) (bx:List Box) (T6:TypeId) (mk:Value→Array Value) (E:TypeId) (k:Nat) (s:Rd.St) (ds:List D) (w:World):Prop where
 rd:AL w b g s
 cb:∀p∈bx,w.heap[p.1]?=some p.2
 ex:∃v,w.heap[t6]?=some (.cells (mk v) T6 (0,0))∧AY w (λx=>t6<x∧v.ownBlock≠some x) (LB t6 bx) E k v ds
 fr:Fr b w0 w
 lb:b<w0.heap.size
 lg:g<w0.heap.size
 lx0:∀p∈bx,w0.heap.size≤p.1∧p.1≠t6
 l6:w0.heap.size≤t6
section
variable {w0 w w' : World} {b g t6 k : Nat} {bx : List Box} {T6 E : TypeId} {mk : Value → Array Value} {s s' : Rd.St} {ds : List D}
theorem LI.lx (h:LI w0 b g t6 bx T6 mk E k s ds w):∀p∈bx,w0.heap.size≤p.1∧p.1≠t6∧p.1<LB t6 bx:=λp hp=>⟨(h.lx0 p hp).1,(h.lx0 p hp).2,Ir hp⟩
theorem LI.low (h:LI w0 b g t6 bx T6 mk E k s ds w):LB t6 bx≤w.heap.size:=by
 obtain⟨v,o,A⟩:=h.ex;exact KX (block_lt o) (λp hp=>block_lt (h.cb p hp))
theorem LI.step (h:LI w0 b g t6 bx T6 mk E k s ds w) (hr:AL w' b g s') (hf:Fr b w w'):LI w0 b g t6 bx T6 mk E k s' ds w':=by
 obtain⟨v,B,A⟩:=h.ex;have e:∀x,x<w.heap.size→x≠b→w'.heap[x]?=w.heap[x]?:=λx hx hb=>hf.block x hx hb
 have lb:=h.lb;have l6:=h.l6;have D:=BN t6 bx;refine⟨hr,λp hp=>?_,⟨v,by rw[e _ (block_lt B) (by omega)];exact B,A.to ?_ (λx hx=>⟨λy=>y.2 hx,e _ (A.lt x hx).2 (by have:=(A.lt x hx).1;omega)⟩)⟩,h.fr.trans hf,h.lb,h.lg,h.lx0,h.l6⟩
 ·have o:=h.cb p hp;have C:=h.lx p hp;rw[e _ (block_lt o) (by omega)];exact o
 ·exact⟨hf.size,λx hx hp=>⟨hp,e x hx (by omega)⟩⟩
theorem LI.below (h:LI w0 b g t6 bx T6 mk E k s ds w) (hb:Below w.heap.size w w'):LI w0 b g t6 bx T6 mk E k s ds w':=h.step (h.rd.below hb) (But.of_below hb)
theorem LI.cellx (h:LI w0 b g t6 bx T6 mk E k s ds w) {t:Nat} {v:Value} {T:TypeId} (hp:(t,Obj.cells #[v] T (0,0))∈bx):w.cell? ⟨t,0,none⟩=some v:=by
 have:=h.cb _ hp;simp only at this;simp[World.cell?,this]
theorem LI.cellf (h:LI w0 b g t6 bx T6 mk E k s ds w) (hf:Fr b w w') {t:Nat} {v:Value} {T:TypeId} (hp:(t,Obj.cells #[v] T (0,0))∈bx):w'.cell? ⟨t,0,none⟩=some v:=by
 have o:=h.cb _ hp;have A:=h.lx _ hp;have:=h.lb;simp only at o A;rw[hf.cell (p:=⟨t,0,none⟩) (block_lt o) (by show ¬t=b;omega)];exact h.cellx hp
end
def putCells (w:World) (g o:Nat):List Value→World
 | []=>w
 | c::cs=>putCells (w.setCell ⟨g,o,none⟩ c) g (o+1) cs
theorem AV (g:Nat):∀(cs:List Value) (o:Nat) (w:World),(putCells w g o cs).heap.size=w.heap.size
 | [],o,w=>rfl
 | c::cs,o,w=>by
  show (putCells _ g (o+1) cs).heap.size=_;rw[AV g cs,AP]
theorem AX (g x:Nat) (h:x≠g):∀(cs:List Value) (o:Nat) (w:World),(putCells w g o cs).heap[x]?=w.heap[x]?
 | [],o,w=>rfl
 | c::cs,o,w=>by
  show (putCells _ g (o+1) cs).heap[x]?=_;rw[AX g x h cs,AJ h]
theorem Ak (g:Nat):∀(cs:List Value) (o:Nat) (w:World),(putCells w g o cs).os=w.os∧(putCells w g o cs).tape=w.tape∧(putCells w g o cs).output=w.output
 | [],o,w=>⟨rfl,rfl,rfl⟩
 | c::cs,o,w=>Ak g cs (o+1) _
theorem Bu {base k n g cap:Nat} {E:TypeId}:∀(cs zs:List Value) (xs:List Value) (w:World),zs.length=cs.length →
  w.ownsRow base E k (.slice (some ⟨g,0,none⟩) n cap) n (xs++zs)→(putCells w g xs.length cs).ownsRow base E k (.slice (some ⟨g,0,none⟩) n cap) n (xs++cs)
 | [],zs,xs,w,hl,h=>by
  have:zs=[]:=List.eq_nil_of_length_eq_zero hl;subst this;exact h
 | c::cs,[],xs,w,hl,h=>by cases hl
 | c::cs,z::zs,xs,w,hl,h=>by
  have o:=(h.stored xs.length c).1;have e:(xs++z::zs).set xs.length c=(xs++[c])++zs:=by
   rw[List.set_append_right _ _ (QM _),Nat.sub_self,List.append_assoc];rfl
  rw[e]at o;have A:=Bu cs zs (xs++[c]) _ (by simpa using hl) o;rw[List.length_append,List.append_assoc]at A;exact A
section
variable {w0 w w8 w' : World} {b g t6 k : Nat} {bx : List Box} {T6 E : TypeId} {mk : Value → Array Value} {s : Rd.St} {ds : List D} {d : D} {cs xs : List Value} {v v' : Value} {g' : Nat}
theorem LI.more (h:LI w0 b g t6 bx T6 mk E k s ds w) (hx:w.ownsRow (LB t6 bx) E k v ds.length xs) (hR:AZ w (λx=>t6<x∧v.ownBlock≠some x) k ds xs) (hd:Reads w (λx=>t6<x∧v.ownBlock≠some x) d cs)
  (hlen:cs.length=k) (hg:w.grownBy w8 v.ownBlock) (hg':v'.ownBlock=some g') (hlo:LB t6 bx≤g') (hloc:v'.ownBlock=v.ownBlock∨v'.ownBlock=some w.heap.size)
  (hrow:w'.ownsRow (LB t6 bx) E k v' (ds.length+1) (xs++cs)) (h6':w'.heap[t6]?=some (.cells (mk v') T6 (0,0))) (hsz:w8.heap.size≤w'.heap.size)
  (hk:∀x,x≠t6→x≠g'→w'.heap[x]?=w8.heap[x]?) (ho:w'.os=w8.os∧w'.tape=w8.tape∧w'.output=w8.output) :
  LI w0 b g t6 bx T6 mk E k s (ds++[d]) w':=by
 have lb:=h.lb;have lg:=h.lg;have l6:=h.l6;have M:=BN t6 bx;have I:∀x,v.ownBlock=some x→LB t6 bx≤x∧x<w.heap.size:=hx.lt;have L:∀x,x<w.heap.size→v.ownBlock≠some x→w8.heap[x]?=w.heap[x]?:=λx hx2 hne=>hg.block x hx2 (λe=>hne e.symm)
 have C:∀x,x<w.heap.size→v.ownBlock≠some x→x≠t6→w'.heap[x]?=w.heap[x]?:=λx hx2 hne h6=>by
  rw[hk x h6 (λe=>by
   subst e;rcases hloc with e2|e2
   ·exact hne (by rw[← e2];exact hg')
   ·rw[hg']at e2;simp only[Option.some.injEq]at e2;omega)]
  exact L x hx2 hne
 have o:∀x,x<t6→v.ownBlock≠some x:=λx hx2 e=>by have:=I x e;omega
 have F:w.heap.size≤w'.heap.size:=QQ hg.size hsz;have K:b<w.heap.size:=h.rd.lt.1;have G:g<w.heap.size:=h.rd.lt.2;have D:AD w (λx=>t6<x∧v.ownBlock≠some x) w' (λx=>t6<x∧v'.ownBlock≠some x):=⟨F,λx hx2 hp=>⟨⟨hp.1,λe=>by
  rcases hloc with e2|e2
  ·exact hp.2 (by rw[← e2];exact e)
  ·rw[e2]at e;simp only[Option.some.injEq]at e;omega⟩,C x hx2 hp.2 (by omega)⟩⟩
 refine⟨h.rd.to F (C b K (o b (by omega)) (by omega)) (C g G (o g (by omega)) (by omega)),λp hp=>?_,⟨v',h6',⟨xs++cs,?_,((hR.to D).snoc (hd.to D) hlen)⟩,λx e hp=>hp.2 e⟩,?_,lb,lg,h.lx0,l6⟩
 ·have B:=h.cb p hp;have J:=h.lx p hp;rw[C p.1 (block_lt B) (λe=>by have:=(I _ e).1;omega) (by omega)];exact B
 ·rw[List.length_append];exact hrow
 ·have A:=h.fr;refine⟨(ho.1.trans hg.os).trans A.os,(ho.2.1.trans hg.tape).trans A.tape,(ho.2.2.trans hg.output).trans A.output,QQ A.size F,λx hx2 hxb=>?_⟩;have H:x<w.heap.size:=ZU hx2 A.size;rw[C x H (o x (by omega)) (by omega)];exact A.block x hx2 hxb
theorem LI.h6 (h:LI w0 b g t6 bx T6 mk E k s ds w) (hx:w.ownsRow (LB t6 bx) E k v ds.length xs) (hg:w.grownBy w8 v.ownBlock) (h6:w.heap[t6]?=some (.cells (mk v) T6 (0,0))):w8.heap[t6]?=some (.cells (mk v) T6 (0,0)):=by
 rw[hg.block t6 (block_lt h6) (λe=>by have:=(hx.lt t6 e.symm).1;have:=BN t6 bx;omega)];exact h6
theorem LI.end1 {c jj o:Nat} {zs:List Value} (h:LI w0 b g t6 bx T6 mk E k s ds w) (hx:w.ownsRow (LB t6 bx) E k v ds.length xs) (hR:AZ w (λx=>t6<x∧v.ownBlock≠some x) k ds xs) (hd:Reads w (λx=>t6<x∧v.ownBlock≠some x) d cs)
  (hlen:cs.length=k) (hg:w.grownBy w8 v.ownBlock) (hloc:(Value.slice (some ⟨g',0,none⟩) (ds.length+1) c).ownBlock=v.ownBlock∨(Value.slice (some ⟨g',0,none⟩) (ds.length+1) c).ownBlock=some w.heap.size)
  (h6:w.heap[t6]?=some (.cells (mk v) T6 (0,0))) (hrow:w8.ownsRow (LB t6 bx) E k (.slice (some ⟨g',0,none⟩) (ds.length+1) c) (ds.length+1) (xs++zs)) (hzl:zs.length=cs.length) (ho:o=xs.length)
  (hmk:(mk v).setIfInBounds jj (.slice (some ⟨g',0,none⟩) (ds.length+1) c)=mk (.slice (some ⟨g',0,none⟩) (ds.length+1) c)) :
  LI w0 b g t6 bx T6 mk E k s (ds++[d]) ((putCells w8 g' o cs).setCell ⟨t6,jj,none⟩ (.slice (some ⟨g',0,none⟩) (ds.length+1) c)):=by
 subst ho;have B:=(hrow.lt g' rfl).1;have D:=BN t6 bx;have A:=h.h6 hx hg h6;have C:=Ak g' cs xs.length w8;refine h.more hx hR hd hlen hg rfl B hloc (BG (Bu cs zs xs w8 hzl hrow) (λx e=>?_)) ?_ (by rw[AP,AV];exact QM _) (λx h1 h2=>by rw[AJ h1,AX _ _ h2]) ⟨C.1,C.2.1,C.2.2⟩
 ·have:g'=x:=by simpa [Value.ownBlock] using e
  exact AJ (by omega)
 ·rw[Ai (cs:=mk v) (T:=T6) (fz:=(0,0)) (by rw[AX _ _ (by omega)];exact A),hmk]
theorem LI.end2 {c jj o:Nat} {zs:List Value} (h:LI w0 b g t6 bx T6 mk E k s ds w) (hx:w.ownsRow (LB t6 bx) E k v ds.length xs) (hR:AZ w (λx=>t6<x∧v.ownBlock≠some x) k ds xs) (hd:Reads w (λx=>t6<x∧v.ownBlock≠some x) d cs)
  (hlen:cs.length=k) (hg:w.grownBy w8 v.ownBlock) (hloc:(Value.slice (some ⟨g',0,none⟩) (ds.length+1) c).ownBlock=v.ownBlock∨(Value.slice (some ⟨g',0,none⟩) (ds.length+1) c).ownBlock=some w.heap.size)
  (h6:w.heap[t6]?=some (.cells (mk v) T6 (0,0))) (hrow:w8.ownsRow (LB t6 bx) E k (.slice (some ⟨g',0,none⟩) (ds.length+1) c) (ds.length+1) (xs++zs)) (hzl:zs.length=cs.length) (ho:o=xs.length)
  (hmk:(mk v).setIfInBounds jj (.slice (some ⟨g',0,none⟩) (ds.length+1) c)=mk (.slice (some ⟨g',0,none⟩) (ds.length+1) c)) :
  LI w0 b g t6 bx T6 mk E k s (ds++[d]) (putCells (w8.setCell ⟨t6,jj,none⟩ (.slice (some ⟨g',0,none⟩) (ds.length+1) c)) g' o cs):=by
 subst ho;have B:=(hrow.lt g' rfl).1;have D:=BN t6 bx;have A:=h.h6 hx hg h6;have C:=Ak g' cs xs.length (w8.setCell ⟨t6,jj,none⟩ (.slice (some ⟨g',0,none⟩) (ds.length+1) c));refine h.more hx hR hd hlen hg rfl B hloc (Bu cs zs xs _ hzl (BG hrow (λx e=>?_))) ?_ (by rw[AV,AP];exact QM _) (λx h1 h2=>by rw[AX _ _ h2,AJ h1]) ⟨C.1,C.2.1,C.2.2⟩
 ·have:g'=x:=by simpa [Value.ownBlock] using e
  exact AJ (by omega)
 ·rw[AX _ _ (by omega),Ai (cs:=mk v) (T:=T6) (fz:=(0,0)) A,hmk]
theorem LI.end0 {c jj:Nat} (h:LI w0 b g t6 bx T6 mk E k s ds w) (hx:w.ownsRow (LB t6 bx) E k v ds.length xs) (hR:AZ w (λx=>t6<x∧v.ownBlock≠some x) k ds xs) (hd:Reads w (λx=>t6<x∧v.ownBlock≠some x) d cs)
  (hlen:cs.length=k) (hg:w.grownBy w8 v.ownBlock) (hloc:(Value.slice (some ⟨g',0,none⟩) (ds.length+1) c).ownBlock=v.ownBlock∨(Value.slice (some ⟨g',0,none⟩) (ds.length+1) c).ownBlock=some w.heap.size)
  (h6:w.heap[t6]?=some (.cells (mk v) T6 (0,0))) (hrow:w8.ownsRow (LB t6 bx) E k (.slice (some ⟨g',0,none⟩) (ds.length+1) c) (ds.length+1) (xs++cs))
  (hmk:(mk v).setIfInBounds jj (.slice (some ⟨g',0,none⟩) (ds.length+1) c)=mk (.slice (some ⟨g',0,none⟩) (ds.length+1) c)) :
  LI w0 b g t6 bx T6 mk E k s (ds++[d]) (w8.setCell ⟨t6,jj,none⟩ (.slice (some ⟨g',0,none⟩) (ds.length+1) c)):=by
 have A:=(hrow.lt g' rfl).1;have B:=BN t6 bx;have o:=h.h6 hx hg h6;refine h.more hx hR hd hlen hg rfl A hloc (BG hrow (λx e=>?_)) ?_ (by rw[AP];exact QM _) (λx h1 h2=>by rw[AJ h1]) ⟨rfl,rfl,rfl⟩
 ·have:g'=x:=by simpa [Value.ownBlock] using e
  exact AJ (by omega)
 ·rw[Ai (cs:=mk v) (T:=T6) (fz:=(0,0)) o,hmk]
end
theorem LM:(Tryz.prog.info? 105).map (λi=>(i.zero,i.size,i.bytes))=some (some (.agg #[.int .i64 0,.string ⟨#[]⟩,.slice none 0 0,.slice none 0 0,.int .i64 0]),5,80):=by kernel_rfl
theorem Ke:(Tryz.prog.info? 151).map (λi=>(i.zero,i.size,i.bytes))=some (some (.agg #[.string ⟨#[]⟩,.int .i64 0,.string ⟨#[]⟩,.slice none 0 0,.slice none 0 0,.int .i64 0,.int .i64 0]),7,104):=by kernel_rfl
def Got (b g:Nat) (w:World) (d:D) (s:Rd.St) (r:Ending) (w':World):Prop :=
 ∃cs:List Value,r=.returned (.agg cs.toArray)∧Reads w' (λx=>w.heap.size≤x) d cs∧AL w' b g s∧Fr b w w'
def BW (at_:Nat) (v:Value):Array Value:=#[.int .i64 8,.string ⟨#[]⟩,v,.slice none 0 0,.int .i64 at_]
def BJ (at_:Nat) (v:Value):Array Value:=#[.int .i64 9,.string ⟨#[]⟩,.slice none 0 0,v,.int .i64 at_]
def BA (v:Value):Array Value:=#[v]
theorem Au {w:World} {base:Nat} {t:TypeId} {k n:Nat} {v:Value} {cs:List Value} (h:w.ownsRow base t k v n cs) (hn:0<n):∃g c,v=.slice (some ⟨g,0,none⟩) n c∧base≤g∧g<w.heap.size:=by
 rcases h.2 with⟨_,h2⟩|⟨g,cap,cur,hv,hb,hc,_⟩
 ·omega
 ·exact⟨g,cap,hv,hb,block_lt hc⟩
theorem Co {w:World} {P:Nat→Prop} {v:Rd.V} {cs:List Value} (h:Reads w P v.d cs):∃(k a:Int) (t:ByteArray) (a1 a2:Option Addr) (n1 c1 n2 c2:Nat),cs=[.int .i64 k,.string t,.slice a1 n1 c1,.slice a2 n2 c2,.int .i64 a]:=by
 obtain⟨k,t,o,fields,a⟩:=v;rw[Rd.V.d]at h;obtain⟨T,W,rfl,C,I⟩:=h.obj_inv.cons_inv;obtain⟨Y,Q,rfl,G,J⟩:=I.cons_inv;obtain⟨R,M,rfl,B,E⟩:=J.cons_inv;obtain⟨X,N,rfl,H,D⟩:=E.cons_inv;obtain⟨O,K,rfl,A,F⟩:=D.cons_inv;obtain rfl:=C.int_inv;obtain rfl:=G.str_inv;obtain⟨L,U,rfl,_⟩:=B.seq_inv;obtain⟨b2,S,rfl,_⟩:=H.seq_inv;obtain rfl:=A.int_inv;obtain rfl:=F.nil_inv;exact⟨_,_,_,_,_,_,_,_,_,rfl⟩
theorem Hj {w:World} {P:Nat→Prop} {x:Rd.A} {cs:List Value} (h:Reads w P x.d cs):∃(nm:ByteArray) (k a b:Int) (t:ByteArray) (a1 a2:Option Addr) (n1 c1 n2 c2:Nat),cs=[.string nm,.int .i64 k,.string t,.slice a1 n1 c1,.slice a2 n2 c2,.int .i64 a,.int .i64 b]:=by
 obtain⟨n,v,a⟩:=x;rw[Rd.A.d]at h;obtain⟨J,K,rfl,B,E⟩:=h.obj_inv.cons_inv;obtain⟨L,H,rfl,D,F⟩:=E.cons_inv;obtain⟨I,G,rfl,o,C⟩:=F.cons_inv;obtain rfl:=B.str_inv;obtain rfl:=o.int_inv;obtain rfl:=C.nil_inv;obtain⟨k,a,t,a1,a2,n1,c1,n2,c2,rfl⟩:=Co D;exact⟨_,_,_,_,_,_,_,_,_,_,_,rfl⟩
theorem AU {w:World} {L:Nat} {zs:List Value} {T:TypeId} {fz:Nat×Nat} (h:w.heap[L]?=some (.cells zs.toArray T fz)):∀j u,zs[j]?=some u→w.cell? ((⟨L,0,none⟩:Addr).add j)=some u:=by
 intro j u hj;rw[CU];simp[World.cell?,h,hj]
theorem AG {w:World} {base g n cap k:Nat} {E:TypeId} {xs:List Value} (h:w.ownsRow base E k (.slice (some ⟨g,0,none⟩) n cap) n xs) (j:Nat) (u:Value) (hj:xs[j]?=some u):w.cell? ⟨g,j,none⟩=some u:=by
 have:=World.ownsRow.cells h (g:=g) rfl j u hj
 rwa [CU]at this
theorem IZ (w0:World) (b g t6:Nat) (bx:List Box) (t2 t3:Nat) (fixed:Bool) (at_ m:Nat) (hbx0:(t2,Obj.cells #[(.pointer (some ⟨b,0,none⟩))] 97 (0,0))∈bx) (hbx1:(t3,Obj.cells #[(.bool fixed)] 4 (0,0))∈bx) (s:Rd.St) (ds:List D) (w:World)
  (hval:∀w,AL w b g s→Calls Tryz.prog 68 #[(.pointer (some ⟨b,0,none⟩)),(.bool fixed)] w (Got b g w (Rd.value fixed m s).2.d (Rd.value fixed m s).1))
  (h:LI w0 b g t6 bx 105 (BW at_) 105 5 s ds w) (hl:ds.length≤1000000) :
  Calls Tryz.prog 95 #[.pointer (some ⟨t6,0,none⟩),.pointer (some ⟨t2,0,none⟩),.pointer (some ⟨t3,0,none⟩)] w λr w'=>r=.returned (.tuple #[])∧LI w0 b g t6 bx 105 (BW at_) 105 5 (Rd.value fixed m s).1 (ds++[(Rd.value fixed m s).2.d]) w':=by
 obtain⟨i0,hi,aA,am,au⟩:=info_parts LM;obtain⟨v,h6,hG⟩:=h.ex;obtain⟨G,F,hv⟩:=hG.form;subst hv;obtain⟨⟨xs,hx,az⟩,aF⟩:=hG;have ad:∀x,(Value.slice G ds.length F).ownBlock=some x→LB t6 bx≤x∧x<w.heap.size:=hx.lt;have aN:=BN t6 bx;have O:=block_lt h6;have lb:=h.lb;have l6:=h.l6;have aW:(0:Int)≤(ds.length:Int):=Int.natCast_nonneg _;have aV:(ds.length:Int)<(ds.length:Int)+1:=by omega
 obtain⟨s',ax⟩:∃x,x=(Rd.value fixed m s).1:=⟨_,rfl⟩
 obtain⟨d,af⟩:∃x,x=(Rd.value fixed m s).2.d:=⟨_,rfl⟩
 obtain⟨zs,al⟩:∃x,x=[Value.int .i64 0,.string ⟨#[]⟩,.slice none 0 0,.slice none 0 0,.int .i64 0]:=⟨_,rfl⟩
 have aq:Hid (∀(w:World) (P:Nat→Prop) (cs:List Value),Reads w P d cs→∃(k a:Int) (t:ByteArray) (a1 a2:Option Addr) (n1 c1 n2 c2:Nat),cs=[.int .i64 k,.string t,.slice a1 n1 c1,.slice a2 n2 c2,.int .i64 a]) :=
  QA λw P cs hh=>Co (by rw[← af];exact hh)
 rw[← ax,← af]at hval ⊢;have H:=QA h;have an:=QA az;have H6:=QA h6;have aw:=QA ad;have ae:=QA hval;have C:=QA al;have R:Hid (zs.length=1*5):=by rw[al];exact QA rfl
 have ar:Hid (∀w',Fr b w w'→AD w (λx=>t6<x∧(Value.slice G ds.length F).ownBlock≠some x) w' (λx=>t6<x∧(Value.slice G ds.length F).ownBlock≠some x)) :=
  QA λw' Z=>⟨Z.size,λx hx2 hp=>⟨hp,Z.block x hx2 (by omega)⟩⟩
 have aa:Hid (∀w',Fr b w w'→w'.ownsRow (LB t6 bx) 105 5 (.slice G ds.length F) ds.length xs):=QA λw' Z=>BG hx (λx hx2=>Z.block x (ad x hx2).2 (by have:=(ad x hx2).1;omega))
 have hS:w.cell? ⟨t6,2,none⟩=some (.slice G ds.length F)∧w.cell? ⟨t2,0,none⟩=some (.pointer (some ⟨b,0,none⟩))∧w.cell? ⟨t3,0,none⟩=some (.bool fixed) :=
  ⟨by simp[World.cell?,h6,BW],h.cellx hbx0,h.cellx hbx1⟩
 have aJ:=QA hS;have ac:Hid (∀w',Fr b w w'→w'.cell? ⟨t6,2,none⟩=some (.slice G ds.length F)∧w'.cell? ⟨t2,0,none⟩=some (.pointer (some ⟨b,0,none⟩))∧w'.cell? ⟨t3,0,none⟩=some (.bool fixed)):=by
  refine QA λw' Z=>⟨?_,h.cellf Z hbx0,h.cellf Z hbx1⟩
  rw[Z.cell (p:=⟨t6,2,none⟩) O (by show ¬t6=b;omega)];exact aJ.out.1
 clear h hx az h6 ad hval ax af al aF;go_enter Tryz.func95,Tryz.ntmps95;go_wp2_with fail;refine AH (λw'=>w'.cell? ⟨t6,2,none⟩=some (.slice G ds.length F)∧w'.cell? ⟨t2,0,none⟩=some (.pointer (some ⟨b,0,none⟩))∧w'.cell? ⟨t3,0,none⟩=some (.bool fixed)) 7 (by kernel_rfl) ?_;refine TK (i:=0) (v:=(.pointer (some ⟨t6,2,none⟩))) rfl (Or.inl ⟨by rfl,λw hSw=>by obtain⟨s0,s1,s2⟩:=hSw;go_simp⟩) hS ?_;simp only[Act.put,QC,QH,QG];refine TK (i:=1) (v:=(.slice G ds.length F)) rfl (Or.inl ⟨by rfl,λw hSw=>by obtain⟨s0,s1,s2⟩:=hSw;go_simp⟩) hS ?_;simp only[Act.put,QC,QH,QG];refine TK (i:=2) (v:=(.pointer (some ⟨b,0,none⟩))) rfl (Or.inl ⟨by rfl,λw hSw=>by obtain⟨s0,s1,s2⟩:=hSw;go_simp⟩) hS ?_;simp only[Act.put,QC,QH,QG];refine TK (i:=3) (v:=(.bool fixed)) rfl (Or.inl ⟨by rfl,λw hSw=>by obtain⟨s0,s1,s2⟩:=hSw;go_simp⟩) hS ?_;simp only[Act.put,QC,QH,QG];refine TK (i:=5) (v:=(.int .i64 ds.length)) rfl (Or.inl ⟨by rfl,λw hSw=>by obtain⟨s0,s1,s2⟩:=hSw;go_simp⟩) hS ?_;simp only[Act.put,QC,QH,QG];clear hS;refine AR (i:=4) (k:=6) (by kernel_rfl) ?_ ?_
 ·refine AB (by decide) (λK4 HK4=>?_);simp only[QE,QL,QF,QN];go_wp2_with fail;refine (ae.out w.drew (H.out.rd.to (QM _) rfl rfl)).mono ?_;rintro r w2 ⟨cs,rfl,hrd,hr2,hf2⟩;have Z:Fr b w w2:=⟨hf2.os,hf2.tape,hf2.output,hf2.size,hf2.block⟩
  obtain⟨k,a,t,a1,a2,n1,c1,n2,c2,rfl⟩:=aq.out _ _ _ hrd;have ai:=QA hrd;have HF:=QA Z;have ak:=QA hr2;clear hrd hr2 hf2 Z;go_wp2_with fail;refine HK4.out _ _ ⟨λ_=>ac.out _ HF.out,?_⟩;clear HK4;refine TO (i:=6) ?_;refine AB (by decide) (λK6 HK6=>?_);simp only[QE,QL,QF,QN];go_wp2_with fail;have I:Hid (Below w2.heap.size w2 (w2.alloc (.cells #[.int .i64 0,.string ⟨#[]⟩,.slice none 0 0,.slice none 0 0,.int .i64 0] 105))):=QA ((Below.refl _ _).alloc (QM _) _);have N:=QA (HF.out.trans (But.of_below (X:=λk=>k=b) I.out));refine HK6.out _ _ ⟨λ_=>ac.out _ N.out,?_⟩;clear HK6;have E:=QA ((H.out.step ak.out HF.out).below I.out);have S:=QA (aa.out _ N.out);have T:=QA (an.out.to (ar.out _ N.out));have K:Hid ((w2.alloc (.cells #[.int .i64 0,.string ⟨#[]⟩,.slice none 0 0,.slice none 0 0,.int .i64 0] 105)).heap[t6]?=some (.cells ((BW at_) (.slice G ds.length F)) 105 (0,0))):=QA (by rw[N.out.block t6 O (by omega)];exact H6.out);have HD:=QA (ai.out.to (w':=w2.alloc (.cells #[.int .i64 0,.string ⟨#[]⟩,.slice none 0 0,.slice none 0 0,.int .i64 0] 105)) (Q:=λx=>t6<x∧(Value.slice G ds.length F).ownBlock≠some x) ⟨I.out.size,λx hx2 hp=>⟨⟨ZU O hp,λe=>by have h1:=(aw.out x e).2;have h2:w.heap.size≤x:=hp;omega⟩,I.out.block x hx2⟩⟩);have W:Hid (∀j u,zs[j]?=some u→(w2.alloc (.cells #[.int .i64 0,.string ⟨#[]⟩,.slice none 0 0,.slice none 0 0,.int .i64 0] 105)).cell? ((⟨w2.heap.size,0,none⟩:Addr).add j)=some u):=QA (AU (fz:=(0,0)) (by rw[C.out];exact AC _ _));have M:LB t6 bx≤(w2.alloc (.cells #[.int .i64 0,.string ⟨#[]⟩,.slice none 0 0,.slice none 0 0,.int .i64 0] 105)).heap.size:=E.out.low;have V:Hid (∀u∈zs,u.oneCell'=true):=QA (by rw[C.out];intro u hu;simp at hu;rcases hu with rfl|rfl|rfl|rfl|rfl<;>rfl);refine TO (i:=7) ?_;refine AB (by decide) (λK7 HK7=>?_);simp only[QE,QL,QF,QN];go_wp2_with (first|(at_builtin;refine wpList_append_own_at _ rfl _ _ 103 rfl (LB t6 bx) 105 i0 _ 5 80 Tryz.underlying103 hi aA am au rfl (by decide) (.slice G ds.length F) ds.length xs rfl S.out ⟨w2.heap.size,0,none⟩ 1 1 zs rfl R.out W.out V.out (by unfold maxLen;omega) (by omega) M ?_;intro v' w8 hrow8 hg8 hnil8 hloc8;clear hnil8;obtain⟨g',c',rfl,aK,aH⟩:=Au hrow8 (by omega);have o:=QA hrow8;have L:=QA hg8;have Y:=QA hloc8;clear hrow8 hg8 hloc8)|fail);refine HK7.out _ _ ⟨λh=>absurd h (by decide),?_⟩;clear HK7;refine TA (i:=8) (v:=(.pointer (some ⟨g',(ds.length*5),none⟩))) rfl (Or.inl ⟨by rfl,λw _=>by go_simp⟩) ?_;simp only[Act.put,QC,QH,QG];refine TA (i:=10) (v:=(.pointer (some ⟨t6,2,none⟩))) rfl (Or.inl ⟨by rfl,λw _=>by go_simp⟩) ?_;simp only[Act.put,QC,QH,QG];have J:=E.out.h6 S.out L.out K.out;have y6:w8.cell? ⟨t6,2,none⟩=some (.slice G ds.length F):=by simp[World.cell?,J,BW]
  have y7:w8.frozen? ⟨t6,2,none⟩=false:=by simp[World.frozen?,J]
  have B:xs.length=ds.length*5:=S.out.1;have q0:=AG o.out (ds.length*5) (.int .i64 0) (by rw[← B,List.getElem?_append_right (QM _),Nat.sub_self,C.out];rfl);have q1:=AG o.out (ds.length*5+1) (.string ⟨#[]⟩) (by rw[← B,List.getElem?_append_right (by omega),QU,C.out];rfl);have q2:=AG o.out (ds.length*5+2) (.slice none 0 0) (by rw[← B,List.getElem?_append_right (by omega),QU,C.out];rfl);have q3:=AG o.out (ds.length*5+3) (.slice none 0 0) (by rw[← B,List.getElem?_append_right (by omega),QU,C.out];rfl);have q4:=AG o.out (ds.length*5+4) (.int .i64 0) (by rw[← B,List.getElem?_append_right (by omega),QU,C.out];rfl);have p0:=World.ownsRow.frozenAt o.out (ds.length*5);have p1:=World.ownsRow.frozenAt o.out (ds.length*5+1);have p2:=World.ownsRow.frozenAt o.out (ds.length*5+2);have p3:=World.ownsRow.frozenAt o.out (ds.length*5+3);have p4:=World.ownsRow.frozenAt o.out (ds.length*5+4);have n1:¬g'=t6:=by omega
  have n2:¬t6=g':=by omega
  have U:=QA B.symm;clear J B;refine AR (i:=9) (k:=11) (by kernel_rfl) ?_ ?_
  ·refine AB (by decide) (λK9 HK9=>?_);simp only[QE,QL,QF,QN];go_wp2_with fail;refine HK9.out _ _ ⟨λh=>absurd h (by decide),?_⟩;clear HK9;refine TO (i:=11) ?_;refine AB (by decide) (λKa HKa=>?_);simp only[QE,QL,QF,QN];go_wp2_with fail;refine HKa.out _ _ ⟨λh=>absurd h (by decide),?_⟩;clear HKa;refine AF (by kernel_rfl) ?_ _;go_wp2_with fail;go_end0;have A:=E.out.end1 (jj:=2) S.out T.out HD.out rfl L.out Y.out K.out o.out R.out U.out rfl;simp only[putCells,Nat.add_assoc,QW]at A;exact⟨rfl,A⟩
  ·refine AB (by decide) (λK9 HK9=>?_);simp only[QE,QL,QF,QN];go_wp2_with fail;refine HK9.out _ _ ⟨λh=>absurd h (by decide),?_⟩;clear HK9;refine TO (i:=9) ?_;refine AB (by decide) (λKa HKa=>?_);simp only[QE,QL,QF,QN];go_wp2_with fail;refine HKa.out _ _ ⟨λh=>absurd h (by decide),?_⟩;clear HKa;refine AF (by kernel_rfl) ?_ _;go_wp2_with fail;go_end0;have A:=E.out.end2 (jj:=2) S.out T.out HD.out rfl L.out Y.out K.out o.out R.out U.out rfl;simp only[putCells,Nat.add_assoc,QW]at A;exact⟨rfl,A⟩
 ·refine AB (by decide) (λK6 HK6=>?_);simp only[QE,QL,QF,QN];go_wp2_with fail;have I:Hid (Below w.heap.size w ((w.alloc (.cells #[.int .i64 0,.string ⟨#[]⟩,.slice none 0 0,.slice none 0 0,.int .i64 0] 105)).drew)):=QA (Below.drew ((Below.refl _ _).alloc (QM _) _));have N:=QA (But.of_below (X:=λk=>k=b) I.out);refine HK6.out _ _ ⟨λ_=>ac.out _ N.out,?_⟩;clear HK6;refine TO (i:=4) ?_;refine AB (by decide) (λK4 HK4=>?_);simp only[QE,QL,QF,QN];go_wp2_with fail;refine (ae.out _ (H.out.rd.below I.out)).mono ?_;rintro r w2 ⟨cs,rfl,hrd,hr2,hf2⟩;obtain⟨k,a,t,a1,a2,n1,c1,n2,c2,rfl⟩:=aq.out _ _ _ hrd;have HF:=QA (N.out.trans hf2);have aI:Hid (w2.heap[w.heap.size]?=some (.cells #[.int .i64 0,.string ⟨#[]⟩,.slice none 0 0,.slice none 0 0,.int .i64 0] 105 (0,0))):=by
   rw[hf2.block w.heap.size (by show w.heap.size<(w.alloc _).heap.size;simp) (by omega)];exact QA (AC _ _)
  have ai:=QA hrd;have ak:=QA hr2;clear hrd hr2 hf2;go_wp2_with fail;refine HK4.out _ _ ⟨λ_=>ac.out _ HF.out,?_⟩;clear HK4;have E:=QA (H.out.step ak.out HF.out);have S:=QA (aa.out _ HF.out);have T:=QA (an.out.to (ar.out _ HF.out));have K:Hid (w2.heap[t6]?=some (.cells ((BW at_) (.slice G ds.length F)) 105 (0,0))):=QA (by rw[HF.out.block t6 O (by omega)];exact H6.out);have HD:=QA (ai.out.to (w':=w2) (Q:=λx=>t6<x∧(Value.slice G ds.length F).ownBlock≠some x) (AD.sub w2 (λx hx2 hp=>by
   have h2:(w.alloc (.cells #[.int .i64 0,.string ⟨#[]⟩,.slice none 0 0,.slice none 0 0,.int .i64 0] 105)).heap.size≤x:=hp;simp at h2;exact⟨by omega,λe=>by have h1:=(aw.out x e).2;omega⟩)))
  have W:Hid (∀j u,zs[j]?=some u→w2.cell? ((⟨w.heap.size,0,none⟩:Addr).add j)=some u):=QA (AU (fz:=(0,0)) (by rw[C.out];exact aI.out));have M:LB t6 bx≤(w2).heap.size:=E.out.low;have V:Hid (∀u∈zs,u.oneCell'=true):=QA (by rw[C.out];intro u hu;simp at hu;rcases hu with rfl|rfl|rfl|rfl|rfl<;>rfl);refine TO (i:=7) ?_;refine AB (by decide) (λK7 HK7=>?_);simp only[QE,QL,QF,QN];go_wp2_with (first|(at_builtin;refine wpList_append_own_at _ rfl _ _ 103 rfl (LB t6 bx) 105 i0 _ 5 80 Tryz.underlying103 hi aA am au rfl (by decide) (.slice G ds.length F) ds.length xs rfl S.out ⟨w.heap.size,0,none⟩ 1 1 zs rfl R.out W.out V.out (by unfold maxLen;omega) (by omega) M ?_;intro v' w8 hrow8 hg8 hnil8 hloc8;clear hnil8;obtain⟨g',c',rfl,aK,aH⟩:=Au hrow8 (by omega);have o:=QA hrow8;have L:=QA hg8;have Y:=QA hloc8;clear hrow8 hg8 hloc8)|fail);refine HK7.out _ _ ⟨λh=>absurd h (by decide),?_⟩;clear HK7;refine TA (i:=8) (v:=(.pointer (some ⟨g',(ds.length*5),none⟩))) rfl (Or.inl ⟨by rfl,λw _=>by go_simp⟩) ?_;simp only[Act.put,QC,QH,QG];refine TA (i:=10) (v:=(.pointer (some ⟨t6,2,none⟩))) rfl (Or.inl ⟨by rfl,λw _=>by go_simp⟩) ?_;simp only[Act.put,QC,QH,QG];have J:=E.out.h6 S.out L.out K.out;have y6:w8.cell? ⟨t6,2,none⟩=some (.slice G ds.length F):=by simp[World.cell?,J,BW]
  have y7:w8.frozen? ⟨t6,2,none⟩=false:=by simp[World.frozen?,J]
  have B:xs.length=ds.length*5:=S.out.1;have q0:=AG o.out (ds.length*5) (.int .i64 0) (by rw[← B,List.getElem?_append_right (QM _),Nat.sub_self,C.out];rfl);have q1:=AG o.out (ds.length*5+1) (.string ⟨#[]⟩) (by rw[← B,List.getElem?_append_right (by omega),QU,C.out];rfl);have q2:=AG o.out (ds.length*5+2) (.slice none 0 0) (by rw[← B,List.getElem?_append_right (by omega),QU,C.out];rfl);have q3:=AG o.out (ds.length*5+3) (.slice none 0 0) (by rw[← B,List.getElem?_append_right (by omega),QU,C.out];rfl);have q4:=AG o.out (ds.length*5+4) (.int .i64 0) (by rw[← B,List.getElem?_append_right (by omega),QU,C.out];rfl);have p0:=World.ownsRow.frozenAt o.out (ds.length*5);have p1:=World.ownsRow.frozenAt o.out (ds.length*5+1);have p2:=World.ownsRow.frozenAt o.out (ds.length*5+2);have p3:=World.ownsRow.frozenAt o.out (ds.length*5+3);have p4:=World.ownsRow.frozenAt o.out (ds.length*5+4);have n1:¬g'=t6:=by omega
  have n2:¬t6=g':=by omega
  have U:=QA B.symm;clear J B;refine AR (i:=9) (k:=11) (by kernel_rfl) ?_ ?_
  ·refine AB (by decide) (λK9 HK9=>?_);simp only[QE,QL,QF,QN];go_wp2_with fail;refine HK9.out _ _ ⟨λh=>absurd h (by decide),?_⟩;clear HK9;refine TO (i:=11) ?_;refine AB (by decide) (λKa HKa=>?_);simp only[QE,QL,QF,QN];go_wp2_with fail;refine HKa.out _ _ ⟨λh=>absurd h (by decide),?_⟩;clear HKa;refine AF (by kernel_rfl) ?_ _;go_wp2_with fail;go_end0;have A:=E.out.end1 (jj:=2) S.out T.out HD.out rfl L.out Y.out K.out o.out R.out U.out rfl;simp only[putCells,Nat.add_assoc,QW]at A;exact⟨rfl,A⟩
  ·refine AB (by decide) (λK9 HK9=>?_);simp only[QE,QL,QF,QN];go_wp2_with fail;refine HK9.out _ _ ⟨λh=>absurd h (by decide),?_⟩;clear HK9;refine TO (i:=9) ?_;refine AB (by decide) (λKa HKa=>?_);simp only[QE,QL,QF,QN];go_wp2_with fail;refine HKa.out _ _ ⟨λh=>absurd h (by decide),?_⟩;clear HKa;refine AF (by kernel_rfl) ?_ _;go_wp2_with fail;go_end0;have A:=E.out.end2 (jj:=2) S.out T.out HD.out rfl L.out Y.out K.out o.out R.out U.out rfl;simp only[putCells,Nat.add_assoc,QW]at A;exact⟨rfl,A⟩
theorem IX (w0:World) (b g t6:Nat) (bx:List Box) (t2 t3:Nat) (fixed:Bool) (at_ m:Nat) (hbx0:(t2,Obj.cells #[(.pointer (some ⟨b,0,none⟩))] 97 (0,0))∈bx) (hbx1:(t3,Obj.cells #[(.bool fixed)] 4 (0,0))∈bx) (s:Rd.St) (ds:List D) (w:World)
  (hval:∀w,AL w b g s→Calls Tryz.prog 93 #[(.pointer (some ⟨b,0,none⟩)),(.bool fixed)] w (Got b g w (Rd.arg fixed m s).2.d (Rd.arg fixed m s).1))
  (h:LI w0 b g t6 bx 105 (BJ at_) 151 7 s ds w) (hl:ds.length≤1000000) :
  Calls Tryz.prog 96 #[.pointer (some ⟨t6,0,none⟩),.pointer (some ⟨t2,0,none⟩),.pointer (some ⟨t3,0,none⟩)] w λr w'=>r=.returned (.tuple #[])∧LI w0 b g t6 bx 105 (BJ at_) 151 7 (Rd.arg fixed m s).1 (ds++[(Rd.arg fixed m s).2.d]) w':=by
 obtain⟨i0,hi,aA,am,au⟩:=info_parts Ke;obtain⟨v,h6,hG⟩:=h.ex;obtain⟨G,F,hv⟩:=hG.form;subst hv;obtain⟨⟨xs,hx,az⟩,aF⟩:=hG;have ad:∀x,(Value.slice G ds.length F).ownBlock=some x→LB t6 bx≤x∧x<w.heap.size:=hx.lt;have aP:=BN t6 bx;have O:=block_lt h6;have lb:=h.lb;have l6:=h.l6;have aZ:(0:Int)≤(ds.length:Int):=Int.natCast_nonneg _;have aY:(ds.length:Int)<(ds.length:Int)+1:=by omega
 obtain⟨s',ax⟩:∃x,x=(Rd.arg fixed m s).1:=⟨_,rfl⟩
 obtain⟨d,af⟩:∃x,x=(Rd.arg fixed m s).2.d:=⟨_,rfl⟩
 obtain⟨zs,al⟩:∃x,x=[Value.string ⟨#[]⟩,.int .i64 0,.string ⟨#[]⟩,.slice none 0 0,.slice none 0 0,.int .i64 0,.int .i64 0]:=⟨_,rfl⟩
 have aq:Hid (∀(w:World) (P:Nat→Prop) (cs:List Value),Reads w P d cs→∃(nm:ByteArray) (k a b':Int) (t:ByteArray) (a1 a2:Option Addr) (n1 c1 n2 c2:Nat),cs=[.string nm,.int .i64 k,.string t,.slice a1 n1 c1,.slice a2 n2 c2,.int .i64 a,.int .i64 b']) :=
  QA λw P cs hh=>Hj (by rw[← af];exact hh)
 rw[← ax,← af]at hval ⊢;have H:=QA h;have an:=QA az;have H6:=QA h6;have aw:=QA ad;have ae:=QA hval;have B:=QA al;have R:Hid (zs.length=1*7):=by rw[al];exact QA rfl
 have ar:Hid (∀w',Fr b w w'→AD w (λx=>t6<x∧(Value.slice G ds.length F).ownBlock≠some x) w' (λx=>t6<x∧(Value.slice G ds.length F).ownBlock≠some x)) :=
  QA λw' Z=>⟨Z.size,λx hx2 hp=>⟨hp,Z.block x hx2 (by omega)⟩⟩
 have aa:Hid (∀w',Fr b w w'→w'.ownsRow (LB t6 bx) 151 7 (.slice G ds.length F) ds.length xs):=QA λw' Z=>BG hx (λx hx2=>Z.block x (ad x hx2).2 (by have:=(ad x hx2).1;omega))
 have hS:w.cell? ⟨t6,3,none⟩=some (.slice G ds.length F)∧w.cell? ⟨t2,0,none⟩=some (.pointer (some ⟨b,0,none⟩))∧w.cell? ⟨t3,0,none⟩=some (.bool fixed) :=
  ⟨by simp[World.cell?,h6,BJ],h.cellx hbx0,h.cellx hbx1⟩
 have aJ:=QA hS;have ac:Hid (∀w',Fr b w w'→w'.cell? ⟨t6,3,none⟩=some (.slice G ds.length F)∧w'.cell? ⟨t2,0,none⟩=some (.pointer (some ⟨b,0,none⟩))∧w'.cell? ⟨t3,0,none⟩=some (.bool fixed)):=by
  refine QA λw' Z=>⟨?_,h.cellf Z hbx0,h.cellf Z hbx1⟩
  rw[Z.cell (p:=⟨t6,3,none⟩) O (by show ¬t6=b;omega)];exact aJ.out.1
 clear h hx az h6 ad hval ax af al aF;go_enter Tryz.func96,Tryz.ntmps96;go_wp2_with fail;refine AH (λw'=>w'.cell? ⟨t6,3,none⟩=some (.slice G ds.length F)∧w'.cell? ⟨t2,0,none⟩=some (.pointer (some ⟨b,0,none⟩))∧w'.cell? ⟨t3,0,none⟩=some (.bool fixed)) 7 (by kernel_rfl) ?_;refine TK (i:=0) (v:=(.pointer (some ⟨t6,3,none⟩))) rfl (Or.inl ⟨by rfl,λw hSw=>by obtain⟨s0,s1,s2⟩:=hSw;go_simp⟩) hS ?_;simp only[Act.put,QC,QH,QG];refine TK (i:=1) (v:=(.slice G ds.length F)) rfl (Or.inl ⟨by rfl,λw hSw=>by obtain⟨s0,s1,s2⟩:=hSw;go_simp⟩) hS ?_;simp only[Act.put,QC,QH,QG];refine TK (i:=2) (v:=(.pointer (some ⟨b,0,none⟩))) rfl (Or.inl ⟨by rfl,λw hSw=>by obtain⟨s0,s1,s2⟩:=hSw;go_simp⟩) hS ?_;simp only[Act.put,QC,QH,QG];refine TK (i:=3) (v:=(.bool fixed)) rfl (Or.inl ⟨by rfl,λw hSw=>by obtain⟨s0,s1,s2⟩:=hSw;go_simp⟩) hS ?_;simp only[Act.put,QC,QH,QG];refine TK (i:=5) (v:=(.int .i64 ds.length)) rfl (Or.inl ⟨by rfl,λw hSw=>by obtain⟨s0,s1,s2⟩:=hSw;go_simp⟩) hS ?_;simp only[Act.put,QC,QH,QG];clear hS;refine AR (i:=4) (k:=6) (by kernel_rfl) ?_ ?_
 ·refine AB (by decide) (λK4 HK4=>?_);simp only[QE,QL,QF,QN];go_wp2_with fail;refine (ae.out w.drew (H.out.rd.to (QM _) rfl rfl)).mono ?_;rintro r w2 ⟨cs,rfl,hrd,hr2,hf2⟩;have Z:Fr b w w2:=⟨hf2.os,hf2.tape,hf2.output,hf2.size,hf2.block⟩
  obtain⟨nm,k,a,b',t,a1,a2,n1,c1,n2,c2,rfl⟩:=aq.out _ _ _ hrd;have ai:=QA hrd;have HF:=QA Z;have ak:=QA hr2;clear hrd hr2 hf2 Z;go_wp2_with fail;refine HK4.out _ _ ⟨λ_=>ac.out _ HF.out,?_⟩;clear HK4;refine TO (i:=6) ?_;refine AB (by decide) (λK6 HK6=>?_);simp only[QE,QL,QF,QN];go_wp2_with fail;have I:Hid (Below w2.heap.size w2 (w2.alloc (.cells #[.string ⟨#[]⟩,.int .i64 0,.string ⟨#[]⟩,.slice none 0 0,.slice none 0 0,.int .i64 0,.int .i64 0] 151))):=QA ((Below.refl _ _).alloc (QM _) _);have N:=QA (HF.out.trans (But.of_below (X:=λk=>k=b) I.out));refine HK6.out _ _ ⟨λ_=>ac.out _ N.out,?_⟩;clear HK6;have E:=QA ((H.out.step ak.out HF.out).below I.out);have S:=QA (aa.out _ N.out);have T:=QA (an.out.to (ar.out _ N.out));have K:Hid ((w2.alloc (.cells #[.string ⟨#[]⟩,.int .i64 0,.string ⟨#[]⟩,.slice none 0 0,.slice none 0 0,.int .i64 0,.int .i64 0] 151)).heap[t6]?=some (.cells ((BJ at_) (.slice G ds.length F)) 105 (0,0))):=QA (by rw[N.out.block t6 O (by omega)];exact H6.out);have HD:=QA (ai.out.to (w':=w2.alloc (.cells #[.string ⟨#[]⟩,.int .i64 0,.string ⟨#[]⟩,.slice none 0 0,.slice none 0 0,.int .i64 0,.int .i64 0] 151)) (Q:=λx=>t6<x∧(Value.slice G ds.length F).ownBlock≠some x) ⟨I.out.size,λx hx2 hp=>⟨⟨ZU O hp,λe=>by have h1:=(aw.out x e).2;have h2:w.heap.size≤x:=hp;omega⟩,I.out.block x hx2⟩⟩);have W:Hid (∀j u,zs[j]?=some u→(w2.alloc (.cells #[.string ⟨#[]⟩,.int .i64 0,.string ⟨#[]⟩,.slice none 0 0,.slice none 0 0,.int .i64 0,.int .i64 0] 151)).cell? ((⟨w2.heap.size,0,none⟩:Addr).add j)=some u):=QA (AU (fz:=(0,0)) (by rw[B.out];exact AC _ _));have M:LB t6 bx≤(w2.alloc (.cells #[.string ⟨#[]⟩,.int .i64 0,.string ⟨#[]⟩,.slice none 0 0,.slice none 0 0,.int .i64 0,.int .i64 0] 151)).heap.size:=E.out.low;have V:Hid (∀u∈zs,u.oneCell'=true):=QA (by rw[B.out];intro u hu;simp at hu;rcases hu with rfl|rfl|rfl|rfl|rfl|rfl|rfl<;>rfl);refine TO (i:=7) ?_;refine AB (by decide) (λK7 HK7=>?_);simp only[QE,QL,QF,QN];go_wp2_with (first|(at_builtin;refine wpList_append_own_at _ rfl _ _ 30 rfl (LB t6 bx) 151 i0 _ 7 104 Tryz.underlying30 hi aA am au rfl (by decide) (.slice G ds.length F) ds.length xs rfl S.out ⟨w2.heap.size,0,none⟩ 1 1 zs rfl R.out W.out V.out (by unfold maxLen;omega) (by omega) M ?_;intro v' w8 hrow8 hg8 hnil8 hloc8;clear hnil8;obtain⟨g',c',rfl,aK,aH⟩:=Au hrow8 (by omega);have o:=QA hrow8;have L:=QA hg8;have Y:=QA hloc8;clear hrow8 hg8 hloc8)|fail);refine HK7.out _ _ ⟨λh=>absurd h (by decide),?_⟩;clear HK7;refine TA (i:=8) (v:=(.pointer (some ⟨g',(ds.length*7),none⟩))) rfl (Or.inl ⟨by rfl,λw _=>by go_simp⟩) ?_;simp only[Act.put,QC,QH,QG];refine TA (i:=10) (v:=(.pointer (some ⟨t6,3,none⟩))) rfl (Or.inl ⟨by rfl,λw _=>by go_simp⟩) ?_;simp only[Act.put,QC,QH,QG];have J:=E.out.h6 S.out L.out K.out;have y6:w8.cell? ⟨t6,3,none⟩=some (.slice G ds.length F):=by simp[World.cell?,J,BJ]
  have y7:w8.frozen? ⟨t6,3,none⟩=false:=by simp[World.frozen?,J]
  have A:xs.length=ds.length*7:=S.out.1;have q0:=AG o.out (ds.length*7) (.string ⟨#[]⟩) (by rw[← A,List.getElem?_append_right (QM _),Nat.sub_self,B.out];rfl);have q1:=AG o.out (ds.length*7+1) (.int .i64 0) (by rw[← A,List.getElem?_append_right (by omega),QU,B.out];rfl);have q2:=AG o.out (ds.length*7+2) (.string ⟨#[]⟩) (by rw[← A,List.getElem?_append_right (by omega),QU,B.out];rfl);have q3:=AG o.out (ds.length*7+3) (.slice none 0 0) (by rw[← A,List.getElem?_append_right (by omega),QU,B.out];rfl);have q4:=AG o.out (ds.length*7+4) (.slice none 0 0) (by rw[← A,List.getElem?_append_right (by omega),QU,B.out];rfl);have q5:=AG o.out (ds.length*7+5) (.int .i64 0) (by rw[← A,List.getElem?_append_right (by omega),QU,B.out];rfl);have q6:=AG o.out (ds.length*7+6) (.int .i64 0) (by rw[← A,List.getElem?_append_right (by omega),QU,B.out];rfl);have p0:=World.ownsRow.frozenAt o.out (ds.length*7);have p1:=World.ownsRow.frozenAt o.out (ds.length*7+1);have p2:=World.ownsRow.frozenAt o.out (ds.length*7+2);have p3:=World.ownsRow.frozenAt o.out (ds.length*7+3);have p4:=World.ownsRow.frozenAt o.out (ds.length*7+4);have p5:=World.ownsRow.frozenAt o.out (ds.length*7+5);have p6:=World.ownsRow.frozenAt o.out (ds.length*7+6);have n1:¬g'=t6:=by omega
  have n2:¬t6=g':=by omega
  have U:=QA A.symm;clear J A;refine AR (i:=9) (k:=11) (by kernel_rfl) ?_ ?_
  ·refine AB (by decide) (λK9 HK9=>?_);simp only[QE,QL,QF,QN];go_wp2_with fail;refine HK9.out _ _ ⟨λh=>absurd h (by decide),?_⟩;clear HK9;refine TO (i:=11) ?_;refine AB (by decide) (λKa HKa=>?_);simp only[QE,QL,QF,QN];go_wp2_with fail;refine HKa.out _ _ ⟨λh=>absurd h (by decide),?_⟩;clear HKa;refine AF (by kernel_rfl) ?_ _;go_wp2_with fail;go_end0;have C:=E.out.end1 (jj:=3) S.out T.out HD.out rfl L.out Y.out K.out o.out R.out U.out rfl;simp only[putCells,Nat.add_assoc,QW]at C;exact⟨rfl,C⟩
  ·refine AB (by decide) (λK9 HK9=>?_);simp only[QE,QL,QF,QN];go_wp2_with fail;refine HK9.out _ _ ⟨λh=>absurd h (by decide),?_⟩;clear HK9;refine TO (i:=9) ?_;refine AB (by decide) (λKa HKa=>?_);simp only[QE,QL,QF,QN];go_wp2_with fail;refine HKa.out _ _ ⟨λh=>absurd h (by decide),?_⟩;clear HKa;refine AF (by kernel_rfl) ?_ _;go_wp2_with fail;go_end0;have C:=E.out.end2 (jj:=3) S.out T.out HD.out rfl L.out Y.out K.out o.out R.out U.out rfl;simp only[putCells,Nat.add_assoc,QW]at C;exact⟨rfl,C⟩
 ·refine AB (by decide) (λK6 HK6=>?_);simp only[QE,QL,QF,QN];go_wp2_with fail;have I:Hid (Below w.heap.size w ((w.alloc (.cells #[.string ⟨#[]⟩,.int .i64 0,.string ⟨#[]⟩,.slice none 0 0,.slice none 0 0,.int .i64 0,.int .i64 0] 151)).drew)):=QA (Below.drew ((Below.refl _ _).alloc (QM _) _));have N:=QA (But.of_below (X:=λk=>k=b) I.out);refine HK6.out _ _ ⟨λ_=>ac.out _ N.out,?_⟩;clear HK6;refine TO (i:=4) ?_;refine AB (by decide) (λK4 HK4=>?_);simp only[QE,QL,QF,QN];go_wp2_with fail;refine (ae.out _ (H.out.rd.below I.out)).mono ?_;rintro r w2 ⟨cs,rfl,hrd,hr2,hf2⟩;obtain⟨nm,k,a,b',t,a1,a2,n1,c1,n2,c2,rfl⟩:=aq.out _ _ _ hrd;have HF:=QA (N.out.trans hf2);have aI:Hid (w2.heap[w.heap.size]?=some (.cells #[.string ⟨#[]⟩,.int .i64 0,.string ⟨#[]⟩,.slice none 0 0,.slice none 0 0,.int .i64 0,.int .i64 0] 151 (0,0))):=by
   rw[hf2.block w.heap.size (by show w.heap.size<(w.alloc _).heap.size;simp) (by omega)];exact QA (AC _ _)
  have ai:=QA hrd;have ak:=QA hr2;clear hrd hr2 hf2;go_wp2_with fail;refine HK4.out _ _ ⟨λ_=>ac.out _ HF.out,?_⟩;clear HK4;have E:=QA (H.out.step ak.out HF.out);have S:=QA (aa.out _ HF.out);have T:=QA (an.out.to (ar.out _ HF.out));have K:Hid (w2.heap[t6]?=some (.cells ((BJ at_) (.slice G ds.length F)) 105 (0,0))):=QA (by rw[HF.out.block t6 O (by omega)];exact H6.out);have HD:=QA (ai.out.to (w':=w2) (Q:=λx=>t6<x∧(Value.slice G ds.length F).ownBlock≠some x) (AD.sub w2 (λx hx2 hp=>by
   have h2:(w.alloc (.cells #[.string ⟨#[]⟩,.int .i64 0,.string ⟨#[]⟩,.slice none 0 0,.slice none 0 0,.int .i64 0,.int .i64 0] 151)).heap.size≤x:=hp;simp at h2;exact⟨by omega,λe=>by have h1:=(aw.out x e).2;omega⟩)))
  have W:Hid (∀j u,zs[j]?=some u→w2.cell? ((⟨w.heap.size,0,none⟩:Addr).add j)=some u):=QA (AU (fz:=(0,0)) (by rw[B.out];exact aI.out));have M:LB t6 bx≤(w2).heap.size:=E.out.low;have V:Hid (∀u∈zs,u.oneCell'=true):=QA (by rw[B.out];intro u hu;simp at hu;rcases hu with rfl|rfl|rfl|rfl|rfl|rfl|rfl<;>rfl);refine TO (i:=7) ?_;refine AB (by decide) (λK7 HK7=>?_);simp only[QE,QL,QF,QN];go_wp2_with (first|(at_builtin;refine wpList_append_own_at _ rfl _ _ 30 rfl (LB t6 bx) 151 i0 _ 7 104 Tryz.underlying30 hi aA am au rfl (by decide) (.slice G ds.length F) ds.length xs rfl S.out ⟨w.heap.size,0,none⟩ 1 1 zs rfl R.out W.out V.out (by unfold maxLen;omega) (by omega) M ?_;intro v' w8 hrow8 hg8 hnil8 hloc8;clear hnil8;obtain⟨g',c',rfl,aK,aH⟩:=Au hrow8 (by omega);have o:=QA hrow8;have L:=QA hg8;have Y:=QA hloc8;clear hrow8 hg8 hloc8)|fail);refine HK7.out _ _ ⟨λh=>absurd h (by decide),?_⟩;clear HK7;refine TA (i:=8) (v:=(.pointer (some ⟨g',(ds.length*7),none⟩))) rfl (Or.inl ⟨by rfl,λw _=>by go_simp⟩) ?_;simp only[Act.put,QC,QH,QG];refine TA (i:=10) (v:=(.pointer (some ⟨t6,3,none⟩))) rfl (Or.inl ⟨by rfl,λw _=>by go_simp⟩) ?_;simp only[Act.put,QC,QH,QG];have J:=E.out.h6 S.out L.out K.out;have y6:w8.cell? ⟨t6,3,none⟩=some (.slice G ds.length F):=by simp[World.cell?,J,BJ]
  have y7:w8.frozen? ⟨t6,3,none⟩=false:=by simp[World.frozen?,J]
  have A:xs.length=ds.length*7:=S.out.1;have q0:=AG o.out (ds.length*7) (.string ⟨#[]⟩) (by rw[← A,List.getElem?_append_right (QM _),Nat.sub_self,B.out];rfl);have q1:=AG o.out (ds.length*7+1) (.int .i64 0) (by rw[← A,List.getElem?_append_right (by omega),QU,B.out];rfl);have q2:=AG o.out (ds.length*7+2) (.string ⟨#[]⟩) (by rw[← A,List.getElem?_append_right (by omega),QU,B.out];rfl);have q3:=AG o.out (ds.length*7+3) (.slice none 0 0) (by rw[← A,List.getElem?_append_right (by omega),QU,B.out];rfl);have q4:=AG o.out (ds.length*7+4) (.slice none 0 0) (by rw[← A,List.getElem?_append_right (by omega),QU,B.out];rfl);have q5:=AG o.out (ds.length*7+5) (.int .i64 0) (by rw[← A,List.getElem?_append_right (by omega),QU,B.out];rfl);have q6:=AG o.out (ds.length*7+6) (.int .i64 0) (by rw[← A,List.getElem?_append_right (by omega),QU,B.out];rfl);have p0:=World.ownsRow.frozenAt o.out (ds.length*7);have p1:=World.ownsRow.frozenAt o.out (ds.length*7+1);have p2:=World.ownsRow.frozenAt o.out (ds.length*7+2);have p3:=World.ownsRow.frozenAt o.out (ds.length*7+3);have p4:=World.ownsRow.frozenAt o.out (ds.length*7+4);have p5:=World.ownsRow.frozenAt o.out (ds.length*7+5);have p6:=World.ownsRow.frozenAt o.out (ds.length*7+6);have n1:¬g'=t6:=by omega
  have n2:¬t6=g':=by omega
  have U:=QA A.symm;clear J A;refine AR (i:=9) (k:=11) (by kernel_rfl) ?_ ?_
  ·refine AB (by decide) (λK9 HK9=>?_);simp only[QE,QL,QF,QN];go_wp2_with fail;refine HK9.out _ _ ⟨λh=>absurd h (by decide),?_⟩;clear HK9;refine TO (i:=11) ?_;refine AB (by decide) (λKa HKa=>?_);simp only[QE,QL,QF,QN];go_wp2_with fail;refine HKa.out _ _ ⟨λh=>absurd h (by decide),?_⟩;clear HKa;refine AF (by kernel_rfl) ?_ _;go_wp2_with fail;go_end0;have C:=E.out.end1 (jj:=3) S.out T.out HD.out rfl L.out Y.out K.out o.out R.out U.out rfl;simp only[putCells,Nat.add_assoc,QW]at C;exact⟨rfl,C⟩
  ·refine AB (by decide) (λK9 HK9=>?_);simp only[QE,QL,QF,QN];go_wp2_with fail;refine HK9.out _ _ ⟨λh=>absurd h (by decide),?_⟩;clear HK9;refine TO (i:=9) ?_;refine AB (by decide) (λKa HKa=>?_);simp only[QE,QL,QF,QN];go_wp2_with fail;refine HKa.out _ _ ⟨λh=>absurd h (by decide),?_⟩;clear HKa;refine AF (by kernel_rfl) ?_ _;go_wp2_with fail;go_end0;have C:=E.out.end2 (jj:=3) S.out T.out HD.out rfl L.out Y.out K.out o.out R.out U.out rfl;simp only[putCells,Nat.add_assoc,QW]at C;exact⟨rfl,C⟩
theorem IK (w0:World) (b g t6:Nat) (bx:List Box) (t2 t3:Nat) (fixed:Bool) (m:Nat) (hbx0:(t2,Obj.cells #[(.pointer (some ⟨b,0,none⟩))] 97 (0,0))∈bx) (hbx1:(t3,Obj.cells #[(.bool fixed)] 4 (0,0))∈bx) (s:Rd.St) (ds:List D) (w:World)
  (hval:∀w,AL w b g s→Calls Tryz.prog 93 #[(.pointer (some ⟨b,0,none⟩)),(.bool fixed)] w (Got b g w (Rd.arg fixed m s).2.d (Rd.arg fixed m s).1))
  (h:LI w0 b g t6 bx 30 BA 151 7 s ds w) (hl:ds.length≤1000000) :
  Calls Tryz.prog 92 #[.pointer (some ⟨t6,0,none⟩),.pointer (some ⟨t2,0,none⟩),.pointer (some ⟨t3,0,none⟩)] w λr w'=>r=.returned (.tuple #[])∧LI w0 b g t6 bx 30 BA 151 7 (Rd.arg fixed m s).1 (ds++[(Rd.arg fixed m s).2.d]) w':=by
 obtain⟨i0,hi,aA,am,au⟩:=info_parts Ke;obtain⟨v,h6,hG⟩:=h.ex;obtain⟨G,F,hv⟩:=hG.form;subst hv;obtain⟨⟨xs,hx,az⟩,aE⟩:=hG;have ad:∀x,(Value.slice G ds.length F).ownBlock=some x→LB t6 bx≤x∧x<w.heap.size:=hx.lt;have aP:=BN t6 bx;have O:=block_lt h6;have lb:=h.lb;have l6:=h.l6;have aZ:(0:Int)≤(ds.length:Int):=Int.natCast_nonneg _;have aY:(ds.length:Int)<(ds.length:Int)+1:=by omega
 obtain⟨s',ax⟩:∃x,x=(Rd.arg fixed m s).1:=⟨_,rfl⟩
 obtain⟨d,af⟩:∃x,x=(Rd.arg fixed m s).2.d:=⟨_,rfl⟩
 obtain⟨zs,ak⟩:∃x,x=[Value.string ⟨#[]⟩,.int .i64 0,.string ⟨#[]⟩,.slice none 0 0,.slice none 0 0,.int .i64 0,.int .i64 0]:=⟨_,rfl⟩
 have aq:Hid (∀(w:World) (P:Nat→Prop) (cs:List Value),Reads w P d cs→∃(nm:ByteArray) (k a b':Int) (t:ByteArray) (a1 a2:Option Addr) (n1 c1 n2 c2:Nat),cs=[.string nm,.int .i64 k,.string t,.slice a1 n1 c1,.slice a2 n2 c2,.int .i64 a,.int .i64 b']) :=
  QA λw P cs hh=>Hj (by rw[← af];exact hh)
 rw[← ax,← af]at hval ⊢;have H:=QA h;have an:=QA az;have H6:=QA h6;have aw:=QA ad;have ae:=QA hval;have B:=QA ak;have R:Hid (zs.length=1*7):=by rw[ak];exact QA rfl
 have ar:Hid (∀w',Fr b w w'→AD w (λx=>t6<x∧(Value.slice G ds.length F).ownBlock≠some x) w' (λx=>t6<x∧(Value.slice G ds.length F).ownBlock≠some x)) :=
  QA λw' Z=>⟨Z.size,λx hx2 hp=>⟨hp,Z.block x hx2 (by omega)⟩⟩
 have aa:Hid (∀w',Fr b w w'→w'.ownsRow (LB t6 bx) 151 7 (.slice G ds.length F) ds.length xs):=QA λw' Z=>BG hx (λx hx2=>Z.block x (ad x hx2).2 (by have:=(ad x hx2).1;omega))
 have hS:w.cell? ⟨t6,0,none⟩=some (.slice G ds.length F)∧w.cell? ⟨t2,0,none⟩=some (.pointer (some ⟨b,0,none⟩))∧w.cell? ⟨t3,0,none⟩=some (.bool fixed) :=
  ⟨by simp[World.cell?,h6,BA],h.cellx hbx0,h.cellx hbx1⟩
 have aJ:=QA hS;have ac:Hid (∀w',Fr b w w'→w'.cell? ⟨t6,0,none⟩=some (.slice G ds.length F)∧w'.cell? ⟨t2,0,none⟩=some (.pointer (some ⟨b,0,none⟩))∧w'.cell? ⟨t3,0,none⟩=some (.bool fixed)):=by
  refine QA λw' Z=>⟨?_,h.cellf Z hbx0,h.cellf Z hbx1⟩
  rw[Z.cell (p:=⟨t6,0,none⟩) O (by show ¬t6=b;omega)];exact aJ.out.1
 clear h hx az h6 ad hval ax af ak aE;go_enter Tryz.func92,Tryz.ntmps92;go_wp2_with fail;refine AH (λw'=>w'.cell? ⟨t6,0,none⟩=some (.slice G ds.length F)∧w'.cell? ⟨t2,0,none⟩=some (.pointer (some ⟨b,0,none⟩))∧w'.cell? ⟨t3,0,none⟩=some (.bool fixed)) 6 (by kernel_rfl) ?_;refine TK (i:=0) (v:=(.slice G ds.length F)) rfl (Or.inl ⟨by rfl,λw hSw=>by obtain⟨s0,s1,s2⟩:=hSw;go_simp⟩) hS ?_;simp only[Act.put,QC,QH,QG];refine TK (i:=1) (v:=(.pointer (some ⟨b,0,none⟩))) rfl (Or.inl ⟨by rfl,λw hSw=>by obtain⟨s0,s1,s2⟩:=hSw;go_simp⟩) hS ?_;simp only[Act.put,QC,QH,QG];refine TK (i:=2) (v:=(.bool fixed)) rfl (Or.inl ⟨by rfl,λw hSw=>by obtain⟨s0,s1,s2⟩:=hSw;go_simp⟩) hS ?_;simp only[Act.put,QC,QH,QG];refine TK (i:=4) (v:=(.int .i64 ds.length)) rfl (Or.inl ⟨by rfl,λw hSw=>by obtain⟨s0,s1,s2⟩:=hSw;go_simp⟩) hS ?_;simp only[Act.put,QC,QH,QG];clear hS;refine AR (i:=3) (k:=5) (by kernel_rfl) ?_ ?_
 ·refine AB (by decide) (λK4 HK4=>?_);simp only[QE,QL,QF,QN];go_wp2_with fail;refine (ae.out w.drew (H.out.rd.to (QM _) rfl rfl)).mono ?_;rintro r w2 ⟨cs,rfl,hrd,hr2,hf2⟩;have Z:Fr b w w2:=⟨hf2.os,hf2.tape,hf2.output,hf2.size,hf2.block⟩
  obtain⟨nm,k,a,b',t,a1,a2,n1,c1,n2,c2,rfl⟩:=aq.out _ _ _ hrd;have ai:=QA hrd;have HF:=QA Z;have aj:=QA hr2;clear hrd hr2 hf2 Z;go_wp2_with fail;refine HK4.out _ _ ⟨λ_=>ac.out _ HF.out,?_⟩;clear HK4;refine TO (i:=5) ?_;refine AB (by decide) (λK6 HK6=>?_);simp only[QE,QL,QF,QN];go_wp2_with fail;have I:Hid (Below w2.heap.size w2 (w2.alloc (.cells #[.string ⟨#[]⟩,.int .i64 0,.string ⟨#[]⟩,.slice none 0 0,.slice none 0 0,.int .i64 0,.int .i64 0] 151))):=QA ((Below.refl _ _).alloc (QM _) _);have N:=QA (HF.out.trans (But.of_below (X:=λk=>k=b) I.out));refine HK6.out _ _ ⟨λ_=>ac.out _ N.out,?_⟩;clear HK6;have E:=QA ((H.out.step aj.out HF.out).below I.out);have S:=QA (aa.out _ N.out);have T:=QA (an.out.to (ar.out _ N.out));have K:Hid ((w2.alloc (.cells #[.string ⟨#[]⟩,.int .i64 0,.string ⟨#[]⟩,.slice none 0 0,.slice none 0 0,.int .i64 0,.int .i64 0] 151)).heap[t6]?=some (.cells (BA (.slice G ds.length F)) 30 (0,0))):=QA (by rw[N.out.block t6 O (by omega)];exact H6.out);have HD:=QA (ai.out.to (w':=w2.alloc (.cells #[.string ⟨#[]⟩,.int .i64 0,.string ⟨#[]⟩,.slice none 0 0,.slice none 0 0,.int .i64 0,.int .i64 0] 151)) (Q:=λx=>t6<x∧(Value.slice G ds.length F).ownBlock≠some x) ⟨I.out.size,λx hx2 hp=>⟨⟨ZU O hp,λe=>by have h1:=(aw.out x e).2;have h2:w.heap.size≤x:=hp;omega⟩,I.out.block x hx2⟩⟩);have W:Hid (∀j u,zs[j]?=some u→(w2.alloc (.cells #[.string ⟨#[]⟩,.int .i64 0,.string ⟨#[]⟩,.slice none 0 0,.slice none 0 0,.int .i64 0,.int .i64 0] 151)).cell? ((⟨w2.heap.size,0,none⟩:Addr).add j)=some u):=QA (AU (fz:=(0,0)) (by rw[B.out];exact AC _ _));have M:LB t6 bx≤(w2.alloc (.cells #[.string ⟨#[]⟩,.int .i64 0,.string ⟨#[]⟩,.slice none 0 0,.slice none 0 0,.int .i64 0,.int .i64 0] 151)).heap.size:=E.out.low;have V:Hid (∀u∈zs,u.oneCell'=true):=QA (by rw[B.out];intro u hu;simp at hu;rcases hu with rfl|rfl|rfl|rfl|rfl|rfl|rfl<;>rfl);refine TO (i:=6) ?_;refine AB (by decide) (λK7 HK7=>?_);simp only[QE,QL,QF,QN];go_wp2_with (first|(at_builtin;refine wpList_append_own_at _ rfl _ _ 30 rfl (LB t6 bx) 151 i0 _ 7 104 Tryz.underlying30 hi aA am au rfl (by decide) (.slice G ds.length F) ds.length xs rfl S.out ⟨w2.heap.size,0,none⟩ 1 1 zs rfl R.out W.out V.out (by unfold maxLen;omega) (by omega) M ?_;intro v' w8 hrow8 hg8 hnil8 hloc8;clear hnil8;obtain⟨g',c',rfl,aK,aH⟩:=Au hrow8 (by omega);have o:=QA hrow8;have L:=QA hg8;have Y:=QA hloc8;clear hrow8 hg8 hloc8)|fail);refine HK7.out _ _ ⟨λh=>absurd h (by decide),?_⟩;clear HK7;refine TA (i:=7) (v:=(.pointer (some ⟨g',(ds.length*7),none⟩))) rfl (Or.inl ⟨by rfl,λw _=>by go_simp⟩) ?_;simp only[Act.put,QC,QH,QG];have J:=E.out.h6 S.out L.out K.out;have y6:w8.cell? ⟨t6,0,none⟩=some (.slice G ds.length F):=by simp[World.cell?,J,BA]
  have y7:w8.frozen? ⟨t6,0,none⟩=false:=by simp[World.frozen?,J]
  have A:xs.length=ds.length*7:=S.out.1;have q0:=AG o.out (ds.length*7) (.string ⟨#[]⟩) (by rw[← A,List.getElem?_append_right (QM _),Nat.sub_self,B.out];rfl);have q1:=AG o.out (ds.length*7+1) (.int .i64 0) (by rw[← A,List.getElem?_append_right (by omega),QU,B.out];rfl);have q2:=AG o.out (ds.length*7+2) (.string ⟨#[]⟩) (by rw[← A,List.getElem?_append_right (by omega),QU,B.out];rfl);have q3:=AG o.out (ds.length*7+3) (.slice none 0 0) (by rw[← A,List.getElem?_append_right (by omega),QU,B.out];rfl);have q4:=AG o.out (ds.length*7+4) (.slice none 0 0) (by rw[← A,List.getElem?_append_right (by omega),QU,B.out];rfl);have q5:=AG o.out (ds.length*7+5) (.int .i64 0) (by rw[← A,List.getElem?_append_right (by omega),QU,B.out];rfl);have q6:=AG o.out (ds.length*7+6) (.int .i64 0) (by rw[← A,List.getElem?_append_right (by omega),QU,B.out];rfl);have p0:=World.ownsRow.frozenAt o.out (ds.length*7);have p1:=World.ownsRow.frozenAt o.out (ds.length*7+1);have p2:=World.ownsRow.frozenAt o.out (ds.length*7+2);have p3:=World.ownsRow.frozenAt o.out (ds.length*7+3);have p4:=World.ownsRow.frozenAt o.out (ds.length*7+4);have p5:=World.ownsRow.frozenAt o.out (ds.length*7+5);have p6:=World.ownsRow.frozenAt o.out (ds.length*7+6);have n1:¬g'=t6:=by omega
  have n2:¬t6=g':=by omega
  have U:=QA A.symm;clear J A;refine AR (i:=8) (k:=9) (by kernel_rfl) ?_ ?_
  ·refine AB (by decide) (λK9 HK9=>?_);simp only[QE,QL,QF,QN];go_wp2_with fail;refine HK9.out _ _ ⟨λh=>absurd h (by decide),?_⟩;clear HK9;refine TO (i:=9) ?_;refine AB (by decide) (λKa HKa=>?_);simp only[QE,QL,QF,QN];go_wp2_with fail;refine HKa.out _ _ ⟨λh=>absurd h (by decide),?_⟩;clear HKa;refine AF (by kernel_rfl) ?_ _;go_wp2_with fail;go_end0;have C:=E.out.end1 (jj:=0) S.out T.out HD.out rfl L.out Y.out K.out o.out R.out U.out rfl;simp only[putCells,Nat.add_assoc,QW]at C;exact⟨rfl,C⟩
  ·refine AB (by decide) (λK9 HK9=>?_);simp only[QE,QL,QF,QN];go_wp2_with fail;refine HK9.out _ _ ⟨λh=>absurd h (by decide),?_⟩;clear HK9;refine TO (i:=8) ?_;refine AB (by decide) (λKa HKa=>?_);simp only[QE,QL,QF,QN];go_wp2_with fail;refine HKa.out _ _ ⟨λh=>absurd h (by decide),?_⟩;clear HKa;refine AF (by kernel_rfl) ?_ _;go_wp2_with fail;go_end0;have C:=E.out.end2 (jj:=0) S.out T.out HD.out rfl L.out Y.out K.out o.out R.out U.out rfl;simp only[putCells,Nat.add_assoc,QW]at C;exact⟨rfl,C⟩
 ·refine AB (by decide) (λK6 HK6=>?_);simp only[QE,QL,QF,QN];go_wp2_with fail;have I:Hid (Below w.heap.size w ((w.alloc (.cells #[.string ⟨#[]⟩,.int .i64 0,.string ⟨#[]⟩,.slice none 0 0,.slice none 0 0,.int .i64 0,.int .i64 0] 151)).drew)):=QA (Below.drew ((Below.refl _ _).alloc (QM _) _));have N:=QA (But.of_below (X:=λk=>k=b) I.out);refine HK6.out _ _ ⟨λ_=>ac.out _ N.out,?_⟩;clear HK6;refine TO (i:=3) ?_;refine AB (by decide) (λK4 HK4=>?_);simp only[QE,QL,QF,QN];go_wp2_with fail;refine (ae.out _ (H.out.rd.below I.out)).mono ?_;rintro r w2 ⟨cs,rfl,hrd,hr2,hf2⟩;obtain⟨nm,k,a,b',t,a1,a2,n1,c1,n2,c2,rfl⟩:=aq.out _ _ _ hrd;have HF:=QA (N.out.trans hf2);have aI:Hid (w2.heap[w.heap.size]?=some (.cells #[.string ⟨#[]⟩,.int .i64 0,.string ⟨#[]⟩,.slice none 0 0,.slice none 0 0,.int .i64 0,.int .i64 0] 151 (0,0))):=by
   rw[hf2.block w.heap.size (by show w.heap.size<(w.alloc _).heap.size;simp) (by omega)];exact QA (AC _ _)
  have ai:=QA hrd;have aj:=QA hr2;clear hrd hr2 hf2;go_wp2_with fail;refine HK4.out _ _ ⟨λ_=>ac.out _ HF.out,?_⟩;clear HK4;have E:=QA (H.out.step aj.out HF.out);have S:=QA (aa.out _ HF.out);have T:=QA (an.out.to (ar.out _ HF.out));have K:Hid (w2.heap[t6]?=some (.cells (BA (.slice G ds.length F)) 30 (0,0))):=QA (by rw[HF.out.block t6 O (by omega)];exact H6.out);have HD:=QA (ai.out.to (w':=w2) (Q:=λx=>t6<x∧(Value.slice G ds.length F).ownBlock≠some x) (AD.sub w2 (λx hx2 hp=>by
   have h2:(w.alloc (.cells #[.string ⟨#[]⟩,.int .i64 0,.string ⟨#[]⟩,.slice none 0 0,.slice none 0 0,.int .i64 0,.int .i64 0] 151)).heap.size≤x:=hp;simp at h2;exact⟨by omega,λe=>by have h1:=(aw.out x e).2;omega⟩)))
  have W:Hid (∀j u,zs[j]?=some u→w2.cell? ((⟨w.heap.size,0,none⟩:Addr).add j)=some u):=QA (AU (fz:=(0,0)) (by rw[B.out];exact aI.out));have M:LB t6 bx≤(w2).heap.size:=E.out.low;have V:Hid (∀u∈zs,u.oneCell'=true):=QA (by rw[B.out];intro u hu;simp at hu;rcases hu with rfl|rfl|rfl|rfl|rfl|rfl|rfl<;>rfl);refine TO (i:=6) ?_;refine AB (by decide) (λK7 HK7=>?_);simp only[QE,QL,QF,QN];go_wp2_with (first|(at_builtin;refine wpList_append_own_at _ rfl _ _ 30 rfl (LB t6 bx) 151 i0 _ 7 104 Tryz.underlying30 hi aA am au rfl (by decide) (.slice G ds.length F) ds.length xs rfl S.out ⟨w.heap.size,0,none⟩ 1 1 zs rfl R.out W.out V.out (by unfold maxLen;omega) (by omega) M ?_;intro v' w8 hrow8 hg8 hnil8 hloc8;clear hnil8;obtain⟨g',c',rfl,aK,aH⟩:=Au hrow8 (by omega);have o:=QA hrow8;have L:=QA hg8;have Y:=QA hloc8;clear hrow8 hg8 hloc8)|fail);refine HK7.out _ _ ⟨λh=>absurd h (by decide),?_⟩;clear HK7;refine TA (i:=7) (v:=(.pointer (some ⟨g',(ds.length*7),none⟩))) rfl (Or.inl ⟨by rfl,λw _=>by go_simp⟩) ?_;simp only[Act.put,QC,QH,QG];have J:=E.out.h6 S.out L.out K.out;have y6:w8.cell? ⟨t6,0,none⟩=some (.slice G ds.length F):=by simp[World.cell?,J,BA]
  have y7:w8.frozen? ⟨t6,0,none⟩=false:=by simp[World.frozen?,J]
  have A:xs.length=ds.length*7:=S.out.1;have q0:=AG o.out (ds.length*7) (.string ⟨#[]⟩) (by rw[← A,List.getElem?_append_right (QM _),Nat.sub_self,B.out];rfl);have q1:=AG o.out (ds.length*7+1) (.int .i64 0) (by rw[← A,List.getElem?_append_right (by omega),QU,B.out];rfl);have q2:=AG o.out (ds.length*7+2) (.string ⟨#[]⟩) (by rw[← A,List.getElem?_append_right (by omega),QU,B.out];rfl);have q3:=AG o.out (ds.length*7+3) (.slice none 0 0) (by rw[← A,List.getElem?_append_right (by omega),QU,B.out];rfl);have q4:=AG o.out (ds.length*7+4) (.slice none 0 0) (by rw[← A,List.getElem?_append_right (by omega),QU,B.out];rfl);have q5:=AG o.out (ds.length*7+5) (.int .i64 0) (by rw[← A,List.getElem?_append_right (by omega),QU,B.out];rfl);have q6:=AG o.out (ds.length*7+6) (.int .i64 0) (by rw[← A,List.getElem?_append_right (by omega),QU,B.out];rfl);have p0:=World.ownsRow.frozenAt o.out (ds.length*7);have p1:=World.ownsRow.frozenAt o.out (ds.length*7+1);have p2:=World.ownsRow.frozenAt o.out (ds.length*7+2);have p3:=World.ownsRow.frozenAt o.out (ds.length*7+3);have p4:=World.ownsRow.frozenAt o.out (ds.length*7+4);have p5:=World.ownsRow.frozenAt o.out (ds.length*7+5);have p6:=World.ownsRow.frozenAt o.out (ds.length*7+6);have n1:¬g'=t6:=by omega
  have n2:¬t6=g':=by omega
  have U:=QA A.symm;clear J A;refine AR (i:=8) (k:=9) (by kernel_rfl) ?_ ?_
  ·refine AB (by decide) (λK9 HK9=>?_);simp only[QE,QL,QF,QN];go_wp2_with fail;refine HK9.out _ _ ⟨λh=>absurd h (by decide),?_⟩;clear HK9;refine TO (i:=9) ?_;refine AB (by decide) (λKa HKa=>?_);simp only[QE,QL,QF,QN];go_wp2_with fail;refine HKa.out _ _ ⟨λh=>absurd h (by decide),?_⟩;clear HKa;refine AF (by kernel_rfl) ?_ _;go_wp2_with fail;go_end0;have C:=E.out.end1 (jj:=0) S.out T.out HD.out rfl L.out Y.out K.out o.out R.out U.out rfl;simp only[putCells,Nat.add_assoc,QW]at C;exact⟨rfl,C⟩
  ·refine AB (by decide) (λK9 HK9=>?_);simp only[QE,QL,QF,QN];go_wp2_with fail;refine HK9.out _ _ ⟨λh=>absurd h (by decide),?_⟩;clear HK9;refine TO (i:=8) ?_;refine AB (by decide) (λKa HKa=>?_);simp only[QE,QL,QF,QN];go_wp2_with fail;refine HKa.out _ _ ⟨λh=>absurd h (by decide),?_⟩;clear HKa;refine AF (by kernel_rfl) ?_ _;go_wp2_with fail;go_end0;have C:=E.out.end2 (jj:=0) S.out T.out HD.out rfl L.out Y.out K.out o.out R.out U.out rfl;simp only[putCells,Nat.add_assoc,QW]at C;exact⟨rfl,C⟩
end Go.Proofs.YtedeapbonbbacaaGreatDoor
