/-
  For StoreOrder: the last changes by their keys (plain; a map of changes), parts of a slice of changes, a store beside another. StoreOrder, walked.
-/
import Derived.Test.YtjldahcckmmenaaGreatDoorZd21
import Derived.Test.YtjldahcckmmenaaGreatDoorZd20
open Array renaming getInternal_eq_getElem → QD
open Go.Lib renaming hid → QA
open List renaming setIfInBounds_toArray → QC, set_cons_succ → QG, set_cons_zero → QH, getElem_cons_zero → QI, getElem_cons_succ → QJ, getElem_toArray → QK, length_nil → QR, length_drop → QY, getElem?_eq_getElem → ZG, length_take → ZH
open Nat renaming le_refl → QM, le_trans → QQ, zero_le → ZS
namespace Go.Proofs.YtjldahcckmmenaaGreatDoor
set_option maxRecDepth 100000
set_option maxHeartbeats 4000000
set_option linter.unusedSimpArgs false
set_option linter.unusedVariables false
open Go Go.RowKit
open Go.Maps Go.WideMaps
namespace Sto
def DU (p:Op×Value):Lit×DataW Value:=(.string p.1.1,.held (.agg (AG p.1 p.2).toArray))
def ldatum (l:ME):DataW Value:=.map (l.map DU)
theorem GL (x:Op×Value):∀l:ME,DataW.insert (DU x) (l.map DU)=(rins x l).map DU
 | []=>rfl
 | y::r=>by
  rw[List.map_cons];unfold DataW.insert rins;by_cases h:x.1.1<y.1.1
  ·rw[if_pos h,if_pos (show (DU x).1.before (DU y).1=true from (B1 _ _).2 h)];rfl
  ·rw[if_neg h,if_neg (show ¬(DU x).1.before (DU y).1=true from λe=>h ((B1 _ _).1 e)),List.map_cons,GL x r]
theorem Fy (k:List UInt8) (l:ME):(l.map DU).filter (λp=>!p.1.sameKey (.string k))=(rdel l k).map DU:=by
 unfold rdel;rw[List.filter_map];rfl
theorem ldatum_put (l:ME) (p:Op×Value):(ldatum l).put (.string p.1.1) (.held (.agg (AG p.1 p.2).toArray))=ldatum (rins p (rdel l p.1.1)):=by
 unfold ldatum DataW.put;simp only[Fy];rw[show ((Lit.string p.1.1,DataW.held (.agg (AG p.1 p.2).toArray)):Lit×DataW Value)=DU p from rfl,GL]
theorem ldatum_size (l:ME):Maps.size (ldatum l)=l.length:=by
 unfold ldatum;rw[Maps.size_eq,List.length_map]
theorem Fw (l:ME) (k:List UInt8) (zd:DataW Value):(ldatum l).atKey (.string k) zd=match l.find? (λp=>p.1.1==k) with|some p=>.held (.agg (AG p.1 p.2).toArray)|none=>zd:=by
 unfold ldatum DataW.atKey;simp only[List.find?_map];have:((λp:Lit×DataW Value=>p.1.sameKey (.string k))∘DU)=λp=>p.1.1==k:=rfl
 rw[this];cases l.find? (λp=>p.1.1==k)<;>rfl
def opR (v:Value):Option (DataW Value×List MemPlace):=match v with
 | .agg cs=>if cs.size=34 then some (.held v,[]) else none
 | _=>none
theorem opR_mk {o:Op} (h:o.1.length=32) (v:Value):opR (.agg (AG o v).toArray)=some (.held (.agg (AG o v).toArray),[]):=by
 show (if (AG o v).toArray.size=34 then some (DataW.held (Value.agg (AG o v).toArray),([]:List MemPlace)) else none)=_;rw[if_pos (by rw[List.size_toArray,Ac h])]
theorem opR_inv {v:Value} {y:DataW Value×List MemPlace} (h:opR v=some y):y=(.held v,[]):=by
 unfold opR at h;split at h
 ·split at h
  ·simpa using h.symm
  ·cases h
 ·cases h
theorem EA {x y:Op×Value}:∀{l:ME},y∈rins x l↔y=x∨y∈l
 | []=>by simp[rins]
 | z::r=>by
  unfold rins;split
  ·simp
  ·rw[List.mem_cons,EA,List.mem_cons];constructor
   ·rintro (h|h|h)
    ·exact .inr (.inl h)
    ·exact .inl h
    ·exact .inr (.inr h)
   ·rintro (h|h|h)
    ·exact .inr (.inl h)
    ·exact .inl h
    ·exact .inr (.inr h)
theorem Fp {k:List UInt8} {y:Op×Value} {l:ME}:y∈rdel l k↔y∈l∧y.1.1≠k:=by
 unfold rdel;rw[List.mem_filter];simp
def last1 (l:ME) (p:Op×Value):ME:=rins p (rdel l p.1.1)
def lastL (ops:ME):ME:=ops.foldl last1 []
theorem lastL_take {ops:ME} {j:Nat} {p:Op×Value} (h:ops[j]?=some p):lastL (ops.take (j+1))=last1 (lastL (ops.take j)) p:=by
 unfold lastL;rw[List.take_add_one,h,List.foldl_append];rfl
theorem IC (l:ME) (p:Op×Value):(last1 l p).length≤l.length+1:=by
 unfold last1;rw[rins_len];have:=rdel_len l p.1.1;omega
theorem lastL_len:∀(ops l:ME),(ops.foldl last1 l).length≤l.length+ops.length
 | [],l=>QM _
 | p::r,l=>by
  have o:=lastL_len r (last1 l p);have A:=IC l p;rw[List.foldl_cons,List.length_cons];omega
theorem lastL_mem:∀(ops l:ME) (p:Op×Value),p∈ops.foldl last1 l→p∈l∨p∈ops
 | [],l,p,h=>.inl h
 | q::r,l,p,h=>by
  rw[List.foldl_cons]at h;rcases lastL_mem r _ p h with h1|h1
  ·unfold last1 at h1;rcases EA.1 h1 with rfl|h1
   ·exact .inr List.mem_cons_self
   ·exact .inl (Fp.1 h1).1
  ·exact .inr (List.mem_cons_of_mem _ h1)
theorem Ew:∀(ops l:ME) (E:Ents),(∀p∈l,get E p.1.1=if p.1.2.1=0 then none else some p.1.2)→∀p∈ops.foldl last1 l,get (chgs E (opsOf ops)) p.1.1=if p.1.2.1=0 then none else some p.1.2
 | [],l,E,h,p,hp=>h p hp
 | q::r,l,E,h,p,hp=>by
  rw[List.foldl_cons]at hp;have A:chgs E (opsOf (q::r))=chgs (chg E q.1) (opsOf r):=rfl;rw[A];refine Ew r (last1 l q) (chg E q.1) (λx hx=>?_) p hp;unfold last1 at hx;rw[KP];rcases EA.1 hx with rfl|hx
  ·rw[if_pos rfl]
  ·obtain⟨B,o⟩:=Fp.1 hx;rw[if_neg o];exact h x B
theorem JJ (E:Ents) (k:List UInt8):getE E k=match get E k with|some x=>(x.1,x.2,true)|none=>(0,[],false):=by
 unfold getE get;cases E.find? (λe=>e.1==k)<;>rfl
theorem getE_last {ops:ME} {p:Op×Value} (h:p∈lastL ops):getE (chgs [] (opsOf ops)) p.1.1=if p.1.2.1=0 then (0,[],false) else (p.1.2.1,p.1.2.2,true):=by
 rw[JJ,Ew ops [] [] (λx hx=>by cases hx) p h];by_cases h0:p.1.2.1=0
 ·rw[if_pos h0,if_pos h0]
 ·rw[if_neg h0,if_neg h0]
theorem He {l:ME} {k:List UInt8} {p:Op×Value} (h:l.find? (λp=>p.1.1==k)=some p):p∈l∧p.1.1=k:=by
 exact⟨List.mem_of_find?_eq_some h,by simpa using List.find?_some (p:=λq:Op×Value=>q.1.1==k) h⟩
end Sto
/-! ### Parts of a slice of changes -/
theorem Al.take {w:World} {F:Nat→Prop} {a:Option Addr} {n cap k:Nat} {l:Sto.ME} (h:Al w F (.slice a n cap) l) (hk:k≤l.length):Al w F (sliced a 0 k cap 34) (l.take k):=by
 obtain⟨M,B,C,L,E⟩:=h;simp only[Value.slice.injEq]at C;obtain⟨rfl,rfl,rfl⟩:=C;refine⟨_,_,by unfold sliced;rw[ZH,Nat.min_eq_left hk,Nat.sub_zero],by rw[ZH];omega,λi p hi=>?_⟩;have o:l[i]?=some p:=by
  rw[List.getElem?_take]at hi;split at hi
  ·exact hi
  ·cases hi
 have K:=(List.getElem?_eq_some_iff.1 o).1;obtain⟨H,I,g,A,rfl,G,J,D⟩:=E i p o;refine⟨H,I,g,A,?_,G,J,D⟩;rw[if_neg (by omega)];rfl
theorem Al.drop {w:World} {F:Nat→Prop} {a:Option Addr} {n cap k:Nat} {l:Sto.ME} (h:Al w F (.slice a n cap) l) (hk:k≤l.length):Al w F (sliced a k n cap 34) (l.drop k):=by
 obtain⟨L,A,B,K,D⟩:=h;simp only[Value.slice.injEq]at B;obtain⟨rfl,rfl,rfl⟩:=B;refine⟨_,_,by unfold sliced;rw[QY],by rw[QY];omega,λi p hi=>?_⟩;rw[List.getElem?_drop]at hi;have J:=(List.getElem?_eq_some_iff.1 hi).1;obtain⟨G,H,g,o,rfl,E,I,C⟩:=D _ p hi;refine⟨G,H,g,o+k*34,?_,E,I,by rw[show o+k*34+i*34=o+(k+i)*34 by omega];exact C⟩;rw[if_neg (by omega)];simp[Dx]
/-! ### A store beside another -/
structure Iv (base r:Nat) (x:World) (f:Fs.St) (V:FsV) (own:Nat→Tag) (ver:Int) (sv:Value) (mb:Nat) (S:List Sto.Seg) (R:Int) (n:Nat):Prop where
 st:Fsn base r x f V own ver sv mb [] S R n
 lo:base≤r
 sv:∀p n c,sv=.slice (some p) n c→base≤p.block
 mb:base≤mb
theorem Iv.past {base r:Nat} {x y:World} {f:Fs.St} {V:FsV} {own:Nat→Tag} {ver:Int} {sv:Value} {mb:Nat} {S:List Sto.Seg} {R:Int} {n:Nat} (h:Iv base r x f V own ver sv mb S R n) (ho:y.os=x.os) (ht:y.tape=x.tape) (hu:y.output=x.output) (hz:x.heap.size≤y.heap.size)
  (hb:∀b,base≤b→b<x.heap.size→y.heap[b]?=x.heap[b]?):Iv base r y f V own ver sv mb S R n:=by
 have A:=AC h.st.at_.root;have B:Kept own (·=.other) x y:=⟨ho,ht,hu,hz,λk hk hne=>hb k (Classical.byContradiction λhlt=>hne (h.st.fs.old k (by omega))) hk⟩
 have o:=h.st.at_.ents.map.lt;refine⟨⟨h.st.fs.kept B,⟨(hb r h.lo A).trans h.st.at_.root,h.st.at_.mine,?_,⟨ownsMap_at h.st.at_.ents.map (hb mb h.mb o),h.st.at_.ents.mine,λp hp=>(by cases hp),λp hp=>(by cases hp)⟩,h.st.at_.is,h.st.at_.srt⟩,h.st.disk,h.st.room,h.st.len,QQ h.st.le hz⟩,h.lo,h.sv,h.mb⟩;have C:CB x (λb=>SF r own b∧base≤b) sv (Sto.ids S):=⟨h.st.at_.segs.1,λp n c e hl=>⟨h.st.at_.segs.2 p n c e hl,h.sv p n c e⟩⟩
 exact C.mv ⟨hz,λb hlt hf=>⟨hf.1,hb b hf.2 hlt⟩⟩
def LH (R:Int) (w:World) (e:Ending) (w':World):Prop :=
 ∃r f V own sv mb,e=.returned (.tuple #[.pointer (some ⟨w.heap.size+2,0,none⟩),.pointer (some ⟨r,0,none⟩)])∧Iv w.heap.size r w' f V own 1 sv mb [(1,[])] R 0∧Below w.heap.size w w'
theorem G6 (base:Nat) (R:Int) (w:World) (hE:Aq base w) (hbase:base≤w.heap.size) (h1:3200≤R) (h2:R≤1048576):Calls Tryz.prog 10 #[.int .i64 R] w (LH R w):=by
 refine (F5 base R w hE hbase h1 h2).mono ?_;rintro e w' ⟨r,V,own,sv,mb,rfl,k1,k2,k3,k4,k5,k6⟩;obtain⟨D,B,E,C,o,A⟩:=Sto.Disk.begin h1 h2;exact⟨r,_,V,own,sv,mb,rfl,⟨⟨k2,k4,A.mono (QM _) (by omega),o,QM _,k3.size⟩,k1,k5,k6⟩,k3⟩
def LO (PX:Nat→Prop) (base r:Nat) (x:World) (S:List Sto.Seg) (R:Int) (n:Nat) (own:Nat→Tag) (e:Ending) (w':World):Prop :=
 ∃f' V' own' ver' mb' sv' l',Fsn base r w' f' V' own' ver' sv' mb' l' S R n∧SFr r own own' x w'∧Below base x w'∧(∀p∈l',Ax w' PX p.2 p.1.2.2)∧PX mb'
theorem Fsn.writeX {base r:Nat} {x:World} {f:Fs.St} {V:FsV} {own:Nat→Tag} {ver:Int} {sv:Value} {mb:Nat} {l:Sto.ME} {S:List Sto.Seg} {R:Int} {n:Nat} (h:Fsn base r x f V own ver sv mb l S R n) (hr:base≤r) (hE:Aq base x) (v:Value) (ops:Sto.ME) (PX:Nat→Prop)
  (hPX:∀b,x.heap.size≤b→PX b) (hxe:∀p∈l,Ax x PX p.2 p.1.2.2) (hxm:PX mb) (ho:Al x (λb=>SF r own b∧PX b) v ops)
  (hol:ops.length≤1000000000) (hbl:∀p∈ops,p.1.2.2.length≤1000000000) (hn:n≤1000) (h31:S.length≤31) (hR:(((S.length+3)*12297+800:Nat):Int)≤R) :
  Calls Tryz.prog 13 #[.pointer (some ⟨r,0,none⟩),v] x λe w'=>e=.returned (.int .i64 (Sto.wcode S (Sto.opsOf ops)))∧LO PX base r x (Sto.wrote S (Sto.opsOf ops)) R (n+1) own e w':=by
 have C:∀p∈ops,p.1.1.length=32:=λp A=>by
  obtain⟨i,H⟩:=List.getElem?_of_mem A;obtain⟨a,cap,J,_,G⟩:=ho;exact (G i p H).1
 have B:=h.len;obtain⟨E,a,F,D⟩:=Sto.snoc_of h.disk.x.ne;subst D;refine (GC base (base+2) r mb f V own ver sv E a F 12297 (15+14*n) l v ops x h.fs hE h.le hr h.at_ h.disk PX hPX hxe hxm ho hol hbl C (λhg=>?_)).mono ?_
 ·have I:Sto.GoodB (Sto.opsOf ops):=⟨hg.1,hg.2.2,λo ho=>by
   obtain⟨p,A,rfl⟩:=List.mem_map.1 ho;exact C p A⟩
  exact Sto.Can.of h.disk I h31 (by rw[h.room];exact hR) (by omega)
 ·rintro e w' ⟨rfl,f',V',own',ver',mb',sv',l',k1,k2,k3,k4,k5,k6,k7,k8⟩;refine⟨rfl,f',V',own',ver',mb',sv',l',⟨k1,k4,k5.mono (by omega) (QM _),k6.trans h.room,?_,QQ h.le k3.size⟩,k2,k3,k7,k8⟩;have:=Sto.wrote_len h.disk.x.ne (Sto.opsOf ops);omega
structure Rds (Q:Nat→Prop) (r B:Nat) (x:World) (ver:Int) (sv:Value) (mb:Nat) (l:Sto.ME):Prop where
 root:x.heap[r]?=some (.cells (AF ver sv mb B false) 51 (0,0))
 rq:Q r
 ents:A1 x Q mb l
 mq:Q mb
theorem Rds.mv {Q:Nat→Prop} {r B:Nat} {x y:World} {ver:Int} {sv:Value} {mb:Nat} {l:Sto.ME} (h:Rds Q r B x ver sv mb l) (m:MV Q Q x y):Rds Q r B y ver sv mb l :=
 ⟨(m.2 r (AC h.root) h.rq).2.trans h.root,h.rq,h.ents.mv m (m.2 mb h.ents.map.lt h.mq).2,h.mq⟩
open Go.Maps Go.WideMaps
namespace Sto
theorem chk_app {a b:List Op} (h:chk (a++b)=0):chk a=0∧chk b=0:=by
 obtain⟨o,A⟩:=chk_len h;rw[List.length_append]at o;rw[D4]at A;unfold chk at h;split at h
 ·cases h
 split at h
 ·cases h
 rename_i h3;rw[List.any_append,Bool.or_eq_true]at h3;unfold chk;constructor
 ·rw[if_neg (by omega),if_neg (λe=>h3 (.inl e)),if_neg (by omega)]
 ·rw[if_neg (by omega),if_neg (λe=>h3 (.inr e)),if_neg (by omega)]
theorem IH (a b:ME):opsOf (a++b)=opsOf a++opsOf b:=by unfold opsOf;rw[List.map_append]
theorem opsOf_cut (l:ME) (k:Nat):opsOf l=opsOf (l.take k)++opsOf (l.drop k):=by rw[← IH,List.take_append_drop]
theorem lent_at {l:ME} {kl:Lit} {yd:DataW Value} (hat:∀zd,(ldatum l).atKey kl zd=yd) (hh:Maps.has (ldatum l) kl=true):∃p∈l,kl=.string p.1.1∧yd=.held (.agg (AG p.1 p.2).toArray):=by
 obtain⟨q,A,rfl⟩:∃q∈l,kl=.string q.1.1:=by
  unfold ldatum at hh;rw[Maps.has_eq,List.any_map,List.any_eq_true]at hh;obtain⟨p,C,e⟩:=hh;refine⟨p,C,?_⟩;cases kl<;>simp[DU,Lit.sameKey]at e
  rw[e]
 cases hf:l.find? (λp=>p.1.1==q.1.1) with
 | none =>
  rw[List.find?_eq_none]at hf;exact absurd (beq_self_eq_true _) (hf q A)
 | some p =>
  obtain⟨o,B⟩:=He hf;refine⟨p,o,by rw[B],?_⟩;have:=hat (.lit (.int .i64 0));rw[Fw,hf]at this;exact this.symm
end Sto
theorem Hh (w:World) (c c':Array Value) (t:TypeId) (o:Obj):((w.alloc (.cells c t)).alloc o).setRow w.heap.size c'=(w.alloc (.cells c' t)).alloc o:=by
 simp only[World.setRow,World.alloc]
 congr 1
 apply Array.ext_getElem?;intro i;rw[Array.getElem?_modify];by_cases h:w.heap.size=i
 ·subst h;simp[Array.getElem?_push]
 ·have A:¬i=w.heap.size:=λe=>h e.symm
  simp[h,A,Array.getElem?_push]
theorem Bq {ops:Array Oper} {rest:List Oper} {op:Oper} {a:Act} {w:World} {Q:Exit→Act→World→Prop} (hgd:op.guard=none) (x y:Operand) (ho:op.op=.store 40 x y) (c:Array Value) (hc:c.size=32) (b:Obj) (k:List UInt8) (hk:k.length=32)
  (hx:a.eval x=.pointer (some ⟨w.heap.size,0,none⟩)) (hy:a.eval y=Ah k) (h:wpList Tryz.prog ops Q rest (a.put op.dst undef) ((w.alloc (.cells (AH k).toArray 40)).alloc b)) :
  wpList Tryz.prog ops Q (op::rest) a ((w.alloc (.cells c 40)).alloc b) :=
 wpList_store_row hgd 40 x y ho w.heap.size (AH k).toArray hx hy 40 c (by show ((w.heap.push _).push _)[_]?=_;simp[Array.getElem?_push]) (by rw[List.size_toArray,AP,hk];kernel_rfl) (by rw[hc,List.size_toArray,AP,hk]) (all_oneCell_toArray (CW k)) (by rw[Hh];exact h)
theorem B7 {ops:Array Oper} {rest:List Oper} {op:Oper} {a:Act} {w:World} {Q:Exit→Act→World→Prop} (hgd:op.guard=none) (x y:Operand) (ho:op.op=.store 43 x y) (c:Array Value) (hc:c.size=34) (o:Sto.Op) (v:Value) (hk:o.1.length=32) (hv:v.oneCell'=true) (g:Nat) (hg:g=w.heap.size)
  (hx:a.eval x=.pointer (some ⟨g,0,none⟩)) (hy:a.eval y=.agg (AG o v).toArray) (h:wpList Tryz.prog ops Q rest (a.put op.dst undef) (w.alloc (.cells (AG o v).toArray 43))) :
  wpList Tryz.prog ops Q (op::rest) a (w.alloc (.cells c 43)):=by
 subst hg;exact AL hgd x y ho c hc o v hk hv hx hy h
theorem Kq (cut:Int) (n:Nat) (hn:n≤40):IntKind.u64.wrap (n+1)=(n:Int)+1∧∃k:Nat,wrap64 ((IntKind.u64.wrap cut).tmod ((n:Int)+1))=(k:Int)∧k≤n:=by
 have o:0≤IntKind.u64.wrap cut:=by rw[IntKind.wrap_u64];omega
 refine⟨by rw[IntKind.wrap_u64];omega,?_⟩;rw[Int.tmod_eq_emod_of_nonneg o]
 generalize IntKind.u64.wrap cut=x at o ⊢
 have A:=Int.emod_nonneg x (show (n:Int)+1≠0 by omega);have B:=Int.emod_lt_of_pos x (show 0<(n:Int)+1 by omega);refine⟨(x % ((n:Int)+1)).toNat,?_,by omega⟩;unfold wrap64;omega
theorem Al.cap {w:World} {F:Nat→Prop} {a:Option Addr} {n cap:Nat} {l:Sto.ME} (h:Al w F (.slice a n cap) l):l.length≤cap:=by
 obtain⟨C,o,A,B,_⟩:=h;simp only[Value.slice.injEq]at A;obtain⟨rfl,rfl,rfl⟩:=A;exact B
theorem Al.take1 {w:World} {F:Nat→Prop} {a:Option Addr} {n cap k:Nat} {l:Sto.ME} (h:Al w F (.slice a n cap) l) (hk:k≤l.length):Al w F (.slice a k cap) (l.take k):=by
 have o:=h.take hk;unfold sliced at o;have A:Option.map (λx=>x.add (0*34)) a=a:=by cases a<;>simp[Addr.add]
 rw[Nat.sub_zero,Nat.sub_zero]at o;split at o
 ·exact o
 ·rwa [A]at o
theorem LK.of {w:World} {b n:Nat} {l:Sto.ME} (h:w.ownsMap Tryz.prog 40 Sto.opR b n (Sto.ldatum l)):w.ownsMap Tryz.prog 40 Sto.opR b l.length (Sto.ldatum l):=by
 obtain⟨C,o,D,F,E,B⟩:=h;refine⟨C,o,D,F,?_,B⟩;have A:=congrArg Maps.size B;rw[Sto.ldatum_size]at A;rw[A];simp[Maps.size,length_sorted]
theorem storeOrder_any (base:Nat) (v:Value) (ops:Sto.ME) (cut:Int) (w:World) (hE:Dm base w) (hbase:base≤w.heap.size) (hv:Al w (Low w) v ops) (hl:ops.length≤9223372036854775807) (hi:∀p∈ops,Ih p) :
  Calls Tryz.prog 3 #[v,.int .i64 cut] w λe w'=>e=.returned (.bool true)∧Below w.heap.size w w':=by
 obtain⟨va,vc,rfl⟩:=hv.form;have al:maxLen=9223372036854775807:=by decide
 have HE:=QA hE;have HV:=QA hv;have HI:=QA hi;have cA:=QA al;clear hE hv hi al;go_enter Tryz.func3,Tryz.ntmps3;go_wp2_with fail;refine (Cn base w HE.out hbase).mono ?_;rintro e w1 ⟨rfl,hb1⟩;have bx:=QA hb1;have cf:=QA (HE.out.below (hb1.mono hbase));have bz:Hid (base≤w1.heap.size):=QA (QQ hbase hb1.size);have cB:=QA (HV.out.mv (MV.below hb1));clear hb1;go_wp2_with fail;refine (Il _ ops w1 (Low w) cB.out hl (λp L=>by have:=(HI.out p L).1;rw[cA.out]at this;exact this)).mono ?_;rintro e w2 ⟨fb,rfl,hfit,hb2⟩;have A:Hid (Below w.heap.size w w2):=QA (bx.out.trans (hb2.mono bx.out.size));have am:=QA (cf.out.below (hb2.mono bz.out));have aq:Hid (base≤w2.heap.size):=QA (QQ bz.out hb2.size);have cP:=QA (HV.out.mv (F':=Low w) (MV.below A.out));have ci:=QA hfit;clear hb2 hfit;cases fb with
 | false =>
  go_wp2_with fail;refine (Cn base w2 am.out aq.out).mono ?_;rintro e w9 ⟨rfl,hb9⟩;have bH:Hid (Below w.heap.size w w9):=QA (A.out.trans (hb9.mono A.out.size));clear hb9;go_wp2_with fail;refine bodyPost_ret (v:=.bool true) (by simp[results,Tryz.results3,go_sem]) rfl ?_;exact⟨rfl,bH.out⟩
 | true =>
  have N:=QA (ci.out (by simp));clear ci;by_cases h40:40<ops.length
  ·have cj:(40:Int)<(ops.length:Int):=by omega
   go_wp2_with fail;refine (Cn base w2 am.out aq.out).mono ?_;rintro e w9 ⟨rfl,hb9⟩;have bH:Hid (Below w.heap.size w w9):=QA (A.out.trans (hb9.mono A.out.size));clear hb9;go_wp2_with fail;refine bodyPost_ret (v:=.bool true) (by simp[results,Tryz.results3,go_sem]) rfl ?_;exact⟨rfl,bH.out⟩
  ·have cj:(ops.length:Int)≤40:=by omega
   go_wp2_with fail;refine (I0 base 100000 w2 am.out.sg aq.out (by decide) (by decide)).mono ?_;rintro e w3 ⟨r,f3,V3,own3,sv3,mb3,rfl,hr,h3,hb3⟩;have aM:=QA h3;have ad:=QA hb3;have aU:Hid (Aq w2.heap.size w3):=QA ((am.out.sg.mono aq.out).below hb3);clear h3 hb3;go_wp2_with fail;refine (G6 w2.heap.size 100000 w3 aU.out ad.out.size (by decide) (by decide)).mono ?_;rintro e w4 ⟨q,f4,V4,own4,sv4,mb4,rfl,h4,hb4⟩;have aE:=QA h4;have a5:=QA hb4;have bO:=QA (aM.out.below hb4);have bT:Hid (Below w2.heap.size w2 w4):=QA (ad.out.trans (hb4.mono ad.out.size));have aZ:Hid (Al w4 (Low w) (.slice va ops.length vc) ops):=QA (HV.out.mv (MV.below (A.out.trans (bT.out.mono A.out.size))));clear h4 hb4;have bJ:=QA (K3 aZ.out HI.out N.out.2);have bM:=QA (Sto.opsOf_len ops);go_wp2_with fail;refine (JD _ ops w4 (Low w) aZ.out (QQ N.out.1 (by decide)) bJ.out).mono ?_;rintro e w5a ⟨rv,rfl,hro,hb5⟩;obtain⟨ra,rc,cF⟩:=hro.form;subst cF;have bK:=QA (hro.rosF (F:=λ_=>True) (λ_ _=>trivial));have ae:=QA hb5;have bS:Hid (Below w2.heap.size w2 w5a):=QA (bT.out.trans (hb5.mono bT.out.size));clear hro hb5;go_wp2_with fail;refine (G5 _ (Sto.opsOf ops) w5a _ bK.out (by rw[bM.out];exact QQ N.out.1 (by decide))).mono ?_;rintro e w5 ⟨rfl,rfl⟩;obtain⟨c,br⟩:∃c,Sto.chk (Sto.opsOf ops)=c:=⟨_,rfl⟩
   rw[br];by_cases hc0:c=0
   ·subst hc0;have HC:=QA br;clear br;obtain⟨-,k,hk,co⟩:=Kq cut ops.length (by omega);go_wp2_with fail;rw[hk];have bq:=QA co;clear hk co;have bs:=QA (bO.out.below ae.out);have cd:Hid (Iv w3.heap.size q w5 f4 V4 own4 1 sv4 mb4 [(1,[])] 100000 0):=QA ⟨aE.out.st.below ae.out,aE.out.lo,aE.out.sv,aE.out.mb⟩;have bG:=QA (aZ.out.mv (F':=Low w) (MV.below ae.out));have cK:w3.heap.size≤w4.heap.size:=a5.out.size;have cI:w4.heap.size≤w5.heap.size:=ae.out.size;have aG:w.heap.size≤w3.heap.size:=QQ A.out.size ad.out.size;have cH:mb3<w3.heap.size:=aM.out.at_.ents.map.lt;have cq:r<w3.heap.size:=AC aM.out.at_.root;have bo:Hid (Aq w2.heap.size w2):=QA (am.out.sg.mono aq.out);have av:Hid (∀b,b<w.heap.size→SF r own3 b):=QA (bs.out.low hr A.out.size);refine (bs.out.writeX hr (bo.out.below bS.out) _ ops (λb=>b<w3.heap.size∨w4.heap.size≤b) (λb hb=>Or.inr (by omega)) (λp L=>by cases L) (Or.inl cH) (bG.out.mv ⟨QM _,λb _ hf=>⟨⟨av.out b hf,Or.inl (Nat.lt_of_lt_of_le hf aG)⟩,rfl⟩⟩) (QQ N.out.1 (by decide)) (λp L=>QQ (N.out.2 p L) (by decide)) (by decide) (by decide) (by decide)).mono ?_;have aK:Sto.live (Sto.ents [(1,[])])≤8768:=by decide
    rw[Sto.wcode_little aK HC.out];rintro e w6 ⟨rfl,f6,V6,own6,ver6,mb6,sv6,l6,h6,hf6,hb6,hx6,hm6⟩;have cg:=QA h6;have cl:=QA hx6;have bu:=h6.at_.ents.map.lt;have b6:Hid (mb6<w3.heap.size∨w4.heap.size≤mb6∧mb6<w6.heap.size):=QA (hm6.elim Or.inl λe=>Or.inr ⟨e,bu⟩);have bQ:Hid (Below w2.heap.size w2 w6):=QA (bS.out.trans hb6);have ac:Hid (Iv w3.heap.size q w6 f4 V4 own4 1 sv4 mb4 [(1,[])] 100000 0) :=
     QA (cd.out.past hf6.os hf6.tape hf6.output hf6.size λb h1 h2=>hf6.block b h2 (aM.out.fresh b h1).1 (by omega))
    have cM:w5.heap.size≤w6.heap.size:=hf6.size;have bD:Hid (Al w6 (Low w) (.slice va ops.length vc) ops):=QA (HV.out.mv (MV.below (A.out.trans (bQ.out.mono A.out.size))));have a9:Hid (Rds (λb=>b<w3.heap.size∨w4.heap.size≤b∧b<w6.heap.size) r (w2.heap.size+2) w6 ver6 sv6 mb6 l6) :=
     QA ⟨h6.at_.root,Or.inl cq,⟨h6.at_.ents.map,h6.at_.ents.key,λp L=>⟨(hx6 p L).1,λa n c e hl=>((hx6 p L).low.2 a n c e hl).1.elim Or.inl λe2=>Or.inr ⟨e2,((hx6 p L).low.2 a n c e hl).2⟩⟩⟩,b6.out⟩
    have W:Hid (∀b,w4.heap.size≤b→own4 b=.other∧b≠q):=QA λb hb=>aE.out.st.fresh b hb
    have bC:Hid (Sto.Srt (l6.map (·.1))):=QA h6.srt;have bw:Hid (KY (l6.map (·.1))):=QA h6.efit;have aI:Hid (l6.map (·.1)=Sto.chgs [] (Sto.opsOf ops)):=QA (by rw[h6.at_.is];exact Sto.wrote_little (by simp) aK HC.out);clear h6 hf6 hb6 hx6 hm6 bu;obtain⟨bW,bk⟩:=Sto.chk_app (by rw[← Sto.opsOf_cut ops k];exact HC.out);have cD:(k:Int)≤(ops.length:Int):=by have:=bq.out;omega
    have O:(0:Int)≤(k:Int):=Int.natCast_nonneg _;have ay:ops.length≤vc:=Al.cap HV.out;have cx:(k:Int)≤(vc:Int):=by have:=bq.out;omega
    have cG:(ops.length:Int)≤(vc:Int):=by omega
    go_wp2_with fail;have bb:Hid (Al w6 (Low w) (.slice va k vc) (ops.take k)):=QA (Al.take1 bD.out bq.out);have cr:Hid ((ops.take k).length≤1000000000):=QA (by rw[ZH];have:=N.out.1;omega);have ch:Hid ((ops.drop k).length≤1000000000):=QA (by rw[QY];have:=N.out.1;omega);refine (ac.out.st.write ac.out.lo ((bo.out.below bQ.out).mono ad.out.size) _ (ops.take k) bb.out (λb _ hb=>ac.out.st.low ac.out.lo aG b hb) cr.out (λp L=>QQ (N.out.2 p (List.mem_of_mem_take L)) (by decide)) (by decide) (by decide) (by decide)).mono ?_;rw[Sto.wcode_little aK bW];rintro e w7 ⟨rfl,f7,V7,own7,ver7,mb7,sv7,l7,h7,hf7,hb7⟩;clear cx cG cD ay;have b7:=Sto.wrote_first 1 (Sto.opsOf (ops.take k));have aA:=Sto.wrote_first_live 1 (Sto.opsOf (ops.take k));have V:Sto.ents (Sto.wrote [(1,[])] (Sto.opsOf (ops.take k)))=Sto.chgs [] (Sto.opsOf (ops.take k)):=Sto.wrote_little (by simp) aK bW;obtain⟨S,I⟩:∃S,Sto.wrote [(1,[])] (Sto.opsOf (ops.take k))=S:=⟨_,rfl⟩
    rw[I]at h7 b7 aA V;have aj:=QA h7;have bn:=QA hf7;have bA:=QA hb7;have be:Hid (Below w2.heap.size w2 w7):=QA (bQ.out.trans (hb7.mono ad.out.size));have aJ:=QA (a9.out.mv ⟨hf7.size,λb hb hq=>⟨hq,hq.elim (λe=>hb7.block b e) λe=>hf7.block b hb (W.out b e.1).1 (W.out b e.1).2⟩⟩);have b3:Hid (Al w7 (Low w) (.slice va ops.length vc) ops):=QA (HV.out.mv (MV.below (A.out.trans (be.out.mono A.out.size))));have aP:=QA b7;have aN:=QA aA;have aH:=QA V;clear h7 hf7 hb7 b7 aA V I;have h3:=b3.out.drop bq.out;unfold sliced at h3;by_cases hkv:vc=k
    ·subst hkv;rw[if_pos (by omega),Nat.sub_self]at h3;have an:=QA h3;clear h3;go_wp2_with fail;refine (aj.out.write ac.out.lo ((bo.out.below be.out).mono ad.out.size) _ (ops.drop vc) an.out (λb _ hb=>aj.out.low ac.out.lo aG b hb) ch.out (λp L=>QQ (N.out.2 p (List.mem_of_mem_drop L)) (by decide)) (by decide) (QQ aP.out (by decide)) (room_le (m:=1) aP.out (by decide))).mono ?_;rw[Sto.wcode_little aN.out bk];rintro e w8 ⟨rfl,f8,V8,own8,ver8,mb8,sv8,l8,h8,hf8,Q⟩;have V:Sto.ents (Sto.wrote S (Sto.opsOf (ops.drop vc)))=Sto.chgs [] (Sto.opsOf ops):=by
      rw[Sto.wrote_little aj.out.disk.x.ne aN.out bk,aH.out,← Sto.chgs_app,← Sto.opsOf_cut]
     obtain⟨T,hT⟩:∃T,Sto.wrote S (Sto.opsOf (ops.drop vc))=T:=⟨_,rfl⟩
     rw[hT]at h8 V;have b5:=QA h8;have ba:=QA V;have az:Hid (Below w2.heap.size w2 w8):=QA (be.out.trans (Q.mono ad.out.size));have ak:=QA (aJ.out.mv ⟨hf8.size,λb hb hq=>⟨hq,hq.elim (λe=>Q.block b e) λe=>hf8.block b hb ((bn.out.tags b e.2).trans (W.out b e.1).1) (W.out b e.1).2⟩⟩);have bh:Hid (Al w8 (Low w) (.slice va ops.length vc) ops):=QA (HV.out.mv (MV.below (A.out.trans (az.out.mono A.out.size))));clear h8 hf8 Q V hT bO bs aZ bG bD b3 bb an cg cl aE cd ac aj bn a9 aJ ae a5 bA b6 W av bK bJ aP aN aH aM aU;have cu:=@run_makeMap Tryz.prog;go_wp2_with fail;have aR:=World.ownsMap_made w8 Tryz.prog 40 Sto.opR;have Q:Below w8.heap.size w8 (w8.alloc (.map #[] 0)):=(Below.refl _ _).alloc (QM _) _
     go_loopg [89] ops.length (λdn s89 wr=>∃j:Nat,j≤ops.length∧dn=ops.length-j∧s89=.int .i64 (j:Nat)∧wr.ownsMap Tryz.prog 40 Sto.opR w8.heap.size (Sto.lastL (ops.take j)).length (Sto.ldatum (Sto.lastL (ops.take j)))∧Below w8.heap.size w8 wr)
     case atStart=>exact⟨0,ZS _,rfl,rfl,aR,Q⟩
     case round =>
      obtain⟨j,hj,bf,rfl,al,ab⟩:=hrel;have HK:=QA bf;have af:=QA al;have J:=QA ab;clear bf al ab aR Q;have cz:(0:Int)≤(j:Int):=Int.natCast_nonneg _;by_cases hjn:j<ops.length
      ·have bc:(j:Int)<(ops.length:Int):=by omega
       obtain⟨⟨o,pv⟩,L⟩:∃p,ops[j]?=some p:=⟨_,ZG hjn⟩
       obtain⟨D,K,g,b8,rfl,hg,U⟩:=(bh.out.mv (F':=Low w) (MV.below J.out)).at L;have ai:=K.1;obtain⟨Y,Z,ag,b9⟩:=ai.form;simp only at ag D ai U;subst ag;have bd:=Ad.new wr o (.slice Y o.2.2.length Z);have a2:=QA bd;have bF:=QA ai;have B:=QA D;have HW:Hid (Below wr.heap.size wr (wr.alloc (.cells (AG o (.slice Y o.2.2.length Z)).toArray 43))):=QA ((Below.refl _ _).alloc (QM _) _);have b4:=QA (ownsMap_at af.out (HW.out.block _ af.out.lt));have aC:=B9 D;have a7:=Sto.opR_mk D (.slice Y o.2.2.length Z);have bi:=Sto.lastL_len (ops.take j) [];have cE:(Sto.lastL (ops.take j)).length≤1000:=by rw[QR,ZH]at bi;unfold Sto.lastL;omega
       have bZ:=QA (Sto.lastL_take L);clear bd ai D L K bi;go_wp2_with (first|(guard_target=wpList _ _ _ ({ dst:=_,op:=.load 43 _,type:=_,pos:=_,after:=_,guard:=none }::_) _ _;first|(refine AJ rfl _ rfl g (b8+j*34) o (.slice Y o.2.2.length Z) B.out rfl U ?_)|(refine AJ rfl _ rfl wr.heap.size 0 o (.slice Y o.2.2.length Z) B.out rfl a2.out.range ?_))|(guard_target=wpList _ _ _ ({ dst:=_,op:=.store 43 _ _,type:=_,pos:=_,after:=_,guard:=none }::_) _ _;refine AL rfl _ _ rfl _ rfl o (.slice Y o.2.2.length Z) B.out bF.out.one rfl rfl ?_)|(guard_target=wpList _ _ _ ({ dst:=_,op:=.load 40 _,type:=_,pos:=_,after:=_,guard:=none }::_) _ _;refine Ab rfl _ rfl wr.heap.size 0 o.1 B.out rfl a2.out.key ?_)|(at_mapUpdate;refine wpList_mapUpdate_own _ rfl _ _ _ 38 rfl 40 43 Av Tryz.underlying38 Sto.opR w8.heap.size (Sto.lastL (ops.take j)).length _ rfl b4.out (by unfold maxLen;omega) _ _ _ rfl rfl aC _ [] a7 ?_;intro w4 hown4 hgrow4)|fail);go_roundg (ops.length-(j+1))
       case measure=>rw[HK.out];omega
       case rel =>
        refine⟨j+1,by omega,rfl,by simp,?_,(J.out.trans (HW.out.mono J.out.size)).grown hgrow4 (by have:=J.out.size;simp;omega) (λb hb=>by cases hb;exact QM _)⟩;rw[bZ.out];refine LK.of (n:=(Sto.lastL (ops.take j)).length+1) ?_;unfold Sto.last1;rw[← Sto.ldatum_put];exact hown4
      ·have bc:(ops.length:Int)≤(j:Int):=by omega
       obtain⟨wl,rfl⟩:∃x,x=wr:=⟨wr,rfl⟩
       have bV:Hid (wl.ownsMap Tryz.prog 40 Sto.opR w8.heap.size (Sto.lastL ops).length (Sto.ldatum (Sto.lastL ops))):=QA (by have h1:=af.out;rwa [List.take_of_length_le (by omega)]at h1);clear af;go_wp2_with (first|(at_range;refine wpList_range_own _ rfl _ 38 rfl 40 43 Av Tryz.underlying38 _ w8.heap.size _ _ rfl bV.out ?_;intro w0 hrg0 hg0 hs0)|fail)
       go_frame
       go_loopg [13] (Maps.size (Sto.ldatum (Sto.lastL ops))) (λdn s13 wq=>∃left:Lit→Bool,wq.ranges Tryz.prog 40 Sto.opR w8.heap.size wl.heap.size (Sto.lastL ops).length (Sto.ldatum (Sto.lastL ops)) left dn∧Below w8.heap.size w8 wq)
       case atStart =>
        exact⟨_,hrg0,J.out.grown hg0 J.out.size (λb hb=>by cases hb)⟩
       case round =>
        obtain⟨left,U,ab⟩:=hrel;have aa:=QA ab;clear ab hs0 hg0 hrg0;go_wp2_with (first|(at_next;refine wpList_next_ranges _ rfl _ rfl 40 Av Sto.opR (λv=>v) (λv=>v) (λkey kl hk=>⟨key,rfl⟩) (λv y hv=>⟨v,rfl⟩) w8.heap.size wl.heap.size _ _ _ _ rfl U ?_ ?_)|fail)
        ·intro _ hl0;clear U hl0;have aS:=QA (ak.out.mv (MV.below aa.out));go_wp2_with fail;refine (CF r (w2.heap.size+2) mb6 ver6 sv6 false l6 wr _ aS.out.root aS.out.ents bC.out bw.out).mono ?_;rintro e wa ⟨ev,rfl,heo,hba⟩;rw[aI.out]at heo;obtain⟨ea,ec,cc⟩:=heo.form;subst cc;have aW:=QA (heo.rosF (F:=λ_=>True) (λ_ _=>trivial));have aD:Hid (Below w8.heap.size w8 wa):=QA (aa.out.trans (hba.mono aa.out.size));clear heo hba;go_wp2_with fail;refine (b5.out.below aD.out).entries.mono ?_;rintro e wb ⟨fv,rfl,hfo,hbb⟩;rw[ba.out]at hfo;obtain⟨fa,fc,bY⟩:=hfo.form;subst bY;have bN:=QA (hfo.rosF (F:=λ_=>True) (λ_ _=>trivial));have bP:=QA (aW.out.mv (F':=λ_=>True) (MV.below hbb));have a1:Hid (Below w8.heap.size w8 wb):=QA (aD.out.trans (hbb.mono aD.out.size));have a6:Hid ((Sto.chgs [] (Sto.opsOf ops)).length≤1000000000):=QA (by have h1:=Sto.chgs_len (Sto.opsOf ops) [];have h3:=bM.out;have h4:=N.out.1;rw[QR]at h1;omega);clear hfo hbb aW;go_wp2_with fail;refine (E5 _ _ _ _ wb _ _ bP.out bN.out a6.out a6.out).mono ?_;rw[decide_eq_true (rfl:Sto.chgs [] (Sto.opsOf ops)=Sto.chgs [] (Sto.opsOf ops))];rintro e wc ⟨rfl,hbc⟩;have cb:Hid (Below w2.heap.size w2 wc):=QA (az.out.trans ((a1.out.trans (hbc.mono a1.out.size)).mono az.out.size));clear hbc;go_wp2_with fail;refine bodyPost_ret (v:=.bool true) (by simp[results,Tryz.results3,go_sem]) rfl ?_;exact⟨rfl,A.out.trans (cb.out.mono A.out.size)⟩
        ·intro x c kl yd yp wn cnt2 D hlk hv hat G hlt2 hg2 aA V;obtain⟨⟨o,pv⟩,L,rfl,aY⟩:=Sto.lent_at hat (has_true_of_atKey hat);obtain rfl:=(Prod.mk.inj (Sto.opR_inv hv)).1;obtain rfl:c=.agg (AG o pv).toArray:=by simpa using aY
         have ax:(o,pv)∈ops:=(Sto.lastL_mem ops [] _ L).resolve_left (by simp);obtain⟨ji,aX⟩:=List.getElem?_of_mem ax;have aB:Below w8.heap.size w8 wn:=aa.out.grown hg2 aa.out.size (λb hb=>by cases hb;exact J.out.size);obtain⟨M,K,-⟩:=(bh.out.mv (F':=Low w) (MV.below aB)).at aX;obtain rfl:=Cs M D;have aF:=Sto.getE_last L;simp only at aF M K;obtain⟨Y,Z,ag,b9⟩:=K.1.form;subst ag;have aT:=QA K;have B:=QA M;have bL:=QA aF;have a8:=QA G;have P:=QA aB;have aQ:Hid (o.2.2.length≤9000):=QA (N.out.2 _ ax);clear aA D hat hv hlk L ax aX aB M K aF U G hg2 aY;go_wp2_with (first|(guard_target=wpList _ _ _ ({ dst:=_,op:=.store 40 _ _,type:=_,pos:=_,after:=_,guard:=none }::_) _ _;refine Bq rfl _ _ rfl _ rfl _ o.1 B.out rfl rfl ?_)|(guard_target=wpList _ _ _ ({ dst:=_,op:=.store 43 _ _,type:=_,pos:=_,after:=_,guard:=none }::_) _ _;refine B7 rfl _ _ rfl _ rfl o (.slice Y o.2.2.length Z) B.out aT.out.1.one _ (by simp) rfl rfl ?_)|fail);obtain⟨X,R⟩:∃x,(wn.alloc (.cells (AH o.1).toArray 40)).alloc (.cells (AG o (.slice Y o.2.2.length Z)).toArray 43)=x:=⟨_,rfl⟩
         have aw:Below wn.heap.size wn X:=by rw[← R];exact ((Below.refl _ _).alloc (QM _) _).alloc (by simp) _
         have a4:X.heap.size=wn.heap.size+2:=by rw[← R];simp
         have a3:X.heap[wn.heap.size]?=some (.cells (AH o.1).toArray 40 (0,0)):=by rw[← R];show ((wn.heap.push _).push _)[_]?=_;simp[Array.getElem?_push]
         have bg:Ad X (wn.heap.size+1) o (.slice Y o.2.2.length Z):=by
          have h1:=Ad.new (wn.alloc (.cells (AH o.1).toArray 40)) o (.slice Y o.2.2.length Z);rw[R]at h1
          rwa [show (wn.alloc (.cells (AH o.1).toArray 40)).heap.size=wn.heap.size+1 by simp]at h1
         rw[R];clear R;have bU:=QA bg;have ca:=QA a4;have a0:=QA aw;have ah:=QA (ak.out.mv (MV.below (P.out.trans (aw.mono P.out.size))));have G:X.rangeAt wn.heap.size 0 (AH o.1):=λi u hi=>by rw[Nat.zero_add];exact AA a3 i u (by simpa using hi)
         obtain⟨⟨kd,val,hs⟩,hx⟩:∃x,Sto.getE (l6.map (·.1)) o.1=x:=⟨_,rfl⟩
         have C:((kd,val,hs):Int×List UInt8×Bool)=if o.2.1=0 then (0,[],false) else (o.2.1,o.2.2,true):=by rw[← hx,aI.out];exact bL.out
         have ay:val.length≤9000:=by
          split at C
          ·simp only[Prod.mk.injEq]at C;rw[C.2.1];exact ZS _
          ·simp only[Prod.mk.injEq]at C;rw[C.2.1];exact aQ.out
         have b0:=QA C;have HX:=QA hx;have bI:=QA ay;clear aw a4 a3 bg hx C ay;refine AM (λw'=>w'.heap[r]?=some (.cells (AF ver6 sv6 mb6 (w2.heap.size+2) false) 51 (0,0))∧w'.rangeAt wn.heap.size 0 (AH o.1)) 13 (by kernel_rfl) ?_;have I:X.drew.heap[r]?=some (.cells (AF ver6 sv6 mb6 (w2.heap.size+2) false) 51 (0,0))∧X.drew.rangeAt wn.heap.size 0 (AH o.1):=⟨ah.out.root,(World.rangeAt_drew _ _ _ _).2 G⟩
         change Af _ _ _ _ _ _ _ _ _ X.drew;refine TK (i:=0) (v:=.pointer (some ⟨r,0,none⟩)) rfl (Or.inl ⟨by rfl,λw hSw=>by go_simp⟩) I ?_;simp only[Act.put,QD,QK,QI,QJ,QC,QH,QG];refine TK (i:=1) (v:=.pointer (some ⟨r,0,none⟩)) rfl (Or.inl ⟨by rfl,λw hSw=>by go_simp⟩) I ?_;simp only[Act.put,QD,QK,QI,QJ,QC,QH,QG];refine TK (i:=2) (v:=.pointer (some ⟨r,2,none⟩)) rfl (Or.inl ⟨by rfl,λw hSw=>by go_simp⟩) I ?_;simp only[Act.put,QD,QK,QI,QJ,QC,QH,QG];refine TK (i:=3) (v:=.map (some mb6)) rfl (Or.inl ⟨by rfl,λw hSw=>by have ct:=rc2 hSw.1;go_simp⟩) I ?_;simp only[Act.put,QD,QK,QI,QJ,QC,QH,QG];refine TK (i:=4) (v:=Ah o.1) rfl (Aw rfl _ rfl wn.heap.size 0 rfl o.1 B.out (λw hSw=>hSw.2)) I ?_;simp only[Act.put,QD,QK,QI,QJ,QC,QH,QG];refine TO (i:=5) ?_;refine AD (by decide) (λK5 HK5=>?_);simp only[List.drop_succ_cons,List.drop_zero,List.take_succ_cons,List.take_zero];go_wp2_with fail;refine (C4 mb6 l6 o.1 X.drew _ (ah.out.ents.below (Below.drew (Below.refl _ _))) B.out (by rw[HX.out];exact QQ bI.out (by decide))).mono ?_;rw[HX.out];rintro e w7 ⟨gv,rfl,hgv,hb7⟩;obtain⟨ga,gc,aV⟩:=hgv.slice;subst aV;have H:Below X.heap.size X w7:=(Below.drew (Below.refl _ X)).trans hb7;have bR:Hid (AZ w7 (.slice ga val.length gc) val):=QA hgv.byts;have ao:=AW G (H.block _ (by have:=ca.out;omega));have E:Hid (Below wn.heap.size wn w7):=QA (a0.out.trans (H.mono a0.out.size));have ap:=QA (bU.out.keep H);have I:w7.heap[r]?=some (.cells (AF ver6 sv6 mb6 (w2.heap.size+2) false) 51 (0,0))∧w7.rangeAt wn.heap.size 0 (AH o.1):=⟨(H.block _ (AC ah.out.root)).trans ah.out.root,ao⟩
         clear hgv hb7 H ao G;go_wp2;refine HK5.out _ _ ⟨λ_=>I,?_⟩;clear HK5;refine TK (i:=6) (v:=.tuple #[.int .i64 kd,.slice ga val.length gc,.bool hs]) rfl (Or.inl ⟨by rfl,λw hSw=>by go_simp⟩) I ?_;simp only[Act.put,QD,QK,QI,QJ,QC,QH,QG];refine TK (i:=7) (v:=.int .i64 kd) rfl (Or.inl ⟨by rfl,λw hSw=>by go_simp⟩) I ?_;simp only[Act.put,QD,QK,QI,QJ,QC,QH,QG];refine TK (i:=8) (v:=.slice ga val.length gc) rfl (Or.inl ⟨by rfl,λw hSw=>by go_simp⟩) I ?_;simp only[Act.put,QD,QK,QI,QJ,QC,QH,QG];refine TK (i:=9) (v:=.bool hs) rfl (Or.inl ⟨by rfl,λw hSw=>by go_simp⟩) I ?_;simp only[Act.put,QD,QK,QI,QJ,QC,QH,QG];refine TK (i:=10) (v:=.int .i64 kd) rfl (Or.inl ⟨by rfl,λw hSw=>by go_simp⟩) I ?_;simp only[Act.put,QD,QK,QI,QJ,QC,QH,QG];refine TK (i:=11) (v:=.slice ga val.length gc) rfl (Or.inl ⟨by rfl,λw hSw=>by go_simp⟩) I ?_;simp only[Act.put,QD,QK,QI,QJ,QC,QH,QG];refine TK (i:=12) (v:=.bool hs) rfl (Or.inl ⟨by rfl,λw hSw=>by go_simp⟩) I ?_;simp only[Act.put,QD,QK,QI,QJ,QC,QH,QG];refine AO (by kernel_rfl) ?_ _;have cy:=Cl bR.out;have ce:=Cl (aT.out.mv (F':=Low w) (MV.below E.out)).1;have cw:=ap.out.cell (Au B.out _);have cs:=ap.out.cell (Ae B.out _);have C:=b0.out;by_cases O:o.2.1=0
         ·rw[if_pos O]at C;simp only[Prod.mk.injEq]at C;obtain⟨rfl,rfl,rfl⟩:=C;have bX:(o.2.1==0)=true:=by simpa using O
          have bE:(o.2.1 != 0)=false:=by simpa using O
          go_wp2_with fail;go_roundg cnt2
          case measure=>exact hlt2
          case rel=>exact⟨_,a8.out.of_walks ⟨E.out.size,λk o hk _=>(E.out.block k (Array.getElem?_eq_some_iff.1 hk).1).trans hk⟩,P.out.trans (E.out.mono P.out.size)⟩
         ·rw[if_neg O]at C;simp only[Prod.mk.injEq]at C;obtain⟨rfl,rfl,rfl⟩:=C;have bX:(o.2.1==0)=false:=by simpa using O
          have bE:(o.2.1 != 0)=true:=by simpa using O
          go_wp2_with fail;go_roundg cnt2
          case measure=>exact hlt2
          case rel=>exact⟨_,a8.out.of_walks ⟨E.out.size,λk o hk _=>(E.out.block k (Array.getElem?_eq_some_iff.1 hk).1).trans hk⟩,P.out.trans (E.out.mono P.out.size)⟩
    ·rw[if_neg hkv]at h3;go_wp2_with fail
     generalize hda:Option.map _ va=da
     have bB:Option.map (λx=>x.add (k*34)) va=da:=hda;rw[bB]at h3;have an:=QA h3;clear h3 hda bB;refine (aj.out.write ac.out.lo ((bo.out.below be.out).mono ad.out.size) _ (ops.drop k) an.out (λb _ hb=>aj.out.low ac.out.lo aG b hb) ch.out (λp L=>QQ (N.out.2 p (List.mem_of_mem_drop L)) (by decide)) (by decide) (QQ aP.out (by decide)) (room_le (m:=1) aP.out (by decide))).mono ?_;rw[Sto.wcode_little aN.out bk];rintro e w8 ⟨rfl,f8,V8,own8,ver8,mb8,sv8,l8,h8,hf8,Q⟩;have V:Sto.ents (Sto.wrote S (Sto.opsOf (ops.drop k)))=Sto.chgs [] (Sto.opsOf ops):=by
      rw[Sto.wrote_little aj.out.disk.x.ne aN.out bk,aH.out,← Sto.chgs_app,← Sto.opsOf_cut]
     obtain⟨T,hT⟩:∃T,Sto.wrote S (Sto.opsOf (ops.drop k))=T:=⟨_,rfl⟩
     rw[hT]at h8 V;have b5:=QA h8;have ba:=QA V;have az:Hid (Below w2.heap.size w2 w8):=QA (be.out.trans (Q.mono ad.out.size));have ak:=QA (aJ.out.mv ⟨hf8.size,λb hb hq=>⟨hq,hq.elim (λe=>Q.block b e) λe=>hf8.block b hb ((bn.out.tags b e.2).trans (W.out b e.1).1) (W.out b e.1).2⟩⟩);have bh:Hid (Al w8 (Low w) (.slice va ops.length vc) ops):=QA (HV.out.mv (MV.below (A.out.trans (az.out.mono A.out.size))));clear h8 hf8 Q V hT bO bs aZ bG bD b3 bb an cg cl aE cd ac aj bn a9 aJ ae a5 bA b6 W av bK bJ aP aN aH aM aU;have cu:=@run_makeMap Tryz.prog;go_wp2_with fail;have aR:=World.ownsMap_made w8 Tryz.prog 40 Sto.opR;have Q:Below w8.heap.size w8 (w8.alloc (.map #[] 0)):=(Below.refl _ _).alloc (QM _) _
     go_loopg [89] ops.length (λdn s89 wr=>∃j:Nat,j≤ops.length∧dn=ops.length-j∧s89=.int .i64 (j:Nat)∧wr.ownsMap Tryz.prog 40 Sto.opR w8.heap.size (Sto.lastL (ops.take j)).length (Sto.ldatum (Sto.lastL (ops.take j)))∧Below w8.heap.size w8 wr)
     case atStart=>exact⟨0,ZS _,rfl,rfl,aR,Q⟩
     case round =>
      obtain⟨j,hj,bf,rfl,al,ab⟩:=hrel;have HK:=QA bf;have af:=QA al;have J:=QA ab;clear bf al ab aR Q;have cz:(0:Int)≤(j:Int):=Int.natCast_nonneg _;by_cases hjn:j<ops.length
      ·have bc:(j:Int)<(ops.length:Int):=by omega
       obtain⟨⟨o,pv⟩,L⟩:∃p,ops[j]?=some p:=⟨_,ZG hjn⟩
       obtain⟨D,K,g,b8,rfl,hg,U⟩:=(bh.out.mv (F':=Low w) (MV.below J.out)).at L;have ai:=K.1;obtain⟨Y,Z,ag,b9⟩:=ai.form;simp only at ag D ai U;subst ag;have bd:=Ad.new wr o (.slice Y o.2.2.length Z);have a2:=QA bd;have bF:=QA ai;have B:=QA D;have HW:Hid (Below wr.heap.size wr (wr.alloc (.cells (AG o (.slice Y o.2.2.length Z)).toArray 43))):=QA ((Below.refl _ _).alloc (QM _) _);have b4:=QA (ownsMap_at af.out (HW.out.block _ af.out.lt));have aC:=B9 D;have a7:=Sto.opR_mk D (.slice Y o.2.2.length Z);have bi:=Sto.lastL_len (ops.take j) [];have cE:(Sto.lastL (ops.take j)).length≤1000:=by rw[QR,ZH]at bi;unfold Sto.lastL;omega
       have bZ:=QA (Sto.lastL_take L);clear bd ai D L K bi;go_wp2_with (first|(guard_target=wpList _ _ _ ({ dst:=_,op:=.load 43 _,type:=_,pos:=_,after:=_,guard:=none }::_) _ _;first|(refine AJ rfl _ rfl g (b8+j*34) o (.slice Y o.2.2.length Z) B.out rfl U ?_)|(refine AJ rfl _ rfl wr.heap.size 0 o (.slice Y o.2.2.length Z) B.out rfl a2.out.range ?_))|(guard_target=wpList _ _ _ ({ dst:=_,op:=.store 43 _ _,type:=_,pos:=_,after:=_,guard:=none }::_) _ _;refine AL rfl _ _ rfl _ rfl o (.slice Y o.2.2.length Z) B.out bF.out.one rfl rfl ?_)|(guard_target=wpList _ _ _ ({ dst:=_,op:=.load 40 _,type:=_,pos:=_,after:=_,guard:=none }::_) _ _;refine Ab rfl _ rfl wr.heap.size 0 o.1 B.out rfl a2.out.key ?_)|(at_mapUpdate;refine wpList_mapUpdate_own _ rfl _ _ _ 38 rfl 40 43 Av Tryz.underlying38 Sto.opR w8.heap.size (Sto.lastL (ops.take j)).length _ rfl b4.out (by unfold maxLen;omega) _ _ _ rfl rfl aC _ [] a7 ?_;intro w4 hown4 hgrow4)|fail);go_roundg (ops.length-(j+1))
       case measure=>rw[HK.out];omega
       case rel =>
        refine⟨j+1,by omega,rfl,by simp,?_,(J.out.trans (HW.out.mono J.out.size)).grown hgrow4 (by have:=J.out.size;simp;omega) (λb hb=>by cases hb;exact QM _)⟩;rw[bZ.out];refine LK.of (n:=(Sto.lastL (ops.take j)).length+1) ?_;unfold Sto.last1;rw[← Sto.ldatum_put];exact hown4
      ·have bc:(ops.length:Int)≤(j:Int):=by omega
       obtain⟨wl,rfl⟩:∃x,x=wr:=⟨wr,rfl⟩
       have bV:Hid (wl.ownsMap Tryz.prog 40 Sto.opR w8.heap.size (Sto.lastL ops).length (Sto.ldatum (Sto.lastL ops))):=QA (by have h1:=af.out;rwa [List.take_of_length_le (by omega)]at h1);clear af;go_wp2_with (first|(at_range;refine wpList_range_own _ rfl _ 38 rfl 40 43 Av Tryz.underlying38 _ w8.heap.size _ _ rfl bV.out ?_;intro w0 hrg0 hg0 hs0)|fail)
       go_frame
       go_loopg [13] (Maps.size (Sto.ldatum (Sto.lastL ops))) (λdn s13 wq=>∃left:Lit→Bool,wq.ranges Tryz.prog 40 Sto.opR w8.heap.size wl.heap.size (Sto.lastL ops).length (Sto.ldatum (Sto.lastL ops)) left dn∧Below w8.heap.size w8 wq)
       case atStart =>
        exact⟨_,hrg0,J.out.grown hg0 J.out.size (λb hb=>by cases hb)⟩
       case round =>
        obtain⟨left,U,ab⟩:=hrel;have aa:=QA ab;clear ab hs0 hg0 hrg0;go_wp2_with (first|(at_next;refine wpList_next_ranges _ rfl _ rfl 40 Av Sto.opR (λv=>v) (λv=>v) (λkey kl hk=>⟨key,rfl⟩) (λv y hv=>⟨v,rfl⟩) w8.heap.size wl.heap.size _ _ _ _ rfl U ?_ ?_)|fail)
        ·intro _ hl0;clear U hl0;have aS:=QA (ak.out.mv (MV.below aa.out));go_wp2_with fail;refine (CF r (w2.heap.size+2) mb6 ver6 sv6 false l6 wr _ aS.out.root aS.out.ents bC.out bw.out).mono ?_;rintro e wa ⟨ev,rfl,heo,hba⟩;rw[aI.out]at heo;obtain⟨ea,ec,cc⟩:=heo.form;subst cc;have aW:=QA (heo.rosF (F:=λ_=>True) (λ_ _=>trivial));have aD:Hid (Below w8.heap.size w8 wa):=QA (aa.out.trans (hba.mono aa.out.size));clear heo hba;go_wp2_with fail;refine (b5.out.below aD.out).entries.mono ?_;rintro e wb ⟨fv,rfl,hfo,hbb⟩;rw[ba.out]at hfo;obtain⟨fa,fc,bY⟩:=hfo.form;subst bY;have bN:=QA (hfo.rosF (F:=λ_=>True) (λ_ _=>trivial));have bP:=QA (aW.out.mv (F':=λ_=>True) (MV.below hbb));have a1:Hid (Below w8.heap.size w8 wb):=QA (aD.out.trans (hbb.mono aD.out.size));have a6:Hid ((Sto.chgs [] (Sto.opsOf ops)).length≤1000000000):=QA (by have h1:=Sto.chgs_len (Sto.opsOf ops) [];have h3:=bM.out;have h4:=N.out.1;rw[QR]at h1;omega);clear hfo hbb aW;go_wp2_with fail;refine (E5 _ _ _ _ wb _ _ bP.out bN.out a6.out a6.out).mono ?_;rw[decide_eq_true (rfl:Sto.chgs [] (Sto.opsOf ops)=Sto.chgs [] (Sto.opsOf ops))];rintro e wc ⟨rfl,hbc⟩;have cb:Hid (Below w2.heap.size w2 wc):=QA (az.out.trans ((a1.out.trans (hbc.mono a1.out.size)).mono az.out.size));clear hbc;go_wp2_with fail;refine bodyPost_ret (v:=.bool true) (by simp[results,Tryz.results3,go_sem]) rfl ?_;exact⟨rfl,A.out.trans (cb.out.mono A.out.size)⟩
        ·intro x c kl yd yp wn cnt2 D hlk hv hat G hlt2 hg2 aA V;obtain⟨⟨o,pv⟩,L,rfl,aY⟩:=Sto.lent_at hat (has_true_of_atKey hat);obtain rfl:=(Prod.mk.inj (Sto.opR_inv hv)).1;obtain rfl:c=.agg (AG o pv).toArray:=by simpa using aY
         have ax:(o,pv)∈ops:=(Sto.lastL_mem ops [] _ L).resolve_left (by simp);obtain⟨ji,aX⟩:=List.getElem?_of_mem ax;have aB:Below w8.heap.size w8 wn:=aa.out.grown hg2 aa.out.size (λb hb=>by cases hb;exact J.out.size);obtain⟨M,K,-⟩:=(bh.out.mv (F':=Low w) (MV.below aB)).at aX;obtain rfl:=Cs M D;have aF:=Sto.getE_last L;simp only at aF M K;obtain⟨Y,Z,ag,b9⟩:=K.1.form;subst ag;have aT:=QA K;have B:=QA M;have bL:=QA aF;have a8:=QA G;have P:=QA aB;have aQ:Hid (o.2.2.length≤9000):=QA (N.out.2 _ ax);clear aA D hat hv hlk L ax aX aB M K aF U G hg2 aY;go_wp2_with (first|(guard_target=wpList _ _ _ ({ dst:=_,op:=.store 40 _ _,type:=_,pos:=_,after:=_,guard:=none }::_) _ _;refine Bq rfl _ _ rfl _ rfl _ o.1 B.out rfl rfl ?_)|(guard_target=wpList _ _ _ ({ dst:=_,op:=.store 43 _ _,type:=_,pos:=_,after:=_,guard:=none }::_) _ _;refine B7 rfl _ _ rfl _ rfl o (.slice Y o.2.2.length Z) B.out aT.out.1.one _ (by simp) rfl rfl ?_)|fail);obtain⟨X,R⟩:∃x,(wn.alloc (.cells (AH o.1).toArray 40)).alloc (.cells (AG o (.slice Y o.2.2.length Z)).toArray 43)=x:=⟨_,rfl⟩
         have aw:Below wn.heap.size wn X:=by rw[← R];exact ((Below.refl _ _).alloc (QM _) _).alloc (by simp) _
         have a4:X.heap.size=wn.heap.size+2:=by rw[← R];simp
         have a3:X.heap[wn.heap.size]?=some (.cells (AH o.1).toArray 40 (0,0)):=by rw[← R];show ((wn.heap.push _).push _)[_]?=_;simp[Array.getElem?_push]
         have bg:Ad X (wn.heap.size+1) o (.slice Y o.2.2.length Z):=by
          have h1:=Ad.new (wn.alloc (.cells (AH o.1).toArray 40)) o (.slice Y o.2.2.length Z);rw[R]at h1
          rwa [show (wn.alloc (.cells (AH o.1).toArray 40)).heap.size=wn.heap.size+1 by simp]at h1
         rw[R];clear R;have bU:=QA bg;have ca:=QA a4;have a0:=QA aw;have ah:=QA (ak.out.mv (MV.below (P.out.trans (aw.mono P.out.size))));have G:X.rangeAt wn.heap.size 0 (AH o.1):=λi u hi=>by rw[Nat.zero_add];exact AA a3 i u (by simpa using hi)
         obtain⟨⟨kd,val,hs⟩,hx⟩:∃x,Sto.getE (l6.map (·.1)) o.1=x:=⟨_,rfl⟩
         have C:((kd,val,hs):Int×List UInt8×Bool)=if o.2.1=0 then (0,[],false) else (o.2.1,o.2.2,true):=by rw[← hx,aI.out];exact bL.out
         have ay:val.length≤9000:=by
          split at C
          ·simp only[Prod.mk.injEq]at C;rw[C.2.1];exact ZS _
          ·simp only[Prod.mk.injEq]at C;rw[C.2.1];exact aQ.out
         have b0:=QA C;have HX:=QA hx;have bI:=QA ay;clear aw a4 a3 bg hx C ay;refine AM (λw'=>w'.heap[r]?=some (.cells (AF ver6 sv6 mb6 (w2.heap.size+2) false) 51 (0,0))∧w'.rangeAt wn.heap.size 0 (AH o.1)) 13 (by kernel_rfl) ?_;have I:X.drew.heap[r]?=some (.cells (AF ver6 sv6 mb6 (w2.heap.size+2) false) 51 (0,0))∧X.drew.rangeAt wn.heap.size 0 (AH o.1):=⟨ah.out.root,(World.rangeAt_drew _ _ _ _).2 G⟩
         change Af _ _ _ _ _ _ _ _ _ X.drew;refine TK (i:=0) (v:=.pointer (some ⟨r,0,none⟩)) rfl (Or.inl ⟨by rfl,λw hSw=>by go_simp⟩) I ?_;simp only[Act.put,QD,QK,QI,QJ,QC,QH,QG];refine TK (i:=1) (v:=.pointer (some ⟨r,0,none⟩)) rfl (Or.inl ⟨by rfl,λw hSw=>by go_simp⟩) I ?_;simp only[Act.put,QD,QK,QI,QJ,QC,QH,QG];refine TK (i:=2) (v:=.pointer (some ⟨r,2,none⟩)) rfl (Or.inl ⟨by rfl,λw hSw=>by go_simp⟩) I ?_;simp only[Act.put,QD,QK,QI,QJ,QC,QH,QG];refine TK (i:=3) (v:=.map (some mb6)) rfl (Or.inl ⟨by rfl,λw hSw=>by have ct:=rc2 hSw.1;go_simp⟩) I ?_;simp only[Act.put,QD,QK,QI,QJ,QC,QH,QG];refine TK (i:=4) (v:=Ah o.1) rfl (Aw rfl _ rfl wn.heap.size 0 rfl o.1 B.out (λw hSw=>hSw.2)) I ?_;simp only[Act.put,QD,QK,QI,QJ,QC,QH,QG];refine TO (i:=5) ?_;refine AD (by decide) (λK5 HK5=>?_);simp only[List.drop_succ_cons,List.drop_zero,List.take_succ_cons,List.take_zero];go_wp2_with fail;refine (C4 mb6 l6 o.1 X.drew _ (ah.out.ents.below (Below.drew (Below.refl _ _))) B.out (by rw[HX.out];exact QQ bI.out (by decide))).mono ?_;rw[HX.out];rintro e w7 ⟨gv,rfl,hgv,hb7⟩;obtain⟨ga,gc,aV⟩:=hgv.slice;subst aV;have H:Below X.heap.size X w7:=(Below.drew (Below.refl _ X)).trans hb7;have bR:Hid (AZ w7 (.slice ga val.length gc) val):=QA hgv.byts;have ao:=AW G (H.block _ (by have:=ca.out;omega));have E:Hid (Below wn.heap.size wn w7):=QA (a0.out.trans (H.mono a0.out.size));have ap:=QA (bU.out.keep H);have I:w7.heap[r]?=some (.cells (AF ver6 sv6 mb6 (w2.heap.size+2) false) 51 (0,0))∧w7.rangeAt wn.heap.size 0 (AH o.1):=⟨(H.block _ (AC ah.out.root)).trans ah.out.root,ao⟩
         clear hgv hb7 H ao G;go_wp2;refine HK5.out _ _ ⟨λ_=>I,?_⟩;clear HK5;refine TK (i:=6) (v:=.tuple #[.int .i64 kd,.slice ga val.length gc,.bool hs]) rfl (Or.inl ⟨by rfl,λw hSw=>by go_simp⟩) I ?_;simp only[Act.put,QD,QK,QI,QJ,QC,QH,QG];refine TK (i:=7) (v:=.int .i64 kd) rfl (Or.inl ⟨by rfl,λw hSw=>by go_simp⟩) I ?_;simp only[Act.put,QD,QK,QI,QJ,QC,QH,QG];refine TK (i:=8) (v:=.slice ga val.length gc) rfl (Or.inl ⟨by rfl,λw hSw=>by go_simp⟩) I ?_;simp only[Act.put,QD,QK,QI,QJ,QC,QH,QG];refine TK (i:=9) (v:=.bool hs) rfl (Or.inl ⟨by rfl,λw hSw=>by go_simp⟩) I ?_;simp only[Act.put,QD,QK,QI,QJ,QC,QH,QG];refine TK (i:=10) (v:=.int .i64 kd) rfl (Or.inl ⟨by rfl,λw hSw=>by go_simp⟩) I ?_;simp only[Act.put,QD,QK,QI,QJ,QC,QH,QG];refine TK (i:=11) (v:=.slice ga val.length gc) rfl (Or.inl ⟨by rfl,λw hSw=>by go_simp⟩) I ?_;simp only[Act.put,QD,QK,QI,QJ,QC,QH,QG];refine TK (i:=12) (v:=.bool hs) rfl (Or.inl ⟨by rfl,λw hSw=>by go_simp⟩) I ?_;simp only[Act.put,QD,QK,QI,QJ,QC,QH,QG];refine AO (by kernel_rfl) ?_ _;have cy:=Cl bR.out;have ce:=Cl (aT.out.mv (F':=Low w) (MV.below E.out)).1;have cw:=ap.out.cell (Au B.out _);have cs:=ap.out.cell (Ae B.out _);have C:=b0.out;by_cases O:o.2.1=0
         ·rw[if_pos O]at C;simp only[Prod.mk.injEq]at C;obtain⟨rfl,rfl,rfl⟩:=C;have bX:(o.2.1==0)=true:=by simpa using O
          have bE:(o.2.1 != 0)=false:=by simpa using O
          go_wp2_with fail;go_roundg cnt2
          case measure=>exact hlt2
          case rel=>exact⟨_,a8.out.of_walks ⟨E.out.size,λk o hk _=>(E.out.block k (Array.getElem?_eq_some_iff.1 hk).1).trans hk⟩,P.out.trans (E.out.mono P.out.size)⟩
         ·rw[if_neg O]at C;simp only[Prod.mk.injEq]at C;obtain⟨rfl,rfl,rfl⟩:=C;have bX:(o.2.1==0)=false:=by simpa using O
          have bE:(o.2.1 != 0)=true:=by simpa using O
          go_wp2_with fail;go_roundg cnt2
          case measure=>exact hlt2
          case rel=>exact⟨_,a8.out.of_walks ⟨E.out.size,λk o hk _=>(E.out.block k (Array.getElem?_eq_some_iff.1 hk).1).trans hk⟩,P.out.trans (E.out.mono P.out.size)⟩
   ·have bW:(c==0)=false:=beq_eq_false_iff_ne.2 hc0;clear br;go_wp2_with fail;refine bodyPost_ret (v:=.bool true) (by simp[results,Tryz.results3,go_sem]) rfl ?_;exact⟨rfl,A.out.trans (bS.out.mono A.out.size)⟩
end Go.Proofs.YtjldahcckmmenaaGreatDoor
