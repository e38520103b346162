/-
  The store: the values of its map, one by one; Live, walked. The store: the keys of its map, one by one; collected. Keys compared: bytes.Compare, digest.Less, the store's closure. The store's keys: slices.SortFunc at keys (the kit's contract, laid by name), Keys, walked. The store: Keys, walked.
-/
import Derived.Test.YtjldahcckmmenaaGreatDoorZd13
import Derived.RangeFuncNested
import Derived.RangeFuncBound
import Derived.RangeFuncCalls
import Derived.RangeFuncLeaves
import Derived.Shelf.Abstract
import Derived.Shelf.RegionOpen
import Derived.WalkKit
import Derived.OwnWalkIn
import Derived.TacticsInMore
import Derived.RegionIn
import Derived.LoopNIn
import Derived.LoopIn
import Derived.Sort.MapsRangeIn
import Derived.Sort.KeysCollected
import Derived.Maps.AppendAt
import Derived.Great.BuildSlice
import Derived.Lib.Bytealg
import Derived.Lib.BytesEntry
import Derived.Shelf.SlSortCmp.WholeK
import Derived.Shelf.SlSortCmp.NoneTotal
open Go.Lib renaming hid → QA
open List renaming length_cons → QO, length_nil → QR, getElem?_map → ZF, getElem?_eq_getElem → ZG, nil_append → ZN, cons_append → ZO
open Nat renaming le_refl → QM, reduceAdd → QW
namespace Go.Proofs.YtjldahcckmmenaaGreatDoor
set_option maxRecDepth 100000
set_option maxHeartbeats 4000000
set_option linter.unusedSimpArgs false
set_option linter.unusedVariables false
open Go Go.RowKit
open Go.Maps Go.WideMaps Go.Sort Go.Shelf
attribute [local go_sem] Oper.semAt_some
abbrev El:=Int×Option Addr×Nat×Nat
def elV (x:El):Value:=.agg #[.int .i64 x.1,.slice x.2.1 x.2.2.1 x.2.2.2]
theorem Hd {v:Value} {y:DataW Value×List MemPlace} (h:Sto.elemR v=some y):∃n a m c,v=.agg #[.int .i64 n,.slice a m c]∧y=(.held v,[]):=by
 refine (λh2=>?_) (Sto.elemR_inv h);unfold Sto.elemR at h;split at h
 ·rename_i cs;split at h
  ·rename_i n a m c hc;refine⟨n,a,m,c,?_,h2⟩
   congr 1
   exact Array.toList_inj.1 (by rw[hc])
  ·cases h
 ·cases h
theorem FB {l:Sto.ME} {kl:Lit} (h:Maps.has (Sto.datum l) kl=true):∃p∈l,kl=.string p.1.1:=by
 unfold Sto.datum at h;rw[Maps.has_eq,List.any_map,List.any_eq_true]at h;obtain⟨p,o,e⟩:=h;refine⟨p,o,?_⟩;cases kl<;>simp[Sto.ent,Lit.sameKey]at e
 rw[e]
def HZ (D0:DataW Value) (p:List UInt8×El):Prop:=∀zd,D0.atKey (.string p.1) zd=.held (elV p.2)
def J7 (D0:DataW Value) (ps:List (List UInt8×El)):Prop:=(ps.map (·.1)).Nodup∧(∀x,x∈ps.map (·.1)↔Maps.has D0 (.string x)=true)∧∀p∈ps,HZ D0 p
theorem Jh (F:Fence) (n:Nat) (h8:F.fn 66) (hro:F.round=none) (hn:1≤n) (l Bm b nn:Nat) (ml:Sto.ME) (J Jx:List El→World→Prop)
  (hY:∀pre x W,J pre W→pre.length<Maps.size (Sto.datum ml)→YieldAt F (n-1) Tryz.prog l #[elV x] W λe W' =>
   (e=.returned (.bool true)∧J (pre++[x]) W'∧KeepsWalks W W')∨(e=.returned (.bool false)∧Jx (pre++[x]) W'))
  (W:World) (hJ:AbidesFrom W.heap.size J) (hm:W.cell? ⟨Bm,0,none⟩=some (.map (some b))) (hown:W.ownsMap Tryz.prog 40 Sto.elemR b nn (Sto.datum ml)) (h0:J [] W) :
  CallsIn F n Tryz.prog 66 #[.func (.yield l) #[] #[],.pointer (some ⟨Bm,0,none⟩)] W λe W'=>(∃v,e=.returned v) ∧
   ((∃xs,(∃ps,J7 (Sto.datum ml) ps∧xs=ps.map (·.2))∧J xs W')∨(∃pre,True∧Jx pre W')):=by
 refine callsIn_of_wp Tryz.func66 rfl h8 ?_ hro;simp only[Tryz.ntmps66,List.size_toArray,QO,QR,QW,Nat.reduceSub,Array.replicate_succ,Array.replicate_zero,List.push_toArray,List.append_toArray,ZN,ZO]
 gi_wp2_with (first
  | (gi_at_range;refine wpListIn_range_own _ rfl _ 49 rfl 40 85 Av Tryz.underlying49 _ b nn _ rfl hown ?_;intro w0 hrg0 hg0 hs0)
  | gi_in)
 go_frame
 gi_loopw [4] (λ_ wr=>∃(left:Lit→Bool) (C:Nat) (ps:List (List UInt8×El)),wr.ranges Tryz.prog 40 Sto.elemR b W.heap.size nn (Sto.datum ml) left C∧ps.length+C≤Maps.size (Sto.datum ml)∧Collected (Sto.datum ml) left (ps.map (·.1))∧(∀p∈ps,HZ (Sto.datum ml) p)∧J (ps.map (·.2)) wr)
  (λ_ wr=>wr.rangeLeft b W.heap.size)
 case atStart =>
  exact⟨_,_,[],hrg0,by simp,Collected.start _,by simp,hJ [] W w0 none h0 hg0 (λr e=>by cases e)⟩
 case round =>
  obtain⟨left,C,ps,A,T,L,Q,I⟩:=hrel
  gi_wp2_with (first
   | (gi_at_next;refine wpListIn_next_ranges _ rfl _ rfl 40 Av Sto.elemR (λv=>v) (λv=>v) (λkey kl hk=>⟨key,rfl⟩) (λv y hv=>⟨v,rfl⟩) b W.heap.size nn _ _ _ rfl A ?_ ?_)
   | gi_in)
  ·intro hc0 hl0
   gi_wp2
   go_end0;exact⟨⟨_,rfl⟩,.inl ⟨_,⟨ps,⟨L.1,λx=>by rw[L.2 x,hl0];simp,Q⟩,rfl⟩,I⟩⟩
  ·intro x c kl yd yp w2 cnt2 hkey hlk hv hat hrg2 hlt hg2 hs2 hen;obtain⟨p,Y,rfl⟩:=FB (has_true_of_atKey hat);obtain⟨B,E,G,D,rfl,U⟩:=Hd hv;obtain rfl:yd=.held (.agg #[.int .i64 B,.slice E G D]):=(Prod.mk.inj U).1;have P:J (ps.map (·.2)) w2:=hJ _ wr w2 (some W.heap.size) I hg2 (λr e=>by cases e;exact⟨QM _,A.iter_walk⟩);have O:J (ps.map (·.2)) (w2.alloc (.cells #[.int .i64 B,.slice E G D] 85)):=hJ _ w2 _ none P (World.grownBy_alloc _ _ _) (λr e=>by cases e);have H:=hrg2.of_walks (KeepsWalks.alloc w2 (.cells #[.int .i64 B,.slice E G D] 85));obtain⟨fn,S,K,R,V,X⟩:=hY (ps.map (·.2)) (B,E,G,D) _ O (by simp;omega)
   dsimp only[elV]at V
   clear hs2
   gi_wp2
   refine X.mono ?_;have N:Collected (Sto.datum ml) (λz=>left z&&!z.sameKey (.string p.1.1)) ((ps++[(p.1.1,((B,E,G,D):El))]).map (·.1)):=by simpa using L.step hlk hat
   have M:∀q∈ps++[(p.1.1,((B,E,G,D):El))],HZ (Sto.datum ml) q:=λq hq=>(List.mem_append.1 hq).elim (Q q) (λe=>by simp at e;subst e;exact hat)
   rintro e W3 (⟨rfl,hJ4,hk3⟩|⟨rfl,hJx3⟩)
   ·gi_wp2
    have o:=H.of_walks hk3;go_roundw
    case rel=>exact⟨_,cnt2,ps++[(p.1.1,(B,E,G,D))],o,by simp;omega,N,M,by simpa using hJ4⟩
    case measure=>rw[o.left_eq,A.left_eq];exact hlt
   ·gi_wp2
    refine bodyPost_ret (results_none rfl _ _ _) rfl ?_;exact⟨⟨_,rfl⟩,.inr ⟨_,trivial,hJx3⟩⟩
theorem values_in (F:Fence) (n:Nat) (hf:F.fn 41) (hro:F.round=none) (mb:Option Nat) (w:World) :
  CallsIn F n Tryz.prog 41 #[.map mb] w λe w'=>e=.returned (.func (.func 66) #[] #[.pointer (some ⟨w.heap.size,0,none⟩)])∧w'=w.alloc (.cells #[.map mb] 49):=by
 refine callsIn_of_wp Tryz.func41 rfl hf ?_ hro;simp only[Tryz.ntmps41,List.size_toArray,QO,QR,QW,Nat.reduceSub,Array.replicate_succ,Array.replicate_zero,List.push_toArray,List.append_toArray,ZN,ZO]
 gi_wp2
 go_ret;exact⟨rfl,rfl⟩
theorem Gx (F:Fence) (n:Nat) (h7:F.fn 66) (hro:F.round=none) (hn:1≤n) (Bm b nn:Nat) (ml:Sto.ME) (w:World) (hBm:Bm<w.heap.size)
  (hm:w.cell? ⟨Bm,0,none⟩=some (.map (some b))) (hown:w.ownsMap Tryz.prog 40 Sto.elemR b nn (Sto.datum ml)) :
  SeqStopsK F n Tryz.prog 66 #[.pointer (some ⟨Bm,0,none⟩)] (λx:El=>#[elV x]) KeepsWalks (λxs=>∃ps,J7 (Sto.datum ml) ps∧xs=ps.map (·.2)) (λ_=>True) (Maps.size (Sto.datum ml)) w:=λl J Jx W hW hJ _ hY h0 =>
 Jh F n h7 hro hn l Bm b nn ml J Jx hY W hJ ((hW.cell (p:=⟨Bm,0,none⟩) hBm).trans hm) (ownsMap_at hown (hW.block b hown.lt)) h0
def Eh (xs:List El):Nat:=(xs.map λx=>44+x.2.2.1).sum
theorem Ik (xs:List El) (x:El):Eh (xs++[x])=Eh xs+(44+x.2.2.1):=by unfold Eh;simp
theorem Jp (a b:Int):wrap64 (wrap64 a+wrap64 b)=wrap64 (a+b):=by unfold wrap64;omega
theorem Jz (F:Fence) (n:Nat) (h3:F.fn 17) (h4:F.fn 41) (h5:F.fn 66) (hro:F.round=none) (hn:3≤n) (mb nn:Nat) (ml:Sto.ME) (w:World)
  (hown:w.ownsMap Tryz.prog 40 Sto.elemR mb nn (Sto.datum ml)) :
  CallsIn F n Tryz.prog 17 #[.map (some mb)] w λe W'=>(∃ps,J7 (Sto.datum ml) ps∧e=.returned (.int .i64 (wrap64 (Eh (ps.map (·.2)):Nat))))∧Below w.heap.size w W':=by
 have M:1≤n:=by omega
 refine callsIn_of_wp_marks Tryz.func17 rfl h3 ?_ hro;simp only[Tryz.ntmps17,List.size_toArray,QO,QR,QW,Nat.reduceSub,Array.replicate_succ,Array.replicate_zero,List.push_toArray,List.append_toArray,ZN,ZO]
 gi_wp2_with (gi_at_call 41;refine (values_in F (n-1) h4 hro _ _).mono ?_;rintro e w' ⟨rfl,rfl⟩)
 have I:=(Boxed.new w 3 (.int .i64 0)).alloc (.cells #[.map (some mb)] 49);have H:=Boxed.new (w.alloc (.cells #[.int .i64 0] 3)) 49 (.map (some mb));have C:Below w.heap.size w ((w.alloc (.cells #[.int .i64 0] 3)).alloc (.cells #[.map (some mb)] 49)):=((Below.refl _ w).alloc (QM _) _).alloc (by simp) _;obtain⟨E,B⟩:∃E,(w.alloc (.cells #[.int .i64 0] 3)).alloc (.cells #[.map (some mb)] 49)=E:=⟨_,rfl⟩
 have Q:E.heap.size=w.heap.size+2:=by rw[← B];simp
 rw[World.size_alloc]at H;rw[B]at I H C ⊢;clear B;refine wpIn_rangeFunc_ownH hro M (gf:=66) (lb:=#[.pointer (some ⟨w.heap.size+1,0,none⟩)]) rfl h5 (enters_of Tryz.func66 (by kernel_rfl) rfl)
  (Gx F (n-1) h5 hro (by omega) (w.heap.size+1) mb nn ml E (by omega) H.cell (ownsMap_at hown (C.block mb hown.lt))) walksK_t walksK_b (Below.refl _ _) (λ_=>rfl)
  (λpre W=>Boxed W w.heap.size 3 (.int .i64 (wrap64 (Eh pre:Nat)))∧Below w.heap.size E W)
  (λ_ _ _=>False)
  (OwnFrom.and (Own.from (boxed_own _ _ _) _) (ownFrom_below (by omega) (by omega)))
  (λ_ _ _ _ _ hs _ _=>hs)
  ⟨(by
   have P:wrap64 ((Eh ([]:List El):Nat):Int)=0:=(by show wrap64 0=0;unfold wrap64;omega)
   rw[P];exact I),Below.refl _ _⟩
  (λx a' W=>∃A,w.heap.size+1<A∧W.heap[A]?=some (.cells #[.int .i64 x.1,.slice x.2.1 x.2.2.1 x.2.2.2] 85 (0,0))∧a'={ tmps:=#[.map (some mb),undef,.int .i64 0,.pointer (some ⟨w.heap.size,0,none⟩),.pointer (some ⟨A,0,none⟩),.map (some mb),.func (.func 66) #[] #[.pointer (some ⟨w.heap.size+1,0,none⟩)],elV x,undef,undef,undef,undef,undef,undef,undef],defers:=[] })
  (λx a' _ X Y row hs hg hr=>by obtain⟨A,N,G,L⟩:=hs;exact⟨A,N,(hg.block A (AC G) (λe=>by obtain⟨_,o,J,S⟩:=hr A e.symm;rw[G]at J;cases J;cases S)).trans G,L⟩)
  ?assign ?body ?done ?stop
 case assign =>
  rintro l pre ⟨x1,x2,x3,x4⟩ W K ⟨bS,hB1⟩ hK
  dsimp only[elV]at hK ⊢
  gi_wp2
  have O:=hB1.size;exact hK _ _ ((KeepsOthers.alloc _ _).from _) (KeepsWalks.alloc _ _) ⟨bS.alloc _,hB1.alloc (by omega) _⟩ ⟨W.heap.size,by have:=hB1.size;omega,AK W _,rfl⟩
 case body =>
  rintro l pre ⟨x1,x2,x3,x4⟩ a' W hl ⟨r,hr⟩ ⟨bS,hB1⟩ ⟨A,hBx,bX,rfl⟩ hlt;have T:=bS.cell;have U:=bS.frozen;have R:=AA bX 1 _ rfl
  dsimp only at R
  dsimp only[elV]
  gi_wp2
  refine⟨(KeepsOthers.setCell _ _ _).from _,KeepsWalks.setCell _ _ _,⟨?_,hB1.setCell (p:=⟨w.heap.size,0,none⟩) (QM _) _⟩⟩;rw[Ik];have e:wrap64 (wrap64 ((Eh pre:Nat):Int)+wrap64 (44+(x3:Int)))=wrap64 ((Eh pre+(44+x3):Nat):Int):=by
   rw[Jp]
   congr 1
  rw[e];exact bS.set _
 case done =>
  rintro D ys W hD ⟨ps,hps,rfl⟩ ⟨bS,hB1⟩ hK;have T:=bS.cell
  gi_wp2
  refine⟨by simp,.inl ⟨_,_,rfl,run_takeDeferred hK,?_⟩⟩;exact⟨_,results_tmp rfl _ _ _,⟨ps,hps,rfl⟩,C.trans (hB1.trans (belowK_b (w:=w) (QM _) W D _ _ (by omega) hK rfl rfl))⟩
 case stop =>
  rintro D c pre W _ _ h _;exact h.elim
theorem FG {α β:Type} {f:α→β}:∀{l:List α},(l.map f).Nodup→∀{a b:α},a∈l→b∈l→f a=f b→a=b
 | [],_,_,_,h,_,_=>by cases h
 | x::r,hn,a,b,ha,hb,e=>by
  rw[List.map_cons,List.nodup_cons]at hn;rcases List.mem_cons.1 ha with h1|h1<;>rcases List.mem_cons.1 hb with h2|h2
  ·rw[h1,h2]
  ·exact absurd (List.mem_map.2 ⟨b,h2,by rw[← e,h1]⟩) hn.1
  ·exact absurd (List.mem_map.2 ⟨a,h1,by rw[e,h2]⟩) hn.1
  ·exact FG hn.2 h1 h2 e
theorem JK {α:Type} {f:α→Nat} {a b:List α} (h:a.Perm b):(a.map f).sum=(b.map f).sum:=by
 induction h with
 | nil=>rfl
 | cons x _ ih=>simp[ih]
 | swap x y l=>simp;omega
 | trans _ _ i1 i2=>exact i1.trans i2
theorem J1 {l:Sto.ME} {ps:List (List UInt8×El)} (h:J7 (Sto.datum l) ps) (hk:(l.map λp=>p.1.1).Nodup) (hv:∀p∈l,∃a c,p.2=.slice a p.1.2.2.length c):Eh (ps.map (·.2))=Sto.live (l.map (·.1)):=by
 obtain⟨L,I,N⟩:=h;have o:∀q∈ps,∃p∈l,p.1.1=q.1∧p.1.2.2.length=q.2.2.2.1:=λq A=>by
  have H:=(I q.1).1 (List.mem_map.2 ⟨q,A,rfl⟩);have C:=N q A (.lit (.int .i64 0));rw[Sto.datum_find]at C;rw[Sto.datum_has,List.any_eq_true]at H;cases hf:l.find? (λp=>p.1.1==q.1) with
  | none=>rw[hf]at C;cases C
  | some p =>
   rw[hf]at C;have J:=List.mem_of_find?_eq_some hf;have M:=List.find?_some (p:=λp:Sto.Op×Value=>p.1.1==q.1) hf;obtain⟨a,c,e⟩:=hv p J;refine⟨p,J,by simpa using M,?_⟩;simp only[DataW.held.injEq,Sto.elemV,elV,e,Value.agg.injEq,Array.mk.injEq,List.cons.injEq,Value.slice.injEq]at C;exact C.2.1.2.1
 have B:(ps.map λq=>(q.1,q.2.2.2.1)).Perm (l.map λp=>(p.1.1,p.1.2.2.length)):=by
  refine (List.perm_ext_iff_of_nodup ?_ ?_).2 λx=>?_
  ·refine List.pairwise_map.2 ((List.pairwise_map.1 L).imp λ{a b} hne e=>hne (Prod.mk.inj e).1)
  ·refine List.pairwise_map.2 ((List.pairwise_map.1 hk).imp λ{a b} hne e=>hne (Prod.mk.inj e).1)
  ·rw[List.mem_map,List.mem_map];constructor
   ·rintro⟨q,A,rfl⟩;obtain⟨p,E,D,G⟩:=o q A;exact⟨p,E,by rw[D,G]⟩
   ·rintro⟨p,E,rfl⟩;have H:p.1.1∈ps.map (·.1):=(I p.1.1).2 (by rw[Sto.datum_has,List.any_eq_true];exact⟨p,E,by simp⟩);obtain⟨q,A,e⟩:=List.mem_map.1 H;obtain⟨O,F,D,G⟩:=o q A;have:O=p:=FG hk F E (D.trans e);subst this;exact⟨q,A,by rw[← D,← G]⟩
 have K:=JK (f:=λx:List UInt8×Nat=>44+x.2) B;rw[List.map_map,List.map_map]at K;unfold Eh Sto.live;rw[List.map_map,List.map_map];exact K
theorem Cf (mb:Nat) (l:Sto.ME) (w:World) (G:Nat→Prop) (hm:A1 w G mb l) (hk:(l.map λp=>p.1.1).Nodup) (hl:Sto.live (l.map (·.1))≤1000000000000) :
  Calls Tryz.prog 17 #[.map (some mb)] w λe w'=>e=.returned (.int .i64 (Sto.live (l.map (·.1)):Nat))∧Below w.heap.size w w':=by
 refine (callsIn_wide (n:=3)).1 ((Jz Fence.wide 3 trivial trivial trivial rfl (by omega) mb _ l w hm.map).mono ?_);rintro e w' ⟨⟨ps,hps,rfl⟩,hb⟩;have o:=J1 hps hk (λp hp=>by obtain⟨a,c,e,_⟩:=(hm.val p hp).1.form;exact⟨a,c,e⟩);refine⟨?_,hb⟩;rw[o];have:wrap64 ((Sto.live (l.map (·.1)):Nat):Int)=((Sto.live (l.map (·.1)):Nat):Int):=by unfold wrap64;omega
 rw[this]
open Go.Maps Go.WideMaps Go.Sort Go.Shelf
attribute [local go_sem] Oper.semAt_some
theorem Ki:(Tryz.prog.info? 40).map (λi=>(i.zero,i.size,i.bytes))=some (some (.agg (Array.replicate 32 (.int .u8 0))),32,32):=by kernel_rfl
theorem B0 (w:World) (t e:TypeId) (cs:List Value) (ie:TypeInfo) (z:Value) (hu:Tryz.prog.underlying t=some (.slice e)) (hie:Tryz.prog.info? e=some ie) (hz:ie.zero=some z) (hs:ie.size=cs.length) (h0:0<cs.length) (h1:cs.length≤1000) :
  (Instr.buildSlice t 1 #[(0,.agg cs.toArray)]).run Tryz.prog w=.ok (.slice (some ⟨w.heap.size,0,none⟩) 1 1) (w.alloc (.cells cs.toArray e)):=by
 refine run_buildSlice w t e 1 _ cs.toArray ie z hu hie hz (by rw[hs];omega) (by rw[hs];omega) ?_;rw[hs];have:=Great.fill_whole h0 [.agg cs.toArray] ((Array.range (1*cs.length)).map (z.cells[· % z.cells.size]!)) (λv hv=>by rw[List.mem_singleton.1 hv];simp[Value.cells]) (by simp)
 simpa [Value.cells] using this
section
variable {F : Fence} {n : Nat} {ops : Array Oper} {rest : List Oper} {o : Oper} {a : Act} {w : World} {Q : Exit → Act → World → Prop}
theorem Bs (hg:o.guard=none) (x:Operand) (ho:o.op=.load 40 x) (g off:Nat) (k:List UInt8) (hk:k.length=32)
  (hx:a.eval x=.pointer (some ⟨g,off,none⟩)) (hW:w.rangeAt g off (AH k)) (h:wpListIn F n Tryz.prog ops Q rest (a.put o.dst (Ah k)) w):wpListIn F n Tryz.prog ops Q (o::rest) a w:=by
 refine wpListIn_plain hg λK' hK'=>?_
 unfold Oper.wpIn;refine⟨by simp[Oper.about,ho],?_⟩;rw[Oper.semAt_plain F _ _ (by rw[ho];intro c hc';cases hc')];simp only[execOp,ho,hx,Instr.loadAt,Instr.sureAddr,Sem.run_bind,Sem.run_pure,Result.andThen_ok,run_loadVar_mid w g off 40 (AH k) _ hW Tryz.underlying40 rfl (by rw[AP,hk];kernel_rfl)];exact hK' _ _ h
theorem Bd (hg:o.guard=none) (x y:Operand) (ho:o.op=.store 40 x y) (c:Array Value) (hc:c.size=32) (k:List UInt8) (hk:k.length=32)
  (hx:a.eval x=.pointer (some ⟨w.heap.size,0,none⟩)) (hy:a.eval y=Ah k) (h:wpListIn F n Tryz.prog ops Q rest (a.put o.dst undef) (w.alloc (.cells (AH k).toArray 40))) :
  wpListIn F n Tryz.prog ops Q (o::rest) a (w.alloc (.cells c 40)):=by
 refine wpListIn_plain hg λK' hK'=>?_
 unfold Oper.wpIn;refine⟨by simp[Oper.about,ho],?_⟩;rw[Oper.semAt_plain F _ _ (by rw[ho];intro c hc';cases hc')];have A:a.eval y=.agg (AH k).toArray:=hy;simp only[execOp,ho,hx,A,Instr.storeAt,Instr.sureAddr,Sem.run_bind,Sem.run_pure,Result.andThen_ok,run_storeVar_new (P:=Tryz.prog) w 40 c (AH k).toArray (by rw[List.size_toArray,AP,hk];kernel_rfl) (by rw[hc,List.size_toArray,AP,hk]) (all_oneCell_toArray (by intro u hu;unfold AH at hu;obtain⟨x,_,rfl⟩:=List.mem_map.1 hu;rfl))];exact hK' _ _ h
theorem Co (hg:o.guard=none) (x:Operand) (ho:o.op=.buildSlice 77 1 #[(0,x)]) (k:List UInt8) (hk:k.length=32) (hx:a.eval x=Ah k)
  (h:wpListIn F n Tryz.prog ops Q rest (a.put o.dst (.slice (some ⟨w.heap.size,0,none⟩) 1 1)) (w.alloc (.cells (AH k).toArray 40))):wpListIn F n Tryz.prog ops Q (o::rest) a w:=by
 obtain⟨H,G,D,B,E⟩:=info_parts Ki;refine wpListIn_plain hg λK' hK'=>?_
 unfold Oper.wpIn;refine⟨by simp[Oper.about,ho],?_⟩;rw[Oper.semAt_plain F _ _ (by rw[ho];intro c hc';cases hc')];have C:a.eval x=.agg (AH k).toArray:=hx;have A:=B0 w 77 40 (AH k) H _ Tryz.underlying77 G D (by rw[B,AP,hk]) (by rw[AP,hk];omega) (by rw[AP,hk];omega);simp only[execOp,ho,Sem.run_bind,List.map_toArray,List.map_cons,List.map_nil,C,A,Result.andThen_ok];exact hK' _ _ h
end
theorem CW (k:List UInt8):∀u∈AH k,u.oneCell'=true:=λu hu=>by
 unfold AH at hu;obtain⟨x,_,rfl⟩:=List.mem_map.1 hu;rfl
def Kx (D0:DataW Value) (ks:List (List UInt8)):Prop:=ks.Nodup∧∀x,x∈ks↔Maps.has D0 (.string x)=true
abbrev K32:={ k:List UInt8 // k.length=32 }
theorem keys1_in (F:Fence) (n:Nat) (h8:F.fn 81) (hro:F.round=none) (hn:1≤n) (l Bm b nn:Nat) (ml:Sto.ME) (hkl:∀p∈ml,p.1.1.length=32) (J Jx:List K32→World→Prop)
  (hY:∀pre x W,J pre W→pre.length<Maps.size (Sto.datum ml)→YieldAt F (n-1) Tryz.prog l #[Ah x.1] W λe W' =>
   (e=.returned (.bool true)∧J (pre++[x]) W'∧KeepsWalks W W')∨(e=.returned (.bool false)∧Jx (pre++[x]) W'))
  (W:World) (hJ:AbidesFrom W.heap.size J) (hm:W.cell? ⟨Bm,0,none⟩=some (.map (some b))) (hown:W.ownsMap Tryz.prog 40 Sto.elemR b nn (Sto.datum ml)) (h0:J [] W) :
  CallsIn F n Tryz.prog 81 #[.func (.yield l) #[] #[],.pointer (some ⟨Bm,0,none⟩)] W λe W'=>(∃v,e=.returned v) ∧
   ((∃xs,Kx (Sto.datum ml) (xs.map (·.1))∧J xs W')∨(∃pre,True∧Jx pre W')):=by
 refine callsIn_of_wp Tryz.func81 rfl h8 ?_ hro;simp only[Tryz.ntmps81,List.size_toArray,QO,QR,QW,Nat.reduceSub,Array.replicate_succ,Array.replicate_zero,List.push_toArray,List.append_toArray,ZN,ZO]
 gi_wp2_with (first
  | (gi_at_range;refine wpListIn_range_own _ rfl _ 49 rfl 40 85 Av Tryz.underlying49 _ b nn _ rfl hown ?_;intro w0 hrg0 hg0 hs0)
  | gi_in)
 go_frame
 gi_loopw [3] (λ_ wr=>∃(left:Lit→Bool) (D:Nat) (A:List K32),wr.ranges Tryz.prog 40 Sto.elemR b W.heap.size nn (Sto.datum ml) left D∧A.length+D≤Maps.size (Sto.datum ml)∧Collected (Sto.datum ml) left (A.map (·.1))∧J A wr)
  (λ_ wr=>wr.rangeLeft b W.heap.size)
 case atStart =>
  exact⟨_,_,[],hrg0,by simp,Collected.start _,hJ [] W w0 none h0 hg0 (λr e=>by cases e)⟩
 case round =>
  obtain⟨left,D,A,C,P,I,G⟩:=hrel
  gi_wp2_with (first
   | (gi_at_next;refine wpListIn_next_ranges _ rfl _ rfl 40 Av Sto.elemR (λv=>v) (λv=>v) (λkey kl hk=>⟨key,rfl⟩) (λv y hv=>⟨v,rfl⟩) b W.heap.size nn _ _ _ rfl C ?_ ?_)
   | gi_in)
  ·intro hc0 hl0
   gi_wp2
   go_end0;exact⟨⟨_,rfl⟩,.inl ⟨_,⟨I.1,λx=>by rw[I.2 x,hl0];simp⟩,G⟩⟩
  ·intro x c kl yd yp w2 cnt2 hkey hlk hv hat hrg2 hlt hg2 hs2 hen;obtain⟨p,T,rfl⟩:=FB (has_true_of_atKey hat);have o:=hkl p T;obtain rfl:=Cs o hkey;have M:J A w2:=hJ _ wr w2 (some W.heap.size) G hg2 (λr e=>by cases e;exact⟨QM _,C.iter_walk⟩);have L:J A (w2.alloc (.cells (AH p.1.1).toArray 40)):=hJ _ w2 _ none M (World.grownBy_alloc _ _ _) (λr e=>by cases e);have E:=hrg2.of_walks (KeepsWalks.alloc w2 (.cells (AH p.1.1).toArray 40));have Q:=QA (BU w2 p.1.1);obtain⟨fn,O,H,N,R,S⟩:=hY A ⟨p.1.1,o⟩ _ L (by omega)
   dsimp only at R
   clear hs2
   gi_wp2_with (first|(guard_target=wpListIn _ _ _ _ _ ({ dst:=_,op:=.store 40 _ _,type:=_,pos:=_,after:=_,guard:=none }::_) _ _;refine Bd rfl _ _ rfl _ rfl p.1.1 o rfl rfl ?_)|(guard_target=wpListIn _ _ _ _ _ ({ dst:=_,op:=.load 40 _,type:=_,pos:=_,after:=_,guard:=none }::_) _ _;refine Bs rfl _ rfl w2.heap.size 0 p.1.1 o rfl Q.out ?_)|gi_in)
   refine S.mono ?_;have K:Collected (Sto.datum ml) (λz=>left z&&!z.sameKey (.string p.1.1)) ((A++[(⟨p.1.1,o⟩:K32)]).map (·.1)):=by simpa using I.step hlk hat
   rintro e W3 (⟨rfl,hJ4,hk3⟩|⟨rfl,hJx3⟩)
   ·gi_wp2
    have B:=E.of_walks hk3;go_roundw
    case rel=>exact⟨_,cnt2,A++[⟨p.1.1,o⟩],B,by simp;omega,K,hJ4⟩
    case measure=>rw[B.left_eq,C.left_eq];exact hlt
   ·gi_wp2
    refine bodyPost_ret (results_none rfl _ _ _) rfl ?_;exact⟨⟨_,rfl⟩,.inr ⟨_,trivial,hJx3⟩⟩
theorem IM (F:Fence) (n:Nat) (hf:F.fn 54) (hro:F.round=none) (mb:Option Nat) (w:World) :
  CallsIn F n Tryz.prog 54 #[.map mb] w λe w'=>e=.returned (.func (.func 81) #[] #[.pointer (some ⟨w.heap.size,0,none⟩)])∧w'=w.alloc (.cells #[.map mb] 49):=by
 refine callsIn_of_wp Tryz.func54 rfl hf ?_ hro;simp only[Tryz.ntmps54,List.size_toArray,QO,QR,QW,Nat.reduceSub,Array.replicate_succ,Array.replicate_zero,List.push_toArray,List.append_toArray,ZN,ZO]
 gi_wp2
 go_ret;exact⟨rfl,rfl⟩
theorem keys_stops (F:Fence) (n:Nat) (h7:F.fn 81) (hro:F.round=none) (hn:1≤n) (Bm b nn:Nat) (ml:Sto.ME) (hkl:∀p∈ml,p.1.1.length=32) (w:World) (hBm:Bm<w.heap.size)
  (hm:w.cell? ⟨Bm,0,none⟩=some (.map (some b))) (hown:w.ownsMap Tryz.prog 40 Sto.elemR b nn (Sto.datum ml)) :
  SeqStopsK F n Tryz.prog 81 #[.pointer (some ⟨Bm,0,none⟩)] (λx:K32=>#[Ah x.1]) KeepsWalks (λxs=>Kx (Sto.datum ml) (xs.map (·.1))) (λ_=>True) (Maps.size (Sto.datum ml)) w:=λl J Jx W hW hJ _ hY h0 =>
 keys1_in F n h7 hro hn l Bm b nn ml hkl J Jx hY W hJ ((hW.cell (p:=⟨Bm,0,none⟩) hBm).trans hm) (ownsMap_at hown (hW.block b hown.lt)) h0
def Aj (ks:List K32):List Value:=ks.flatMap λk=>AH k.1
theorem Br (ks:List K32):(Aj ks).length=ks.length*32:=by
 unfold Aj
 induction ks with
 | nil=>rfl
 | cons k r ih=>rw[List.flatMap_cons,List.length_append,ih,AP,k.2,QO];omega
theorem Gq (F:Fence) (n:Nat) (h3:F.fn 111) (hro:F.round=none) (hn:3≤n) (gf:Nat) (lb:Array Value) (hFg:F.fn gf) (eg:∀args w,(callFunc gf args).run Tryz.prog w=.ok (.enter gf args) w)
  (S:List K32→Prop) (N:Nat) (hN:N≤1000000) (w:World) (hseq:SeqStopsK F (n-1) Tryz.prog gf lb (λx:K32=>#[Ah x.1]) KeepsWalks S (λ_=>True) N w) :
  CallsIn F n Tryz.prog 111 #[.slice none 0 0,.func (.func gf) #[] lb] w λe W'=>∃v xs,e=.returned v∧S xs∧W'.ownsRow w.heap.size 40 32 v xs.length (Aj xs)∧Below w.heap.size w W':=by
 have J:1≤n:=by omega
 refine callsIn_of_wp_marks Tryz.func111 rfl h3 ?_ hro;simp only[Tryz.ntmps111,List.size_toArray,QO,QR,QW,Nat.reduceSub,Array.replicate_succ,Array.replicate_zero,List.push_toArray,List.append_toArray,ZN,ZO]
 gi_wp2
 have U:=Boxed.new w 77 (.slice none 0 0);have C:Below w.heap.size w (w.alloc (.cells #[.slice none 0 0] 77)):=(Below.refl _ w).alloc (QM _) _;obtain⟨I,B⟩:∃I,w.alloc (.cells #[.slice none 0 0] 77)=I:=⟨_,rfl⟩
 have ah:I.heap.size=w.heap.size+1:=by rw[← B];simp
 rw[B]at U C ⊢;clear B;obtain⟨i0,hi,T,Q,M⟩:=info_parts Ki;refine wpIn_rangeFunc_ownH hro J (gf:=gf) (lb:=lb) rfl hFg eg hseq walksK_t walksK_b C (λ_=>rfl)
  (λpre W=>(∃v,Boxed W w.heap.size 77 v∧W.ownsRow w.heap.size 40 32 v pre.length (Aj pre)∧True)∧Below w.heap.size I W)
  (λ_ _ _=>False)
  (OwnFrom.and (Own.from (holdsRow_own _ _ _ _ _ (λpre:List K32=>pre.length) Aj (λ_ _=>True)) _) (ownFrom_below (by omega) (by omega)))
  (λ_ _ _ _ _ hs _ _=>hs)
  ⟨⟨_,U,World.ownsRow_nil _ _ _ _,trivial⟩,Below.refl _ _⟩
  (λx a' W=>∃A,w.heap.size<A∧W.heap[A]?=some (.cells (AH x.1).toArray 40 (0,0))∧a'={ tmps:=#[.slice none 0 0,.func (.func gf) #[] lb,.pointer (some ⟨w.heap.size,0,none⟩),undef,.slice none 0 0,.pointer (some ⟨A,0,none⟩),.func (.func gf) #[] lb,Ah x.1,undef,undef,undef,undef,undef],defers:=[] })
  (λx a' _ X Y row hs hg hr=>by obtain⟨A,k1,L,Z⟩:=hs;exact⟨A,k1,(hg.block A (AC L) (λe=>by obtain⟨_,o,V,hc⟩:=hr A e.symm;rw[L]at V;cases V;cases hc)).trans L,Z⟩)
  ?assign ?body ?done ?stop
 case assign =>
  rintro l pre ⟨x,hx⟩ W K ⟨⟨v,bS,hrow,_⟩,hB1⟩ hK;have O:=hB1.size
  dsimp only at hK ⊢
  gi_wp2_with (first|(guard_target=wpListIn _ _ _ _ _ ({ dst:=_,op:=.store 40 _ _,type:=_,pos:=_,after:=_,guard:=none }::_) _ _;refine Bd rfl _ _ rfl _ rfl x hx rfl rfl ?_)|gi_in)
  exact hK _ _ ((KeepsOthers.alloc _ _).from _) (KeepsWalks.alloc _ _) ⟨⟨v,bS.alloc _,hrow.alloc _,trivial⟩,hB1.alloc (by omega) _⟩ ⟨W.heap.size,by omega,AK W _,rfl⟩
 case body =>
  rintro l pre ⟨x,hx⟩ a' W hl ⟨r,hr⟩ ⟨⟨v,bS,hrow,_⟩,hB1⟩ ⟨A,hBx,bX,rfl⟩ hlt;obtain⟨va,vc,rfl⟩:=BC hrow;have cS:=bS.cell;have fS:=bS.frozen;have O:=hB1.size;have HR:Hid (W.rangeAt A 0 (AH x)):=QA λj u hj=>by rw[Nat.zero_add];exact AA bX j u (by simpa using hj)
  dsimp only
  gi_wp2_with (first|(guard_target=wpListIn _ _ _ _ _ ({ dst:=_,op:=.load 40 _,type:=_,pos:=_,after:=_,guard:=none }::_) _ _;refine Bs rfl _ rfl A 0 x hx rfl HR.out ?_)|(guard_target=wpListIn _ _ _ _ _ ({ dst:=_,op:=.buildSlice 77 _ _,type:=_,pos:=_,after:=_,guard:=none }::_) _ _;refine Co rfl _ rfl x hx rfl ?_)|(gi_at_builtin;refine wpListIn_append_own _ rfl _ _ 77 rfl w.heap.size 40 i0 _ 32 32 Tryz.underlying77 hi T Q M rfl (by decide) _ _ _ rfl (hrow.alloc _) ⟨W.heap.size,0,none⟩ 1 1 (AH x) rfl (by rw[AP,hx]) (λj u hj=>by rw[addr_add];exact AA (AK W _) j u (by simpa using hj)) (CW x) (by unfold maxLen;omega) (by omega) (by simp;omega) ?_;intro v' w1 hown' hgrow _;obtain⟨ab,ac,rfl⟩:=BC hown';obtain⟨H,P,R,E,G⟩:=bS.appended (by decide) hrow (by omega) (QM _) hown' hgrow;have af:=H.cell;have aj:=H.frozen)|gi_in)
  refine⟨E.from _,⟨G.size,λk o' J h2=>E.same k o' J (Obj.not_cells_of_walk h2)⟩,⟨⟨_,P,?_⟩,hB1.trans G⟩⟩;have e1:(pre++[(⟨x,hx⟩:K32)]).length=pre.length+1:=by simp
  have e2:Aj (pre++[(⟨x,hx⟩:K32)])=Aj pre++AH x:=by unfold Aj;simp
  rw[e1,e2];exact R
 case done =>
  rintro D xs W hD hS ⟨⟨v,bS,hrow,_⟩,hB1⟩ hK;have cS:=bS.cell
  gi_wp2
  refine⟨by simp,.inl ⟨_,_,rfl,run_takeDeferred hK,?_⟩⟩;exact⟨_,results_tmp rfl _ _ _,v,xs,rfl,hS,ownsRow_putObj hrow _ hK rfl,C.trans (hB1.trans (belowK_b (w:=w) (QM _) W D _ _ (by omega) hK rfl rfl))⟩
 case stop =>
  rintro D c pre W _ _ h _;exact h.elim
open Go.Maps Go.WideMaps Go.Sort Go.Shelf
def GW (w w':World):Prop:=∃q os,w'=grow (w.drewN q) os
theorem GW.refl (w:World):GW w w:=⟨0,#[],by rw[grow_empty];rfl⟩
theorem GW.alloc {w w':World} (h:GW w w') (o:Obj):GW w (w'.alloc o):=by
 obtain⟨q,os,rfl⟩:=h;refine⟨q,os.push o,?_⟩;show ({ w with heap:=(w.heap++os).push o,drawn:=w.drawn+q }:World)={ w with heap:=w.heap++os.push o,drawn:=w.drawn+q };rw[Array.push_append]
theorem GW.drewN {w w':World} (h:GW w w') (n:Nat):GW w (w'.drewN n):=by
 obtain⟨q,os,rfl⟩:=h;refine⟨q+n,os,?_⟩;show ({ w with heap:=w.heap++os,drawn:=w.drawn+q+n }:World)={ w with heap:=w.heap++os,drawn:=w.drawn+(q+n) };rw[Nat.add_assoc]
theorem GW.trans {a b c:World} (h:GW a b) (g:GW b c):GW a c:=by
 obtain⟨q,os,rfl⟩:=h;obtain⟨p,o,rfl⟩:=g;refine⟨q+p,os++o,?_⟩;show ({ a with heap:=a.heap++os++o,drawn:=a.drawn+q+p }:World)={ a with heap:=a.heap++(os++o),drawn:=a.drawn+(q+p) };rw[Nat.add_assoc,Array.append_assoc]
theorem GW.below {w w':World} (h:GW w w'):Below w.heap.size w w':=by
 obtain⟨q,os,rfl⟩:=h;refine⟨rfl,rfl,rfl,?_,λk hk=>?_⟩
 ·show w.heap.size≤(w.heap++os).size;rw[Array.size_append];exact Nat.le_add_right _ _
 ·show (w.heap++os)[k]?=w.heap[k]?;rw[Array.getElem?_append_left hk]
/-! ### Compare -/
theorem FZ (l:List UInt8):Lib.bytesOf (l.map λc=>((c.toNat:Nat):Int))=l:=by
 unfold Lib.bytesOf;rw[List.map_map]
 conv=>rhs;rw[← List.map_id l]
 refine List.map_congr_left λc _=>?_
 simp
theorem Dk {w:World} {v:Value} {l:List UInt8} (h:AZ w v l):(Extern.Bytes.bytesOf v).run Tryz.prog w=.ok ⟨l.toArray⟩ w:=by
 obtain⟨a,c,rfl,G,E,o⟩:=h;cases a with
 | none =>
  have B:l=[]:=List.length_eq_zero_iff.1 (by have:=E rfl;omega);subst B;rfl
 | some p =>
  have:=Lib.run_loadBytesX (P:=Tryz.prog) w (l.map λc=>((c.toNat:Nat):Int)) p .empty (λj x A=>by
   rw[ZF]at A;cases hl:l[j]? with
   | none=>rw[hl]at A;cases A
   | some y =>
    rw[hl]at A;have A:((y.toNat:Nat):Int)=x:=by simpa using A
    obtain⟨b,C,e,F,D⟩:=o j y hl;cases e;rw[Addr.add_mid,← A];exact D)
  rw[FZ,List.length_map]at this;show (Extern.Bytes.loadBytes p l.length .empty).run Tryz.prog w=_;rw[this];simp
theorem KM {w:World} {a b:Value} {x y:List UInt8} (ha:AZ w a x) (hb:AZ w b y) :
  (callFunc 113 #[a,b]).run Tryz.prog w=.ok (.value (.int .i64 (Lib.compareBytes x y))) w:=by
 have A:Tryz.prog.funcs[113]?=some Tryz.f113:=Tryz.func113;rw[run_callFunc_extern (e:=Extern.BytealgCompare.compare) A (by kernel_rfl) (by kernel_rfl) (by kernel_rfl) (by kernel_rfl)];have o:(Extern.BytealgCompare.compare #[a,b]).run Tryz.prog w=.ok (.int .i64 (Lib.compareBytes x y)) w:=by
  change Sem.run Tryz.prog (do pure (goInt (Extern.BytealgCompare.cmp (← Extern.Bytes.bytesOf a) (← Extern.Bytes.bytesOf b)))) w=_;simp only[Sem.run_bind,Dk ha,Dk hb,Sem.run_pure,Result.andThen];rw[Lib.cmp_eq];rfl
 rw[o];rfl
theorem FW (a b:Value) (x y:List UInt8) (w:World) (ha:AZ w a x) (hb:AZ w b y) :
  Calls Tryz.prog 82 #[a,b] w λe w'=>e=.returned (.int .i64 (Lib.compareBytes x y))∧w'=w:=by
 obtain⟨B,D,rfl,_⟩:=ha.form;obtain⟨o,C,rfl,_⟩:=hb.form;have A:=KM ha hb;go_enter Tryz.func82,Tryz.ntmps82;go_wp2_with fail;go_ret;exact⟨rfl,rfl⟩
theorem I8:∀(x y:List UInt8),Lib.compareBytes x y<0↔x<y
 | [],[]=>by simp[Lib.compareBytes]
 | [],_::_=>by simp[Lib.compareBytes]
 | _::_,[]=>by simp[Lib.compareBytes]
 | a::r,b::s=>by
  rw[Lib.compareBytes,List.cons_lt_cons_iff];by_cases h1:a<b
  ·simp[h1]
  ·rw[if_neg h1];by_cases h2:b<a
   ·rw[if_pos h2];have o:a≠b:=λe=>by subst e;exact h1 h2
    simp[h1,o]
   ·rw[if_neg h2,I8 r s];have A:a=b:=UInt8.toNat_inj.1 (by
     have B:¬a.toNat<b.toNat:=h1;have C:¬b.toNat<a.toNat:=h2;omega)
    simp[A]
theorem F6 (w:World) {k:List UInt8} (hk:k.length=32):AZ (w.alloc (.cells (AH k).toArray 40)) (.slice (some ⟨w.heap.size,0,none⟩) 32 32) k:=by
 have:=CN (w:=w.alloc (.cells (AH k).toArray 40)) (g:=w.heap.size) (off:=0) k 32 (by omega) (AC (AK w _)) (λi x hi=>(BU w k) i _ (by unfold AH;rw[ZF,hi];rfl))
 rwa [hk]at this
theorem GE (x y:List UInt8) (w:World) (hx:x.length=32) (hy:y.length=32) :
  Calls Tryz.prog 56 #[.agg (AH x).toArray,.agg (AH y).toArray] w λe w'=>e=.returned (.bool (decide (x<y)))∧GW w w':=by
 obtain⟨X,C⟩:∃X,X=w.alloc (.cells (AH x).toArray 40):=⟨_,rfl⟩
 obtain⟨Y,o⟩:∃Y,Y=X.alloc (.cells (AH y).toArray 40):=⟨_,rfl⟩
 have B:X.heap.size=w.heap.size+1:=by rw[C];simp
 have E:AZ X (.slice (some ⟨w.heap.size,0,none⟩) 32 32) x:=by rw[C];exact F6 w hx
 have F:=QA (E.below (by rw[o];exact (Below.refl X.heap.size X).alloc (QM _) (.cells (AH y).toArray 40)):AZ Y (.slice (some ⟨w.heap.size,0,none⟩) 32 32) x);have H:Hid (AZ Y (.slice (some ⟨w.heap.size+1,0,none⟩) 32 32) y):=by rw[← B,o];exact QA (F6 X hy)
 have G:Hid (GW w Y):=by rw[o,C];exact QA (((GW.refl w).alloc _).alloc _)
 have D:(w.alloc (.cells (AH x).toArray 40)).alloc (.cells (AH y).toArray 40)=Y:=by rw[o,C]
 have A:∀n,Calls Tryz.prog 82 #[.slice (some ⟨w.heap.size,0,none⟩) 32 32,.slice (some ⟨w.heap.size+1,0,none⟩) 32 32] (Y.drewN n) λe w'=>e=.returned (.int .i64 (Lib.compareBytes x y))∧w'=Y.drewN n:=λn =>
  FW _ _ x y _ (F.out.below (Below.drewN (Below.refl _ Y) n)) (H.out.below (Below.drewN (Below.refl _ Y) n))
 clear C o B E;go_enter Tryz.func56,Tryz.ntmps56;go_wp2_with fail;clear D;refine Ai [] (by kernel_rfl) (by kernel_rfl) ?_;simp only[Bo,List.take_succ_cons,List.take_zero,List.drop_succ_cons,List.drop_zero,Nat.sub_zero,Nat.reduceSub,QW]
 repeat (go_big_quiet_step (with_reducible exact Calls.quiet_of_same (A _)))
 refine wpQuiet_nil ?_;rintro _ ⟨nq,rfl⟩;go_wp2_with fail;refine bodyPost_ret (v:=.bool (decide (Lib.compareBytes x y<0))) (by simp[results,Tryz.results56,go_sem]) rfl ?_;refine⟨?_,G.out.drewN nq⟩;rw[decide_eq_decide.2 (I8 x y)]
def FE (x y:List UInt8):Int:=if x<y then -1 else if y<x then 1 else 0
theorem D7 (x y:List UInt8) (w:World) (hx:x.length=32) (hy:y.length=32) :
  Calls Tryz.prog 55 #[.agg (AH x).toArray,.agg (AH y).toArray] w λe w'=>e=.returned (.int .i64 (FE x y))∧GW w w':=by
 obtain⟨X,G⟩:∃X,X=w.alloc (.cells (AH x).toArray 40):=⟨_,rfl⟩
 obtain⟨Y,D⟩:∃Y,Y=X.alloc (.cells (AH y).toArray 40):=⟨_,rfl⟩
 have o:X.heap.size=w.heap.size+1:=by rw[G];simp
 have I:X.rangeAt w.heap.size 0 (AH x):=by rw[G];exact BU w x
 have K:Hid (Y.rangeAt w.heap.size 0 (AH x)):=QA (AW I (by rw[D];exact ((Below.refl X.heap.size X).alloc (QM _) (.cells (AH y).toArray 40)).block _ (by rw[o];omega)));have J:Hid (Y.rangeAt (w.heap.size+1) 0 (AH y)):=by rw[← o,D];exact QA (BU X y)
 have O:Hid (GW w Y):=by rw[D,G];exact QA (((GW.refl w).alloc _).alloc _)
 have H:(w.alloc (.cells (AH x).toArray 40)).alloc (.cells (AH y).toArray 40)=Y:=by rw[D,G]
 have L:Hid (w.heap.size+2=Y.heap.size):=by rw[D];exact QA (by simp[o])
 clear G D o I;have B:=QA hx;have A:=QA hy;clear hx hy;go_enter Tryz.func55,Tryz.ntmps55;go_wp2_with (first|(guard_target=wpList _ _ _ ({ dst:=_,op:=.load 40 _,type:=_,pos:=_,after:=_,guard:=none }::_) _ _;refine Ab rfl _ rfl w.heap.size 0 x B.out rfl K.out ?_)|(guard_target=wpList _ _ _ ({ dst:=_,op:=.load 40 _,type:=_,pos:=_,after:=_,guard:=none }::_) _ _;refine Ab rfl _ rfl (w.heap.size+1) 0 y A.out rfl J.out ?_)|fail);clear H;refine (GE x y Y B.out A.out).mono ?_;rintro e w2 ⟨rfl,hg2⟩;have C:=hg2.below;have M:Hid (w2.rangeAt w.heap.size 0 (AH x)):=QA (AW K.out (C.block _ (by have:=L.out;omega)));have N:Hid (w2.rangeAt (w.heap.size+1) 0 (AH y)):=QA (AW J.out (C.block _ (by have:=L.out;omega)));have E:=QA (O.out.trans hg2);clear hg2 C;by_cases h1:x<y
 ·rw[decide_eq_true h1];go_wp2_with fail;refine bodyPost_ret (v:=.int .i64 (-1)) (by simp[results,Tryz.results55,go_sem]) rfl ?_;exact⟨by unfold FE;rw[if_pos h1],E.out⟩
 ·rw[decide_eq_false h1];go_wp2_with (first|(guard_target=wpList _ _ _ ({ dst:=_,op:=.load 40 _,type:=_,pos:=_,after:=_,guard:=none }::_) _ _;refine Ab rfl _ rfl (w.heap.size+1) 0 y A.out rfl N.out ?_)|(guard_target=wpList _ _ _ ({ dst:=_,op:=.load 40 _,type:=_,pos:=_,after:=_,guard:=none }::_) _ _;refine Ab rfl _ rfl w.heap.size 0 x B.out rfl M.out ?_)|fail);refine (GE y x w2 A.out B.out).mono ?_;rintro e w3 ⟨rfl,hg3⟩;have F:=QA (E.out.trans hg3);clear hg3;by_cases h2:y<x
  ·rw[decide_eq_true h2];go_wp2_with fail;refine bodyPost_ret (v:=.int .i64 1) (by simp[results,Tryz.results55,go_sem]) rfl ?_;exact⟨by unfold FE;rw[if_neg h1,if_pos h2],F.out⟩
  ·rw[decide_eq_false h2];go_wp2_with fail;refine bodyPost_ret (v:=.int .i64 0) (by simp[results,Tryz.results55,go_sem]) rfl ?_;exact⟨by unfold FE;rw[if_neg h1,if_neg h2],F.out⟩
open Go.Maps Go.WideMaps Go.Sort Go.Shelf
def Gf:Go.Shelf.Ren:=⟨fun|6=>80|15=>110|14=>112|28=>131|29=>132|20=>133|21=>134|22=>135|23=>136|24=>137|25=>138|26=>139|27=>140|46=>161|47=>156|48=>157|49=>162|50=>163|57=>176|n=>n,fun|22=>77|24=>40|25=>130|3=>3|39=>35|0=>0|53=>163|55=>206|4=>4|46=>198|45=>197|50=>145|5=>5|9=>9|66=>224|70=>228|76=>247|77=>248|n=>n,fun|n=>n⟩
theorem C5:Go.Proofs.SlLaysF0.n6 Tryz.prog Gf:={
 mixed:=by kernel_rfl
 f6:=⟨Tryz.f80.name,by decide,Tryz.func80.trans (congrArg some (by kernel_rfl))⟩
 f14:=⟨Tryz.f112.name,by decide,Tryz.func112.trans (congrArg some (by kernel_rfl))⟩
 f15:=Tryz.func110.trans (congrArg some (by kernel_rfl))
 f20:=⟨Tryz.f133.name,by decide,Tryz.func133.trans (congrArg some (by kernel_rfl))⟩
 f21:=⟨Tryz.f134.name,by decide,Tryz.func134.trans (congrArg some (by kernel_rfl))⟩
 f22:=⟨Tryz.f135.name,by decide,Tryz.func135.trans (congrArg some (by kernel_rfl))⟩
 f23:=⟨Tryz.f136.name,by decide,Tryz.func136.trans (congrArg some (by kernel_rfl))⟩
 f24:=⟨Tryz.f137.name,by decide,Tryz.func137.trans (congrArg some (by kernel_rfl))⟩
 f25:=⟨Tryz.f138.name,by decide,Tryz.func138.trans (congrArg some (by kernel_rfl))⟩
 f26:=⟨Tryz.f139.name,by decide,Tryz.func139.trans (congrArg some (by kernel_rfl))⟩
 f27:=⟨Tryz.f140.name,by decide,Tryz.func140.trans (congrArg some (by kernel_rfl))⟩
 f28:=Tryz.func131.trans (congrArg some (by kernel_rfl))
 f29:=Tryz.func132.trans (congrArg some (by kernel_rfl))
 f46:=⟨Tryz.f161.name,by decide,Tryz.func161.trans (congrArg some (by kernel_rfl))⟩
 f47:=Tryz.func156.trans (congrArg some (by kernel_rfl))
 f48:=Tryz.func157.trans (congrArg some (by kernel_rfl))
 f49:=⟨Tryz.f162.name,by decide,Tryz.func162.trans (congrArg some (by kernel_rfl))⟩
 f50:=⟨Tryz.f163.name,by decide,Tryz.func163.trans (congrArg some (by kernel_rfl))⟩
 f57:=⟨Tryz.f176.name,by decide,Tryz.func176.trans (congrArg some (by kernel_rfl))⟩
 t0:=Tryz.underlying0
 a0:=Tryz.isAgg0
 z0:=Tryz.sizeOf0
 v0:=Tryz.zeroValue0
 t3:=Tryz.underlying3
 a3:=Tryz.isAgg3
 z3:=Tryz.sizeOf3
 v3:=Tryz.zeroValue3
 t4:=Tryz.underlying4
 a4:=Tryz.isAgg4
 z4:=Tryz.sizeOf4
 v4:=Tryz.zeroValue4
 t5:=Tryz.underlying5
 a5:=Tryz.isAgg5
 z5:=Tryz.sizeOf5
 v5:=Tryz.zeroValue5
 t9:=Tryz.underlying9
 a9:=Tryz.isAgg9
 z9:=Tryz.sizeOf9
 v9:=Tryz.zeroValue9
 t22:=Tryz.underlying77
 a22:=Tryz.isAgg77
 z22:=Tryz.sizeOf77
 v22:=Tryz.zeroValue77
 t25:=Tryz.underlying130
 a25:=Tryz.isAgg130
 z25:=Tryz.sizeOf130
 v25:=Tryz.zeroValue130
 t39:=Tryz.underlying35
 a39:=Tryz.isAgg35
 z39:=Tryz.sizeOf35
 v39:=Tryz.zeroValue35
 t45:=Tryz.underlying197
 a45:=Tryz.isAgg197
 z45:=Tryz.sizeOf197
 v45:=Tryz.zeroValue197
 t46:=Tryz.underlying198
 a46:=Tryz.isAgg198
 z46:=Tryz.sizeOf198
 v46:=Tryz.zeroValue198
 t50:=Tryz.underlying145
 a50:=Tryz.isAgg145
 z50:=Tryz.sizeOf145
 v50:=Tryz.zeroValue145
 t53:=Tryz.underlying163
 a53:=Tryz.isAgg163
 z53:=Tryz.sizeOf163
 v53:=Tryz.zeroValue163
 t55:=Tryz.underlying206
 a55:=Tryz.isAgg206
 z55:=Tryz.sizeOf206
 v55:=Tryz.zeroValue206
 t66:=Tryz.underlying224
 a66:=Tryz.isAgg224
 z66:=Tryz.sizeOf224
 v66:=Tryz.zeroValue224
 t70:=Tryz.underlying228
 a70:=Tryz.isAgg228
 z70:=Tryz.sizeOf228
 v70:=Tryz.zeroValue228
 t76:=Tryz.underlying247
 a76:=Tryz.isAgg247
 z76:=Tryz.sizeOf247
 v76:=Tryz.zeroValue247
 t77:=Tryz.underlying248
 a77:=Tryz.isAgg248
 z77:=Tryz.sizeOf248
 v77:=Tryz.zeroValue248 }
open Go.Sort Go.Lib
def FQ (k:K32):List Value:=AH k.1
def cfK (x y:K32):Int:=FE x.1 y.1
theorem CR (x y:K32):ltOf cfK x y=decide (x.1<y.1):=by
 unfold ltOf cfK FE;by_cases h1:x.1<y.1
 ·rw[if_pos h1,decide_eq_true h1];rfl
 ·rw[if_neg h1,decide_eq_false h1];split<;>rfl
theorem KW:SWO (ltOf cfK) where
 irrefl x:=by rw[CR];simp[List.lt_irrefl]
 trans x y z h1 h2:=by
  rw[CR]at *;simp only[decide_eq_true_eq]at *;exact List.lt_trans h1 h2
 ntrans x y z h1 h2:=by
  rw[CR]at *;simp only[decide_eq_false_iff_not,List.not_lt]at *;exact List.le_trans h2 h1
instance : Inhabited K32 := ⟨⟨List.replicate 32 0, by simp⟩⟩
theorem Gz (l:List K32):Aj l=(l.map λk=>Ah k.1).flatMap λv=>v.cells.toList:=by
 unfold Aj;rw[List.flatMap_map];rfl
theorem Dg (l:List K32) (t:Nat):(Aj l)[t]?=(l[t / 32]?).bind λk=>(AH k.1)[t % 32]?:=by
 rw[Gz,Great.flat_get (s:=32) (by decide) _ (λv hv=>by
  obtain⟨k,_,rfl⟩:=List.mem_map.1 hv;show (AH k.1).toArray.size=32;rw[List.size_toArray,AP,k.2]),ZF]
 cases l[t / 32]? with
 | none=>rfl
 | some k=>simp[Ah,Value.cells]
theorem FF (l:List K32):flatK FQ 32 l.toArray=(Aj l).toArray:=by
 refine ext_get! (by rw[size_flatK,List.size_toArray,List.size_toArray,Br]) λt ht=>?_
 have o:t<l.toArray.size*32:=by rw[size_flatK]at ht;exact ht
 rw[get_flatK _ _ _ _ o];have A:t / 32<l.length:=by
  rw[List.size_toArray]at o;exact Nat.div_lt_of_lt_mul (by omega)
 have B:=Dg l t;have F:l.toArray[t / 32]! = l[t / 32]:=by rw[getElem!_pos _ _ (by simpa using A)];simp
 have D:t % 32<(AH (l[t / 32]).1).length:=by rw[AP,(l[t / 32]).2];exact Nat.mod_lt _ (by decide)
 rw[ZG A,Option.bind_some,ZG D]at B;have C:=(List.getElem?_eq_some_iff.1 B).1;have E:(Aj l).toArray[t]! = (Aj l)[t]:=by rw[getElem!_pos _ _ (by simpa using C)];rfl
 rw[F,E,(List.getElem?_eq_some_iff.1 B).2];unfold FQ;exact getElem!_pos (AH (l[t / 32]).1) (t % 32) D
abbrev Cz (w:World) (base:Nat) (v:Value) (l:List K32):Prop:=w.ownsRow base 40 32 v l.length (Aj l)
theorem Cz.holds {w:World} {base blk n cap:Nat} {l:List K32} (h:Cz w base (.slice (some ⟨blk,0,none⟩) n cap) l):HoldsK FQ 32 w blk 0 l.toArray:=by
 unfold HoldsK;rw[FF];rcases h.2 with⟨h4,h5⟩|⟨g,cap',cur,hv,hg,hb,hc,hm,hs,ht⟩
 ·cases h4
 cases hv;intro j hj;have o:j<(Aj l).length:=by simpa using hj
 have C:(Aj l).toArray[j]! = (Aj l)[j]:=by
  rw[getElem!_pos _ _ (by simpa using o)];rfl
 have B:=Br l;have A:j<cur.size:=by omega
 have D:(Aj l)[j]=cur[j]:=by
  have:(Aj l)[j]?=cur.toList[j]?:=by
   rw[← ht,List.getElem?_take_of_lt (by omega)]
  rw[ZG o,ZG (by simpa using A)]at this
  simpa using this
 refine⟨?_,?_⟩
 ·unfold World.cell?
  dsimp only
  rw[hb];simp only[Option.isSome_none,Bool.false_eq_true,if_false];rw[C,D,Nat.zero_add];simp[A]
 ·unfold World.frozen?
  dsimp only
  rw[hb];simp
theorem Cz.sorted {w:World} {base blk n cap:Nat} {l d:List K32} (h:Cz w base (.slice (some ⟨blk,0,none⟩) n cap) l) (hd:d.length=l.length) (m:Nat) (os:Array Obj) :
  Cz (sortWorldK FQ 32 w blk 0 m d.toArray os) base (.slice (some ⟨blk,0,none⟩) n cap) d∧(base≤w.heap.size→Below base w (sortWorldK FQ 32 w blk 0 m d.toArray os)):=by
 rcases h.2 with⟨h4,h5⟩|⟨g,cap',cur,hv,hg,hb,hc,hm,hs,ht⟩
 ·cases h4
 have E:n=l.length:=by cases hv;rfl
 cases hv;have A:blk<w.heap.size:=AC hb;have D:(sortWorldK FQ 32 w blk 0 m d.toArray os).heap[blk]?=some (.cells (putCells id 0 (Aj d).toArray cur) 40 (0,0)):=by
  unfold sortWorldK;rw[Go.Sort.heap_grow_old _ _ (by show blk<(Array.modify _ _ _).size;rw[Array.size_modify];exact A)];unfold putRowK putRow;rw[FF];show (Array.modify _ blk _)[blk]?=_;rw[Array.getElem?_modify,if_pos rfl];show Option.map _ w.heap[blk]?=_;rw[hb];rfl
 have C:=Br d;refine⟨⟨by rw[Br],.inr ⟨blk,cap,_,by rw[hd],hg,D,by omega,hm,by unfold putCells;rw[Array.size_mapIdx];exact hs,?_⟩⟩,λhbw=>?_⟩
 ·apply List.ext_getElem?;intro j;by_cases hj:j<d.length*32
  ·rw[List.getElem?_take_of_lt hj];have B:j<cur.size:=by omega
   have o:j<(Aj d).length:=by omega
   unfold putCells;rw[Array.getElem?_toList,Array.getElem?_mapIdx,Array.getElem?_eq_getElem B];simp only[Option.map_some,id];rw[if_pos ⟨Nat.zero_le _,by simpa using o⟩,ZG o,Nat.sub_zero,getElem!_pos _ _ (by simpa using o)];rfl
  ·rw[List.getElem?_take,if_neg hj,List.getElem?_eq_none (by omega)]
 ·unfold sortWorldK;refine⟨rfl,rfl,rfl,?_,λk hk=>?_⟩
  ·show w.heap.size≤(Array.modify _ _ _++os).size;rw[Array.size_append,Array.size_modify];exact Nat.le_add_right _ _
  ·rw[Go.Sort.heap_grow_old _ _ (by show k<(Array.modify _ _ _).size;rw[Array.size_modify];show k<w.heap.size;omega)];unfold putRowK putRow;show (Array.modify _ blk _)[k]?=_;rw[Array.getElem?_modify,if_neg (by omega)];rfl
theorem Jj (blk off size:Nat) (w:World):CmpLays Tryz.prog 55 #[] FQ 32 cfK blk off size w :=
 λ_ _ _ _ x y=>(D7 x.1 y.1 _ x.2 y.2)
theorem Ke (x y:K32) (h1:decide (x.1<y.1)=false) (h2:decide (y.1<x.1)=false):x=y:=by
 simp only[decide_eq_false_iff_not,List.not_lt]at h1 h2;exact Subtype.ext (List.le_antisymm h2 h1)
theorem Iy (v:Value) (l:List K32) (w:World) (base:Nat) (ho:Cz w base v l) (hbw:base≤w.heap.size) (hl:l.length≤1000000000) (hnd:(l.map (·.1)).Nodup) :
  Calls Tryz.prog 80 #[v,.func (.func 55) #[] #[]] w λe w'=>e=.returned (.tuple #[])∧∃d:List K32,d.Perm l∧((d.map (·.1)).Pairwise λx y=>x<y)∧Cz w' base v d∧Below base w w':=by
 rcases ho.2 with⟨h4,h5⟩|⟨g,cap,cur,hv,hg,hb,hc,hm,hs,ht⟩
 ·subst h4;refine (AnyF.slices_SortFunc_none C5 none 0 _ w).mono ?_;rintro e w' ⟨rfl,rfl⟩;have:l=[]:=List.eq_nil_of_length_eq_zero h5;subst this;exact⟨rfl,[],List.Perm.refl _,List.Pairwise.nil,ho,Below.refl _ _⟩
 ·subst hv;have G:∀args w,(callFunc 55 args).run Tryz.prog w=.ok (.enter 55 args) w:=enters_of Tryz.func55 (by kernel_rfl) rfl;have A:=AnyQ.slices_SortFunc_total C5 32 Tryz.isAgg40 Tryz.sizeOf40 FQ (λx=>by unfold FQ;rw[AP,x.2]) (λx v hv=>CW x.1 v hv) cfK KW 55 #[] g 0 cap l.toArray w G (Jj g 0 _ w) ho.holds (AC hb) (by simp;omega)
   (λx y o h2=>by
    rw[CR]at o h2;exact Ke x y o h2)
  refine A.mono ?_;rintro e w' ⟨rfl,n,os,rfl⟩;obtain⟨d,D⟩:∃d,d=l.mergeSort (λx y=>!ltOf cfK y x):=⟨_,rfl⟩
  have F:d.Perm l:=by rw[D];exact List.mergeSort_perm _ _
  have B:=Cz.sorted ho F.length_eq n os;rw[show (l.toArray.toList.mergeSort λx y=>!ltOf cfK y x)=d by rw[D]];refine⟨rfl,d,F,?_,B.1,B.2 hbw⟩;have E:d.Pairwise (λx y=>(!ltOf cfK y x)=true):=by
   rw[D];refine List.pairwise_mergeSort (λa b c o h2=>?_) (λa b=>?_) l
   ·rw[CR]at *;simp only[Bool.not_eq_true',decide_eq_false_iff_not,List.not_lt]at *;exact List.le_trans o h2
   ·rw[CR,CR];simp only[Bool.or_eq_true,Bool.not_eq_true',decide_eq_false_iff_not,List.not_lt];exact List.le_total _ _
  have C:(d.map (·.1)).Nodup:=(F.map _).nodup_iff.2 hnd;rw[List.pairwise_map];refine (E.and (List.pairwise_map.1 C)).imp λ{x y} h=>?_
  have o:=h.1;rw[CR]at o;simp only[Bool.not_eq_true',decide_eq_false_iff_not,List.not_lt]at o;rcases List.le_iff_lt_or_eq.1 o with h3|h3
  ·exact h3
  ·exact absurd h3 h.2
open Go.Maps Go.WideMaps Go.Sort Go.Shelf
theorem FT (gf:Nat) (lb:Array Value) (eg:∀args w,(callFunc gf args).run Tryz.prog w=.ok (.enter gf args) w) (S:List K32→Prop) (N:Nat) (hN:N≤1000000) (w:World)
  (hseq:SeqStopsK Fence.wide 2 Tryz.prog gf lb (λx:K32=>#[Ah x.1]) KeepsWalks S (λ_=>True) N w) :
  Calls Tryz.prog 79 #[.func (.func gf) #[] lb] w λe W'=>∃v xs,e=.returned v∧S xs∧Cz W' w.heap.size v xs∧Below w.heap.size w W':=by
 have o:Calls Tryz.prog 111 #[.slice none 0 0,.func (.func gf) #[] lb] w λe W'=>∃v xs,e=.returned v∧S xs∧Cz W' w.heap.size v xs∧Below w.heap.size w W' :=
  (callsIn_wide (n:=3)).1 (Gq Fence.wide 3 trivial rfl (by omega) gf lb trivial eg S N hN w hseq)
 have B:=QA o;clear o hseq;go_enter Tryz.func79,Tryz.ntmps79;go_wp2_with fail;refine B.out.mono ?_;rintro e w1 ⟨v,xs,rfl,hS,ho,hb⟩;obtain⟨E,D,rfl⟩:=BC ho;have C:=QA ho;have F:=QA hS;have A:=QA hb;clear ho hS hb;go_wp2_with fail;refine bodyPost_ret (v:=.slice E xs.length D) (by simp[results,Tryz.results79,go_sem]) rfl ?_;exact⟨_,xs,rfl,F.out,C.out,A.out⟩
theorem Fu (gf:Nat) (lb:Array Value) (eg:∀args w,(callFunc gf args).run Tryz.prog w=.ok (.enter gf args) w) (S:List K32→Prop) (N:Nat) (hN:N≤1000000) (w:World)
  (hseq:SeqStopsK Fence.wide 2 Tryz.prog gf lb (λx:K32=>#[Ah x.1]) KeepsWalks S (λ_=>True) N w) (hS:∀xs,S xs→(xs.map (·.1)).Nodup∧xs.length≤1000000000) :
  Calls Tryz.prog 53 #[.func (.func gf) #[] lb,.func (.func 55) #[] #[]] w λe W'=>∃v xs d,e=.returned v∧S xs∧d.Perm xs∧((d.map (·.1)).Pairwise λ(x y:List UInt8)=>x<y)∧Cz W' w.heap.size v d∧Below w.heap.size w W':=by
 have G:=QA (FT gf lb eg S N hN w hseq);clear hseq;go_enter Tryz.func53,Tryz.ntmps53;go_wp2_with fail;refine G.out.mono ?_;rintro e w1 ⟨v,xs,rfl,hSx,ho,hb⟩;obtain⟨J,I,rfl⟩:=BC ho;have H:=QA ho;have C:=QA hSx;have F:=QA hb;have B:=hb.size;clear ho hSx hb;go_wp2_with fail;refine (Iy _ xs w1 w.heap.size H.out B (hS xs C.out).2 (hS xs C.out).1).mono ?_;rintro e w2 ⟨rfl,d,hd,hp,ho2,hb2⟩;have D:=QA hd;have E:=QA hp;have o:=QA ho2;have A:=QA (F.out.trans hb2);clear hd hp ho2 hb2;go_wp2_with fail;refine bodyPost_ret (v:=.slice J xs.length I) (by simp[results,Tryz.results53,go_sem]) rfl ?_;exact⟨_,xs,d,rfl,C.out,D.out,E.out,o.out,A.out⟩
theorem GB (l:Sto.ME):Maps.size (Sto.datum l)=l.length:=Sto.datum_size l
theorem E6 (mb:Nat) (l:Sto.ME) (w:World) (G:Nat→Prop) (hm:A1 w G mb l) (hs:Sto.Srt (l.map (·.1))) (hl:l.length≤1000000) :
  Calls Tryz.prog 28 #[.map (some mb)] w λe w'=>∃v ks,e=.returned v∧Cz w' w.heap.size v ks∧ks.map (·.1)=l.map (λp=>p.1.1)∧Below w.heap.size w w':=by
 have B:(l.map λp=>p.1.1).Pairwise λ(x y:List UInt8)=>x<y:=by
  have:=hs;unfold Sto.Srt at this;rw[List.pairwise_map]at this ⊢;exact this
 have I:(l.map λp=>p.1.1).Nodup:=List.Pairwise.imp (λ{a b} (h:a<b) (e:a=b)=>by rw[e]at h;exact List.lt_irrefl _ h) B;have A:∀xs:List K32,Kx (Sto.datum l) (xs.map (·.1))→∀x,x∈xs.map (·.1)↔x∈l.map λp=>p.1.1:=λxs hx x=>by
  rw[hx.2 x,Sto.datum_has,List.any_eq_true,List.mem_map];constructor
  ·rintro⟨p,hp,e⟩;exact⟨p,hp,by simpa using e⟩
  ·rintro⟨p,hp,e⟩;exact⟨p,hp,by simpa using e⟩
 have J:Calls Tryz.prog 54 #[.map (some mb)] w λe w'=>e=.returned (.func (.func 81) #[] #[.pointer (some ⟨w.heap.size,0,none⟩)])∧w'=w.alloc (.cells #[.map (some mb)] 49) :=
  (callsIn_wide (n:=3)).1 (IM Fence.wide 3 trivial rfl (some mb) w)
 have D:Below w.heap.size w (w.alloc (.cells #[.map (some mb)] 49)):=(Below.refl _ _).alloc (QM _) _;have F:=hm.below D;have o:=keys_stops Fence.wide 2 trivial rfl (by omega) w.heap.size mb l.length l hm.key (w.alloc (.cells #[.map (some mb)] 49)) (by simp) (AA (AK w _) 0 _ rfl) F.map;rw[GB]at o;have R:=QA (Fu 81 #[.pointer (some ⟨w.heap.size,0,none⟩)] (enters_of Tryz.func81 (by kernel_rfl) rfl) _ l.length hl _ o (λxs hx=>⟨hx.1,by
  have:=((List.perm_ext_iff_of_nodup hx.1 I).2 (A xs hx)).length_eq;simp at this;omega⟩))
 have L:=QA J;have E:=QA D;clear J D F o;go_enter Tryz.func28,Tryz.ntmps28;go_wp2_with fail;refine L.out.mono ?_;rintro e w1 ⟨rfl,rfl⟩;go_wp2_with fail;refine R.out.mono ?_;rintro e w2 ⟨v,xs,d,rfl,hS,hp,hpw,ho,hb⟩;obtain⟨N,O,rfl⟩:=BC ho;have H:=E.out.size;have S:Hid (Cz w2 w.heap.size (.slice N d.length O) d):=QA (ownsRow_base_a ho H);have Q:=QA (E.out.trans (hb.mono H));have M:=QA hS;have P:=QA hp;have K:=QA hpw;clear ho hb hS hp hpw;go_wp2_with fail;refine bodyPost_ret (v:=.slice N d.length O) (by simp[results,Tryz.results28,go_sem]) rfl ?_;refine⟨_,d,rfl,S.out,?_,Q.out⟩;have C:(d.map (·.1)).Perm (l.map λp=>p.1.1):=(P.out.map _).trans ((List.perm_ext_iff_of_nodup M.out.1 I).2 (A xs M.out));exact C.eq_of_pairwise (le:=λ(x y:List UInt8)=>x<y) (λa b _ _ h1 h2=>(Sto.lt_asymm h1 h2).elim) K.out B
end Go.Proofs.YtjldahcckmmenaaGreatDoor
