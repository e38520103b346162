/-
  The file system: Create, walked. The file system: turn, Create, walked. The file system: Create, walked. The file system: Remove and Rename (plain). The file system: Used, walked (the directory comes in whatever order). The file system: Append, walked.
-/
import Derived.Test.YtjldahcckmmenaaGreatDoorZd4
import Derived.Maps.RangeWalk
import Derived.Sort.KeysCollected
import Derived.Test.YtjldahcckmmenaaGreatDoorZd2
open Array renaming getInternal_eq_getElem → QD
open Go.Lib renaming hid → QA
open List renaming setIfInBounds_toArray → QC, drop_succ_cons → QE, take_succ_cons → QF, set_cons_succ → QG, set_cons_zero → QH, getElem_cons_zero → QI, getElem_cons_succ → QJ, getElem_toArray → QK, drop_zero → QL, take_zero → QN, length_append → QS, mem_of_getElem? → QZ, getElem?_eq_getElem → ZG, getElem?_append_left → ZL, map_cons → ZP, mem_cons → ZX
open Nat renaming le_refl → QM, le_trans → QQ
namespace Go.Proofs.YtjldahcckmmenaaGreatDoor
set_option maxRecDepth 100000
set_option maxHeartbeats 4000000
set_option linter.unusedSimpArgs false
set_option linter.unusedVariables false
open Go Go.RowKit
open Go.Maps Go.WideMaps
theorem retag {base:Nat} {own:Nat→Tag} {τ:Tag} {w w':World} {t:TypeId} {sz n n':Nat} {v v':Value} {cs cs':List Value} (h:w.ownsRow base t sz v n cs) (h':w'.ownsRow base t sz v' n' cs') (hg:w.grownBy w' v.ownBlock)
  (hloc:v'.ownBlock=v.ownBlock∨v'.ownBlock=some w.heap.size) (ht:∀k,v.ownBlock=some k→own k=τ) (hfr:∀k,w.heap.size≤k→own k=.other) (hold:∀k,k<base→own k=.other) (hbase:base≤w.heap.size) :
  ∃own':Nat→Tag,(∀k,k<w.heap.size→own' k=own k)∧(∀k,v'.ownBlock=some k→own' k=τ)∧(∀k,w'.heap.size≤k→own' k=.other)∧(∀k,k<base→own' k=.other)∧Kept own (·=τ) w w':=by
 have o:Kept own (·=τ) w w':=(Kept.refl _ _ _).grown hg (λk o=>.inl (ht k o));rcases hloc with hl|hl
 ·exact⟨own,λ_ _=>rfl,λk hk2=>ht k (hl▸hk2),λk hk2=>hfr k (QQ hg.size hk2),hold,o⟩
 ·have A:=(AY h' _ hl).2;refine⟨Da own w.heap.size τ,λk hk2=>BI hk2,λk hk2=>?_,λk hk2=>?_,λk hk2=>?_,o⟩
  ·rw[hl]at hk2;simp only[Option.some.injEq]at hk2;rw[← hk2];exact B8
  ·unfold Da;rw[if_neg (by omega)];exact hfr k (by omega)
  ·rw[BI (by omega)];exact hold k hk2
theorem K2:(Tryz.prog.info? 120).map (λi=>(i.zero,i.size,i.bytes))=some (some (.pointer none),1,8):=by kernel_rfl
theorem LB:(Tryz.prog.info? 192).map (λi=>(i.zero,i.size,i.bytes))=some (some (.slice none 0 0),1,24):=by kernel_rfl
theorem Aa.more {base B:Nat} {st:Fs.St} {V:FsV} {own:Nat→Tag} {w w5:World} {fv':Value} (h:Aa base B st V own w)
  (hrow:w5.ownsRow base 120 1 fv' (st.files.length+1) ((V.fb.map λb=>(.pointer (some ⟨b,0,none⟩):Value))++[.pointer (some ⟨w.heap.size,0,none⟩)]))
  (hg:((w.alloc (.cells #[.slice none 0 0,.int .i64 0] 119)).alloc (.cells #[.pointer (some ⟨w.heap.size,0,none⟩)] 120)).grownBy w5 V.fv.ownBlock)
  (hloc:fv'.ownBlock=V.fv.ownBlock∨fv'.ownBlock=some ((w.alloc (.cells #[.slice none 0 0,.int .i64 0] 119)).alloc (.cells #[.pointer (some ⟨w.heap.size,0,none⟩)] 120)).heap.size) (hbase:base≤w.heap.size) :
  ∃own',Aa base B { st with files:=st.files++[([],0)] } { V with fv:=fv',fb:=V.fb++[w.heap.size],dv:=V.dv++[.slice none 0 0] } own' (w5.setCell ⟨B,4,none⟩ fv') ∧
   (∀k,k<w.heap.size→own' k=own k)∧Kept own (·≠.other) w (w5.setCell ⟨B,4,none⟩ fv'):=by
 have o:=h.at_;have Q:=AC o.root;have W:(w.alloc (.cells #[.slice none 0 0,.int .i64 0] 119)).heap.size=w.heap.size+1:=by simp
 have X:((w.alloc (.cells #[.slice none 0 0,.int .i64 0] 119)).alloc (.cells #[.pointer (some ⟨w.heap.size,0,none⟩)] 120)).heap.size=w.heap.size+2:=by simp
 have P:=AK w (.cells #[.slice none 0 0,.int .i64 0] 119);have N:((w.alloc (.cells #[.slice none 0 0,.int .i64 0] 119)).alloc (.cells #[.pointer (some ⟨w.heap.size,0,none⟩)] 120)).heap[w.heap.size]?=some (.cells #[.slice none 0 0,.int .i64 0] 119 (0,0)):=by
  rw[Lib.alloc_old _ _ _ (by omega)];exact P
 have J:Below w.heap.size w ((w.alloc (.cells #[.slice none 0 0,.int .i64 0] 119)).alloc (.cells #[.pointer (some ⟨w.heap.size,0,none⟩)] 120)) :=
  ((Below.refl _ _).alloc (QM _) _).alloc (by omega) _
 generalize hw4:((w.alloc (.cells #[.slice none 0 0,.int .i64 0] 119)).alloc (.cells #[.pointer (some ⟨w.heap.size,0,none⟩)] 120))=w4 at *
 have D:∀k,V.fv.ownBlock=some k→k<w.heap.size:=λk A=>(AY o.files k A).2
 have I:w4.ownsRow base 120 1 V.fv st.files.length (V.fb.map λb=>.pointer (some ⟨b,0,none⟩)):=AN o.files (λg hg2=>J.block g (D g hg2));have K:∀k,w4.heap.size≤k→Da own w.heap.size (.file st.files.length) k=.other:=λk A=>by
  unfold Da;rw[if_neg (by omega)];exact h.fresh k (by omega)
 obtain⟨own',R,S,U,T,A⟩:=retag (own:=Da own w.heap.size (.file st.files.length)) I hrow hg hloc (λk A=>by rw[BI (D k A)];exact o.tfiles k A) K
  (λk A=>by rw[BI (by omega)];exact h.old k A) (by omega)
 have F:∀k,k<w.heap.size→own' k=own k:=λk hk2=>(R k (by omega)).trans (BI hk2)
 have H:Kept own (·=.files) w w5:=by
  refine⟨A.os.trans J.os,A.tape.trans J.tape,A.output.trans J.output,QQ J.size A.size,λk hk2 ht=>?_⟩;rw[A.block k (by omega) (by rw[BI hk2];exact ht)];exact J.block k hk2
 have G:Kept own (λt=>t=.root∨t=.files) w (w5.setCell ⟨B,4,none⟩ fv'):=(H.mono (λt ht=>.inr ht)).setCell ⟨B,4,none⟩ (.inl o.tB) _;have C:=G.tags F;have L:w5.heap[B]?=some (.cells (BE st V) 63 (0,0)):=by rw[H.block B Q (by rw[o.tB];simp)];exact o.root
 have M:(w5.setCell ⟨B,4,none⟩ fv').heap[w.heap.size]?=some (.cells #[.slice none 0 0,.int .i64 0] 119 (0,0)):=by
  rw[Below.heap_setCell _ _ _ _ (show w.heap.size≠(⟨B,4,none⟩:Addr).block by simp;omega),A.block w.heap.size (by omega) (by rw[B8];simp)];exact N
 refine⟨own',⟨⟨heap_set L _,(F B Q).trans o.tB,o.lo,o.left,(o.plan.tags (λk A _=>F k A)).kept C (by simp),?_,S,?_,?_,?_,o.dir.heap (G.block _ o.dir.lt (by rw[o.tdir];simp)),(F _ o.dir.lt).trans o.tdir,
  o.sure.heap (G.block _ o.sure.lt (by rw[o.tsure];simp)),(F _ o.sure.lt).trans o.tsure,(o.chg.tags (λk A _=>F k A)).kept C (by simp) (by simp),?_,o.bl⟩,λk hk2=>U k ?_,T⟩,F,G.mono (λt ht=>by rcases ht with rfl|rfl<;>simp)⟩
 ·rw[QS,List.length_singleton,List.map_append];refine AN hrow (λg hg2=>Below.heap_setCell _ _ _ _ (λe=>?_));have E:=S g hg2;rw[e]at E;rw[show (⟨B,4,none⟩:Addr).block=B from rfl,F B Q,o.tB]at E;cases E
 ·simp[o.nfb]
 ·simp[o.ndv]
 ·intro i f b d E h2 h3;by_cases hi:i<st.files.length
  ·rw[ZL hi]at E;rw[ZL (by rw[o.nfb];exact hi)]at h2;rw[ZL (by rw[o.ndv];exact hi)]at h3;exact ((o.file i f b d E h2 h3).tags (λk A _=>F k A)).kept C (by simp) (by simp)
  ·have O:i=st.files.length:=by
    have:=(List.getElem?_eq_some_iff.1 E).1;simp at this;omega
   subst O;rw[List.getElem?_append_right (QM _),Nat.sub_self]at E;rw[← o.nfb,List.getElem?_append_right (QM _),Nat.sub_self]at h2;rw[← o.ndv,List.getElem?_append_right (QM _),Nat.sub_self]at h3;simp at E h2 h3;subst E h2 h3;exact⟨M,(R _ (by omega)).trans B8,World.ownsRow_nil _ _ _ _,λk hk2=>by simp[Value.ownBlock]at hk2⟩
 ·intro p hp;rw[QS,List.length_singleton];have:=o.known p hp;omega
 ·simpa [World.setCell] using hk2
open Go.Maps Go.WideMaps
theorem Fb (l:Fs.Names):∀(i:Nat) p,l[i]?=some p→(A0 l)[i*2]?=some (.string ⟨p.1.toArray⟩)∧(A0 l)[i*2+1]?=some (.int .i64 p.2):=by
 induction l with
 | nil=>intro i p h;simp at h
 | cons c l ih =>
  intro i p h;have e:A0 (c::l)=.string ⟨c.1.toArray⟩::.int .i64 c.2::A0 l:=rfl;rw[e]
  match i,h with
  | 0,h=>simp at h;subst h;exact⟨rfl,rfl⟩
  | i+1,h =>
   have:=ih i p (by simpa using h);rw[show (i+1)*2=i*2+1+1 by omega,show i*2+1+1+1=(i*2+1)+1+1 by omega]
   simpa using this
theorem Ij {w:World} {b cap:Nat} {cur:Array Value} {l:Fs.Names} (h:w.heap[b]?=some (.cells cur 168 (0,0))) (ht:cur.toList.take (l.length*2)=A0 l):Gg w (.slice (some ⟨b,0,none⟩) l.length cap) l:=by
 refine⟨b,cap,rfl,AC h,λi p hi=>?_⟩;obtain⟨o,A⟩:=Fb l i p hi;have B:i<l.length:=(List.getElem?_eq_some_iff.1 hi).1;rw[← ht,List.getElem?_take,if_pos (by omega)]at o A;constructor
 ·rw[Lib.cell_of_heap h];simpa using o
 ·rw[Lib.cell_of_heap h];simpa using A
theorem E0:∀(l d:Fs.Names) (p:List UInt8×Int),p∈Fs.doAll d l→p∈d∨(p∈l∧0≤p.2)
 | [],d,p,h=>.inl h
 | c::l,d,p,h=>by
  unfold Fs.doAll at h;rw[List.foldl_cons]at h;rcases E0 l _ p h with h1|⟨h1,h2⟩
  ·unfold Fs.doOne at h1;split at h1
   ·exact .inl ((List.mem_filter.1 h1).1)
   ·rename_i hn;have o:∀(x:List UInt8×Int) (m:Fs.Names),p∈Fs.mins x m→p=x∨p∈m:=by
     intro x m
     induction m with
     | nil=>intro h;simp[Fs.mins]at h;exact .inl h
     | cons y r ih =>
      intro h;unfold Fs.mins at h;split at h
      ·rcases ZX.1 h with h|h
       ·exact .inl h
       ·exact .inr h
      ·rcases ZX.1 h with h|h
       ·exact .inr (by rw[h];simp)
       ·rcases ih h with h|h
        ·exact .inl h
        ·exact .inr (by simp[h])
    rcases o _ _ h1 with h3|h3
    ·refine .inr ⟨by rw[h3];simp,by rw[h3];show 0≤c.2;omega⟩
    ·exact .inl ((List.mem_filter.1 h3).1)
  ·exact .inr ⟨by simp[h1],h2⟩
theorem Aa.turned {base B:Nat} {st:Fs.St} {V:FsV} {own:Nat→Tag} {w w3 w5:World} {cv':Value} {bC cap:Nat} {cur:Array Value} {l:Fs.Names} {vs:List Value} (h:Aa base B st V own w)
  (hC:w.heap[bC]?=some (.cells cur 168 (0,0))) (hCt:cur.toList.take (l.length*2)=A0 l) (hCo:own bC=.other) (hCb:base≤bC)
  (hB3:But (λk=>k=V.md) w w3) (hM:A5 w3 V.md (Fs.doAll st.dir l)) (hl:∀p∈l,p.2<st.files.length)
  (hvs1:w.ownsRow base 192 1 V.cv st.changes.length vs) (hvs2:∀k,V.cv.ownBlock=some k→own k=.chg) (hvs3:∀(i:Nat) x y,vs[i]?=some x→st.changes[i]?=some y→CV w own x y)
  (hrow:w5.ownsRow base 192 1 cv' (st.changes.length+1) (vs++[.slice (some ⟨bC,0,none⟩) l.length cap]))
  (hg:(w3.alloc (.cells #[.slice (some ⟨bC,0,none⟩) l.length cap] 192)).grownBy w5 V.cv.ownBlock)
  (hloc:cv'.ownBlock=V.cv.ownBlock∨cv'.ownBlock=some (w3.alloc (.cells #[.slice (some ⟨bC,0,none⟩) l.length cap] 192)).heap.size) (hbase:base≤w.heap.size) :
  ∃own',Aa base B { st with dir:=Fs.doAll st.dir l,changes:=st.changes++[l] } { V with cv:=cv' } own' (w5.setCell ⟨B,7,none⟩ cv') ∧
   (∀k,k<w.heap.size→k≠bC→own' k=own k)∧Kept own (·≠.other) w (w5.setCell ⟨B,7,none⟩ cv'):=by
 have o:=h.at_;have hB:=AC o.root;have R:=AC hC;have s4:(w3.alloc (.cells #[.slice (some ⟨bC,0,none⟩) l.length cap] 192)).heap.size=w3.heap.size+1:=by simp
 have O:But (λk=>k=V.md) w (w3.alloc (.cells #[.slice (some ⟨bC,0,none⟩) l.length cap] 192)):=hB3.alloc _;have T:A5 (w3.alloc (.cells #[.slice (some ⟨bC,0,none⟩) l.length cap] 192)) V.md (Fs.doAll st.dir l):=World.ownsMap.alloc hM _
 generalize (w3.alloc (.cells #[.slice (some ⟨bC,0,none⟩) l.length cap] 192))=w4 at *
 have L:∀k,V.cv.ownBlock=some k→k<w.heap.size:=λk A=>(AY hvs1 k A).2
 have N:∀k,V.cv.ownBlock=some k→k≠bC:=λk A e=>by
  have:=hvs2 k A;rw[e,hCo]at this;cases this
 have K:V.md≠bC:=λe=>by
  have:=o.tdir;rw[e,hCo]at this;cases this
 have M:w4.ownsRow base 192 1 V.cv st.changes.length vs:=AN hvs1 (λg hg2=>O.block g (L g hg2) (λe=>by
  have F:=hvs2 g hg2;rw[e,o.tdir]at F;cases F))
 have C:∀k,k≠bC→Da own bC .chgs k=own k:=λk A=>if_neg A
 have af:=hB3.size;have Z:=O.size;have Q:∀k,w4.heap.size≤k→Da own bC .chgs k=.other:=λk A=>by
  rw[C k (by omega)];exact h.fresh k (by omega)
 obtain⟨own',o1,o2,o3,o4,A⟩:=retag (own:=Da own bC .chgs) M hrow hg hloc (λk A=>by rw[C k (N k A)];exact hvs2 k A) Q
  (λk A=>by rw[C k (by omega)];exact h.old k A) (by omega)
 have S:∀k,k<w.heap.size→k≠bC→own' k=own k:=λk hk2 hne=>(o1 k (by omega)).trans (C k hne)
 have G:∀k,k<w.heap.size→own k≠.other→own' k=own k:=λk hk2 hx=>S k hk2 (λe=>hx (by rw[e];exact hCo))
 have ab:own' bC=.chgs:=(o1 bC (by omega)).trans B8;have I:Kept own (λt=>t=.dir∨t=.chg) w w5:=by
  refine⟨A.os.trans O.os,A.tape.trans O.tape,A.output.trans O.output,QQ Z A.size,λk hk2 ht=>?_⟩;have X:k≠V.md:=λe=>ht (.inl (by rw[e];exact o.tdir))
  rw[A.block k (by omega) (by
   by_cases e:k=bC
   ·rw[e,B8];simp
   ·rw[C k e];exact λx=>ht (.inr x))]
  exact O.block k hk2 X
 have D:Kept own (λt=>t=.root∨t=.dir∨t=.chg) w (w5.setCell ⟨B,7,none⟩ cv'):=(I.mono (λt ht=>.inr ht)).setCell ⟨B,7,none⟩ (.inl o.tB) _;have E:Kept own' (λt=>t=.root∨t=.dir∨t=.chg) w (w5.setCell ⟨B,7,none⟩ cv'):=D.tagsO G (by simp);have U:w5.heap[B]?=some (.cells (BE st V) 63 (0,0)):=by rw[I.block B hB (by rw[o.tB];simp)];exact o.root
 have H:∀k,own' k=.dir∨own' k=.chg∨own' k=.chgs→k≠B:=λk hx e=>by
  have F:=(G B hB (by rw[o.tB];simp)).trans o.tB;rw[e,F]at hx;simp at hx
 have J:own' V.md=.dir:=(G _ o.dir.lt (by rw[o.tdir];simp)).trans o.tdir;have P:(w5.setCell ⟨B,7,none⟩ cv').heap[V.md]?=w4.heap[V.md]?:=by
  rw[Below.heap_setCell _ _ _ _ (H _ (.inl J)),A.block V.md (by have:=o.dir.lt;omega) (by rw[C _ K,o.tdir];simp)]
 refine⟨own',⟨⟨heap_set U _,(G B hB (by rw[o.tB];simp)).trans o.tB,o.lo,o.left,(o.plan.tags G).kept E (by simp),
  AN o.files (λg hg2=>D.block g (AY o.files g hg2).2 (by rw[o.tfiles g hg2];simp)),λk hk2=>(G k (AY o.files k hk2).2 (by rw[o.tfiles k hk2];simp)).trans (o.tfiles k hk2),o.nfb,o.ndv,
  λi f b d F h2 h3=>((o.file i f b d F h2 h3).tags G).kept E (by simp) (by simp),T.heap P,J,o.sure.heap (D.block _ o.sure.lt (by rw[o.tsure];simp)),(G _ o.sure.lt (by rw[o.tsure];simp)).trans o.tsure,
  ?_,?_,o.bl⟩,λk hk2=>o3 k ?_,o4⟩,S,D.mono (λt ht=>by rcases ht with rfl|rfl|rfl<;>simp)⟩
 ·refine⟨vs++[.slice (some ⟨bC,0,none⟩) l.length cap],?_,o2,λi x y hx hy=>?_⟩
  ·rw[QS,List.length_singleton];exact AN hrow (λg hg2=>Below.heap_setCell _ _ _ _ (H g (.inr (.inl (o2 g hg2)))))
  ·have W:vs.length=st.changes.length:=by have:=hvs1.1;omega
   by_cases hi:i<st.changes.length
   ·rw[ZL (by omega)]at hx;rw[ZL hi]at hy;exact ((hvs3 i x y hx hy).tags G).kept E (by simp)
   ·have Y:i=st.changes.length:=by
     have:=(List.getElem?_eq_some_iff.1 hy).1;simp at this;omega
    subst Y;rw[← W,List.getElem?_append_right (QM _),Nat.sub_self]at hx;rw[List.getElem?_append_right (QM _),Nat.sub_self]at hy;simp at hx hy;subst hx hy;refine⟨bC,cap,cur,rfl,ab,?_,hCt⟩;rw[D.block bC R (by rw[hCo];simp)];exact hC
 ·intro p hp;rcases E0 _ _ _ hp with F|⟨F,h2⟩
  ·exact o.known p F
  ·exact⟨h2,hl p F⟩
 ·simpa [World.setCell] using hk2
namespace Fs
def create (st:St) (n:List UInt8):St×Int :=
 if good n=false then (st,7) else if mhas st.dir n then (st,4) else if 64≤st.dir.length then (st,8)
 else if (step st).2.2≠0 then ((step st).1,(step st).2.2)
 else ({ (step st).1 with files:=st.files++[([],0)],dir:=mput st.dir n st.files.length,changes:=st.changes++[[(n,(st.files.length:Int))]] },0)
theorem step_changes (st:St):(step st).1.changes=st.changes:=by unfold step;split<;>rfl
end Fs
theorem Bj {w:World} {base:Nat} {t:TypeId} {k n:Nat} {v:Value} {cs:List Value} (h:w.ownsRow base t k v n cs) (hn:0<n):∃g c,v=.slice (some ⟨g,0,none⟩) n c:=by
 rcases h.2 with⟨_,h2⟩|⟨g,cap,cur,hv,_⟩
 ·omega
 ·exact⟨g,cap,hv⟩
def JL (base B:Nat) (st:Fs.St) (own:Nat→Tag) (bC:Nat) (l:Fs.Names) (w w':World):Prop :=
 ∃V' own',Aa base B { st with dir:=Fs.doAll st.dir l,changes:=st.changes++[l] } V' own' w'∧(∀k,k<w.heap.size→k≠bC→own' k=own k)∧Kept own (·≠.other) w w'
theorem Ds (base B:Nat) (st:Fs.St) (V:FsV) (own:Nat→Tag) (bC cap:Nat) (cur:Array Value) (l:Fs.Names) (w:World) (h:Aa base B st V own w)
  (hC:w.heap[bC]?=some (.cells cur 168 (0,0))) (hCt:cur.toList.take (l.length*2)=A0 l) (hCo:own bC=.other) (hCb:base≤bC) (hbase:base≤w.heap.size)
  (hl:∀p∈l,p.1.length≤1000000∧-9223372036854775808≤p.2∧p.2<st.files.length) (hfl:st.files.length≤1000000) (hn:st.dir.length+l.length≤1000000) (hcl:st.changes.length≤1000000) :
  Calls Tryz.prog 98 #[.pointer (some ⟨B,0,none⟩),.slice (some ⟨bC,0,none⟩) l.length cap] w λe w'=>e=.returned (.tuple #[])∧JL base B st own bC l w w':=by
 obtain⟨W,hi,S,R,Q⟩:=info_parts LB;have x5:w.cell? ⟨B,5,none⟩=some (.map (some V.md)):=AA h.at_.root 5 _ rfl;have F:bC≠V.md:=λe=>by have:=h.at_.tdir;rw[← e,hCo]at this;cases this
 have I:B≠V.md:=λe=>by have C:=h.at_.tdir;rw[← e,h.at_.tB]at C;cases C
 have aa:B≠bC:=λe=>by have C:=h.at_.tB;rw[e,hCo]at C;cases C
 obtain⟨T,o,A,E⟩:=h.at_.chg;have P:=QA (Kv V.md st.dir l (.slice (some ⟨bC,0,none⟩) l.length cap) w h.at_.dir (Ij hC hCt) (λb n c e=>by
  simp only[Value.slice.injEq,Option.some.injEq]at e;rw[← e.1];exact F) (λc hc=>⟨(hl c hc).1,(hl c hc).2.1,by have:=(hl c hc).2.2;omega⟩) hn)
 have Y:=QA hl;have H:=QA h;have N:=QA hCt;clear h hl hCt;go_enter Tryz.func98,Tryz.ntmps98;go_wp2_with fail;refine P.out.mono ?_;rintro e w3 ⟨rfl,hM3,hB3⟩;have K:=AC H.out.at_.root;have G:w3.heap[B]?=some (.cells (BE st V) 63 (0,0)):=by rw[hB3.block B K I];exact H.out.at_.root
 have x7:w3.cell? ⟨B,7,none⟩=some V.cv:=AA G 7 _ rfl;have y7:=AE G 7;have D:w3.ownsRow base 192 1 V.cv st.changes.length T:=AN o (λg hg=>hB3.block g (AY o g hg).2 (λe=>by
  have C:=A g hg;rw[e,H.out.at_.tdir]at C;cases C))
 have ac:=hB3.size;have O:∀w5,(w3.alloc (.cells #[.slice (some ⟨bC,0,none⟩) l.length cap] 192)).grownBy w5 V.cv.ownBlock→w5.cell? ⟨B,7,none⟩=some V.cv∧w5.frozen? ⟨B,7,none⟩=false:=λw5 hgrow5=>by
  have L:w5.heap[B]?=some (.cells (BE st V) 63 (0,0)):=by
   rw[hgrow5.block B (by simp;omega) (λe=>by
    have C:=A B e.symm;rw[H.out.at_.tB]at C;cases C),Lib.alloc_old _ _ _ (by omega)]
   exact G
  exact⟨AA L 7 _ rfl,AE L 7⟩
 go_wp2_with (first|(at_builtin;refine wpList_append_own_at _ rfl _ _ 61 rfl base 192 W (.slice none 0 0) 1 24 Tryz.underlying61 hi S R Q rfl (by decide) V.cv st.changes.length T rfl (World.ownsRow.alloc D _) ⟨w3.heap.size,0,none⟩ 1 1 [.slice (some ⟨bC,0,none⟩) l.length cap] rfl rfl (cell_one_new _ _ _) (λu hu=>by simp at hu;subst hu;rfl) (by unfold maxLen;omega) (by omega) (by simp;omega) ?_;intro cv' w5 hown5 hgrow5 hnil5 hloc5;clear hnil5;obtain⟨ae,ab⟩:=O _ hgrow5;obtain⟨ga,ca,rfl⟩:=Bj hown5 (by omega);have J:=QA hloc5;clear hloc5)|fail);have U:=QA (H.out.turned hC N.out hCo hCb hB3 hM3 (λp hp=>(Y.out p hp).2.2) o A E hown5 hgrow5 J.out hbase);clear hown5 hgrow5 D o A E;go_wp2;go_end0;obtain⟨M,C,Z,X⟩:=U.out;exact⟨rfl,_,M,C,Z,X⟩
open Go.Maps Go.WideMaps
theorem Ia (d:Fs.Names) (n:List UInt8) (k:Nat):Fs.doAll d [(n,(k:Int))]=Fs.mput d n k:=by
 unfold Fs.doAll Fs.doOne;simp only[List.foldl_cons,List.foldl_nil];rw[if_neg (by omega)]
theorem EV (base B:Nat) (st:Fs.St) (V:FsV) (own:Nat→Tag) (s:ByteArray) (w:World) (h:Aa base B st V own w) (hs:s.size≤1000000) (hfl:st.files.length≤900000) (hcl:st.changes.length≤900000) (hdl:st.dir.length≤900000) :
  Calls Tryz.prog 85 #[.pointer (some ⟨B,0,none⟩),.string s] w λe w'=>e=.returned (.int .i64 (Fs.create st s.data.toList).2)∧AQ base B (Fs.create st s.data.toList).1 own w w':=by
 obtain⟨i0,hi,au,ar,ao⟩:=info_parts K2;have x5:w.cell? ⟨B,5,none⟩=some (.map (some V.md)):=AA h.at_.root 5 _ rfl;have D:Below w.heap.size w (w.alloc (.cells #[.string s] 9)):=(Below.refl _ _).alloc (QM _) _;have A:=keyOf_string_mk Tryz.underlying9 (s:=s) (show s.size≤maxLen by unfold maxLen;omega);have O:=QA (DW _ [s] (w.alloc (.cells #[.string s] 9)) (Fx (by simp) (Ak w _ _ 0 _ rfl)) (by simp) (by intro x hx;simp at hx;subst hx;omega));have ap:BZ [s]=Fs.good s.data.toList:=by simp[BZ]
 rw[ap]at O;have HM:=QA h.at_.dir;have U:=QA (h.at_.dir.heap (D.block _ h.at_.dir.lt));have aC:(w.alloc (.cells #[.string s] 9)).cell? ⟨B,5,none⟩=some (.map (some V.md)):=by rw[D.cell (Bz x5)];exact x5
 have o:=QA (h.kept (AB D));have X:=QA (Fs.datum_size st.dir);have G:=QA (Fs.datum_has st.dir s.data.toList);have H:=QA h;clear h;go_enter Tryz.func85,Tryz.ntmps85;cases hgd:Fs.good s.data.toList
 ·have L:Hid (Fs.create st s.data.toList=(st,7)):=by unfold Fs.create;rw[if_pos hgd];exact QA rfl
  rw[hgd]at O;clear hgd;go_wp2_with (first|(at_lookup;refine wpList_lookup_own_ok_int _ rfl _ _ 60 rfl 9 3 .i64 Ar Tryz.underlying60 Tryz.underlying3 (BN _) V.md _ _ rfl HM.out _ _ rfl A ?_;intro c hat hwc;clear hat hwc;rw[G.out])|fail);refine O.out.mono ?_;rintro e w2 ⟨rfl,hw2⟩;obtain rfl:=hw2.symm;go_wp2;go_ret;rw[L.out];exact⟨rfl,V,own,o.out,λ_ _=>rfl,AB D⟩
 ·rw[hgd]at O;cases hhas:Fs.mhas st.dir s.data.toList
  ·have S:Hid (Maps.has (Fs.datum st.dir) (.string s.data.toList)=false):=by rw[G.out];exact QA hhas
   by_cases h64:64≤st.dir.length
   ·have L:Hid (Fs.create st s.data.toList=(st,8)):=by unfold Fs.create;rw[if_neg (by rw[hgd];simp),if_neg (by rw[hhas];simp),if_pos h64];exact QA rfl
    have ah:(64:Int)≤(st.dir.length:Int):=by omega
    clear hgd hhas;go_wp2_with (first|(at_lookup;refine wpList_lookup_own_ok_int _ rfl _ _ 60 rfl 9 3 .i64 Ar Tryz.underlying60 Tryz.underlying3 (BN _) V.md _ _ rfl HM.out _ _ rfl A ?_;intro c hat hwc;clear hat hwc;rw[S.out])|fail);refine O.out.mono ?_;rintro e w2 ⟨rfl,hw2⟩;obtain rfl:=hw2.symm;go_wp2_with (first|(at_len;refine wpList_len_own _ rfl _ 60 rfl 9 3 Tryz.underlying60 _ V.md _ _ rfl U.out ?_;rw[X.out])|fail);go_ret;rw[L.out];exact⟨rfl,V,own,o.out,λ_ _=>rfl,AB D⟩
   ·have ah:(st.dir.length:Int)<64:=by omega
    by_cases hc:(Fs.step st).2.2=0
    ·have L:Hid (Fs.create st s.data.toList=({ (Fs.step st).1 with files:=st.files++[([],0)],dir:=Fs.mput st.dir s.data.toList st.files.length,changes:=st.changes++[[(s.data.toList,(st.files.length:Int))]] },0)):=by
      unfold Fs.create;rw[if_neg (by rw[hgd];simp),if_neg (by rw[hhas];simp),if_neg h64,if_neg (by simp[hc])];exact QA rfl
     have am:((Fs.step st).2.2 != 0)=false:=by rw[hc];rfl
     clear hgd hhas hc h64;go_wp2_with (first|(at_lookup;refine wpList_lookup_own_ok_int _ rfl _ _ 60 rfl 9 3 .i64 Ar Tryz.underlying60 Tryz.underlying3 (BN _) V.md _ _ rfl HM.out _ _ rfl A ?_;intro c hat hwc;clear hat hwc;rw[S.out])|fail);refine O.out.mono ?_;rintro e w2 ⟨rfl,hw2⟩;obtain rfl:=hw2.symm;go_wp2_with (first|(at_len;refine wpList_len_own _ rfl _ 60 rfl 9 3 Tryz.underlying60 _ V.md _ _ rfl U.out ?_;rw[X.out])|fail);refine (BV base B st V own _ o.out.at_).mono ?_;rintro e w2 ⟨pv,rfl,h2,hk2⟩;have P:Aa base B (Fs.step st).1 { V with pv:=pv } own w2:=⟨h2,λk hk=>o.out.fresh k (QQ hk2.size hk),H.out.old⟩
     have E:Kept own (·≠.other) w w2:=(AB D).trans (hk2.mono (λt ht=>by rw[ht];simp));have x4:w2.cell? ⟨B,4,none⟩=some V.fv:=AA h2.root 4 _ rfl;have K:=h2.files;have aB:=AC h2.root;have aA:=h2.lo;have M:base≤w2.heap.size:=by omega
     rw[Fs.step_files]at K;have ae:=QA K;have H2:=QA P;have ak:∀w5,((w2.alloc (.cells #[.slice none 0 0,.int .i64 0] 119)).alloc (.cells #[.pointer (some ⟨w2.heap.size,0,none⟩)] 120)).grownBy w5 V.fv.ownBlock→w5.cell? ⟨B,4,none⟩=some V.fv∧w5.frozen? ⟨B,4,none⟩=false:=λw5 hgrow5=>by
      have ag:w5.heap[B]?=some (.cells (BE (Fs.step st).1 { V with pv:=pv }) 63 (0,0)):=by
       rw[hgrow5.block B (by simp;omega) (λe=>by
        have h1:=H2.out.at_.tfiles B e.symm;rw[H.out.at_.tB]at h1;cases h1),Lib.alloc_old _ _ _ (by simp;omega),Lib.alloc_old _ _ _ (by omega)]
       exact H2.out.at_.root
      exact⟨AA ag 4 _ rfl,AE ag 4⟩
     have ad:∀j u,[(.pointer (some ⟨w2.heap.size,0,none⟩):Value)][j]?=some u→((w2.alloc (.cells #[.slice none 0 0,.int .i64 0] 119)).alloc (.cells #[.pointer (some ⟨w2.heap.size,0,none⟩)] 120)).cell? ((⟨w2.heap.size+1,0,none⟩:Addr).add j)=some u:=by
      have h9:=cell_one_new (w2.alloc (.cells #[.slice none 0 0,.int .i64 0] 119)) (.pointer (some ⟨w2.heap.size,0,none⟩)) 120;rw[show (w2.alloc (.cells #[.slice none 0 0,.int .i64 0] 119)).heap.size=w2.heap.size+1 by simp]at h9;exact h9
     have an:=QA ad;clear h2 P K ad;go_wp2_with (first|(at_builtin;refine wpList_append_own_at _ rfl _ _ 59 rfl base 120 i0 (.pointer none) 1 8 Tryz.underlying59 hi au ar ao rfl (by decide) V.fv st.files.length (V.fb.map λb=>.pointer (some ⟨b,0,none⟩)) rfl (World.ownsRow.alloc (World.ownsRow.alloc ae.out _) _) ⟨w2.heap.size+1,0,none⟩ 1 1 [.pointer (some ⟨w2.heap.size,0,none⟩)] rfl rfl an.out (λu hu=>by simp at hu;subst hu;rfl) (by unfold maxLen;omega) (by omega) (by simp;omega) ?_;intro fv' w5 hown5 hgrow5 hnil5 hloc5;clear hnil5;obtain⟨az,aF⟩:=ak _ hgrow5;obtain⟨Y,Z,rfl⟩:=Bj hown5 (by omega);have N:=QA hloc5;clear hloc5)|fail);have F:=Aa.more (V:={ V with pv:=pv }) H2.out (by rw[Fs.step_files];exact hown5) hgrow5 N.out M;rw[Fs.step_files]at F;obtain⟨R,J,af,T⟩:=F;have ai:(w5.setCell ⟨B,4,none⟩ (.slice (some ⟨Y,0,none⟩) (st.files.length+1) Z)).heap.size=w5.heap.size:=by simp[World.setCell]
     have I:=AK (w5.setCell ⟨B,4,none⟩ (.slice (some ⟨Y,0,none⟩) (st.files.length+1) Z)) (.cells #[.string s,.int .i64 (st.files.length:Int)] 168);have ac:Kept R (·=.other) (w5.setCell ⟨B,4,none⟩ (.slice (some ⟨Y,0,none⟩) (st.files.length+1) Z)) ((w5.setCell ⟨B,4,none⟩ (.slice (some ⟨Y,0,none⟩) (st.files.length+1) Z)).alloc (.cells #[.string s,.int .i64 (st.files.length:Int)] 168)):=(Kept.refl _ _ _).alloc _;have Q:=J.kept ac;have aj:=J.fresh w5.heap.size (by omega);have ab:=T.size;rw[ai]at I ab;have C:Kept own (·≠.other) w2 ((w5.setCell ⟨B,4,none⟩ (.slice (some ⟨Y,0,none⟩) (st.files.length+1) Z)).alloc (.cells #[.string s,.int .i64 (st.files.length:Int)] 168)):=T.alloc _;have aw:((w5.setCell ⟨B,4,none⟩ (.slice (some ⟨Y,0,none⟩) (st.files.length+1) Z)).alloc (.cells #[.string s,.int .i64 (st.files.length:Int)] 168)).heap.size=w5.heap.size+1:=by simp[World.setCell]
     have W:=QA (Ds base B _ _ R w5.heap.size 1 _ [(s.data.toList,(st.files.length:Int))] _ Q I (by simp[A0]) aj (by omega) (by omega)
      (by
       intro p hp;simp at hp;subst hp;simp only[QS,List.length_singleton];refine⟨hs,by omega,by omega⟩)
      (by simp;omega) (by simp[Fs.step_dir];omega) (by simp[Fs.step_changes];omega))
     clear J Q I ac hown5 hgrow5 T N;refine W.out.mono ?_;rintro e w8 ⟨rfl,V',own',hok',ho',hk'⟩;go_wp2;go_ret;rw[L.out];simp only[Fs.step_dir,Fs.step_changes,Ia]at hok';refine⟨rfl,V',own',hok',λk hk=>?_,?_⟩
     ·have aE:=E.size;rw[ho' k (by omega) (by omega),af k (by omega)]
     ·refine E.trans ?_;refine⟨hk'.os.trans C.os,hk'.tape.trans C.tape,hk'.output.trans C.output,QQ C.size hk'.size,λk hk ht=>?_⟩;rw[hk'.block k (by omega) (by rw[af k hk];exact ht)];exact C.block k hk ht
    ·have L:Hid (Fs.create st s.data.toList=((Fs.step st).1,(Fs.step st).2.2)):=by
      unfold Fs.create;rw[if_neg (by rw[hgd];simp),if_neg (by rw[hhas];simp),if_neg h64,if_pos hc];exact QA rfl
     have am:((Fs.step st).2.2 != 0)=true:=by rw[bne_iff_ne];exact hc
     clear hgd hhas hc h64;go_wp2_with (first|(at_lookup;refine wpList_lookup_own_ok_int _ rfl _ _ 60 rfl 9 3 .i64 Ar Tryz.underlying60 Tryz.underlying3 (BN _) V.md _ _ rfl HM.out _ _ rfl A ?_;intro c hat hwc;clear hat hwc;rw[S.out])|fail);refine O.out.mono ?_;rintro e w2 ⟨rfl,hw2⟩;obtain rfl:=hw2.symm;go_wp2_with (first|(at_len;refine wpList_len_own _ rfl _ 60 rfl 9 3 Tryz.underlying60 _ V.md _ _ rfl U.out ?_;rw[X.out])|fail);refine (BV base B st V own _ o.out.at_).mono ?_;rintro e w2 ⟨pv,rfl,h2,hk2⟩;have E:Kept own (·≠.other) w w2:=(AB D).trans (hk2.mono (λt ht=>by rw[ht];simp));go_wp2;go_ret;rw[L.out];exact⟨rfl,_,own,⟨h2,λk hk=>o.out.fresh k (QQ hk2.size hk),H.out.old⟩,λ_ _=>rfl,E⟩
  ·have aq:Hid (Maps.has (Fs.datum st.dir) (.string s.data.toList)=true):=by rw[G.out];exact QA hhas
   have L:Hid (Fs.create st s.data.toList=(st,4)):=by unfold Fs.create;rw[if_neg (by rw[hgd];simp),if_pos hhas];exact QA rfl
   clear hgd hhas;go_wp2_with (first|(at_lookup;refine wpList_lookup_own_ok_int _ rfl _ _ 60 rfl 9 3 .i64 Ar Tryz.underlying60 Tryz.underlying3 (BN _) V.md _ _ rfl HM.out _ _ rfl A ?_;intro c hat hwc;clear hat hwc;rw[aq.out])|fail);refine O.out.mono ?_;rintro e w2 ⟨rfl,hw2⟩;obtain rfl:=hw2.symm;go_wp2;go_ret;rw[L.out];exact⟨rfl,V,own,o.out,λ_ _=>rfl,AB D⟩
open Go.Maps Go.WideMaps
namespace Fs
def turned (st:St) (l:Names):St:={ st with dir:=doAll st.dir l,changes:=st.changes++[l] }
def remove (st:St) (n:List UInt8):St×Int :=
 if openE st n≠0 then (st,openE st n) else if (step st).2.2≠0 then ((step st).1,(step st).2.2) else (turned (step st).1 [(n,-1)],0)
def rename (st:St) (a b:List UInt8):St×Int :=
 if (good a&&good b)=false then (st,7) else if mhas st.dir a=false then (st,3)
 else if (step st).2.2≠0 then ((step st).1,(step st).2.2) else (turned (step st).1 [(a,-1),(b,mget st.dir a)],0)
end Fs
open Go.Maps Go.WideMaps
namespace Fs
def lenAt (st:St) (i:Int):Nat:=match st.files[i.toNat]? with|some f=>f.1.length|none=>0
def usedL (st:St) (l:Names):Nat:=(l.map λp=>lenAt st p.2).sum
def used (st:St):Nat:=usedL st st.dir
def leftL (left:Lit→Bool) (l:Names):Names:=l.filter λp=>left (.string p.1)
theorem left_all (l:Names):leftL (Maps.has (datum l)) l=l:=by
 unfold leftL;rw[List.filter_eq_self];intro p hp;rw[datum_has];unfold mhas;rw[List.any_eq_true];exact⟨p,hp,by simp⟩
theorem left_none (left:Lit→Bool) (h:∀kl,left kl=false) (l:Names):leftL left l=[]:=by
 unfold leftL;rw[List.filter_eq_nil_iff];intro p _;rw[h];simp
theorem left_step (st:St) (left:Lit→Bool) (x:List UInt8) (c:Int):∀l:Names,l.Pairwise (λp q=>p.1≠q.1)→(x,c)∈l→left (.string x)=true →
  usedL st (leftL left l)=lenAt st c+usedL st (leftL (λz=>left z&&!z.sameKey (.string x)) l)
 | [],_,h,_=>by simp at h
 | p::l,hnd,h,hl=>by
  rw[List.pairwise_cons]at hnd;have e:∀y:List UInt8,(λz:Lit=>left z&&!z.sameKey (.string x)) (.string y)=(left (.string y)&&!(y==x)):=λy=>rfl
  rcases ZX.1 h with h1|h1
  ·have C:p.1=x:=by rw[← h1]
   have E:p.2=c:=by rw[← h1]
   have A:leftL (λz=>left z&&!z.sameKey (.string x)) l=leftL left l:=by
    unfold leftL;apply List.filter_congr;intro q hq;have B:q.1≠x:=λo=>hnd.1 q hq (by rw[C,o])
    show (left (.string q.1)&&!(q.1==x))=left (.string q.1);simp[B]
   have D:leftL left (p::l)=p::leftL left l:=by
    unfold leftL;rw[List.filter_cons,if_pos (by rw[C];exact hl)]
   have o:leftL (λz=>left z&&!z.sameKey (.string x)) (p::l)=leftL (λz=>left z&&!z.sameKey (.string x)) l:=by
    unfold leftL;rw[List.filter_cons,if_neg (by show ¬(left (.string p.1)&&!(p.1==x))=true;rw[C];simp)]
   rw[D,o,A];unfold usedL;rw[ZP,List.sum_cons,E]
  ·have B:p.1≠x:=λo=>hnd.1 _ h1 o
   have F:=left_step st left x c l hnd.2 h1 hl;have G:(λz:Lit=>left z&&!z.sameKey (.string x)) (.string p.1)=left (.string p.1):=by
    show (left (.string p.1)&&!(p.1==x))=left (.string p.1);simp[B]
   cases hlp:left (.string p.1)
   ·have D:leftL left (p::l)=leftL left l:=by unfold leftL;rw[List.filter_cons,if_neg (by rw[hlp];simp)]
    have o:leftL (λz=>left z&&!z.sameKey (.string x)) (p::l)=leftL (λz=>left z&&!z.sameKey (.string x)) l:=by
     unfold leftL;rw[List.filter_cons,if_neg (by rw[G,hlp];simp)]
    rw[D,o];exact F
   ·have D:leftL left (p::l)=p::leftL left l:=by unfold leftL;rw[List.filter_cons,if_pos hlp]
    have o:leftL (λz=>left z&&!z.sameKey (.string x)) (p::l)=p::leftL (λz=>left z&&!z.sameKey (.string x)) l:=by
     unfold leftL;rw[List.filter_cons,if_pos (by rw[G];exact hlp)]
    rw[D,o];unfold usedL at F ⊢;rw[ZP,List.sum_cons,ZP,List.sum_cons,F];omega
theorem at_mem {l:Names} {x:List UInt8} {c:Int} (h:∀zd,(datum l).atKey (.string x) zd=.lit (.int .i64 c)):(x,c)∈l:=by
 have A:=h (.lit (.int .i64 c));unfold datum DataW.atKey at h A;simp only[List.find?_map]at h A;have e:((λp:Lit×DataW Unit=>p.1.sameKey (.string x))∘ent)=λp=>p.1==x:=rfl
 rw[e]at h;cases hf:l.find? (λp=>p.1==x) with
 | none =>
  have:=h .nil;rw[hf]at this;cases this
 | some p =>
  have o:=h .nil;rw[hf]at o;simp only[Option.map_some,ent,DataW.lit.injEq,Lit.int.injEq,true_and]at o;have B:=List.find?_some hf;have C:=List.mem_of_find?_eq_some hf;have:p=(x,c):=by
   have:p.1=x:=by simpa using B
   rw[← this,← o]
  rw[← this];exact C
theorem sum_le (st:St) (M:Nat) (hM:∀f∈st.files,f.1.length≤M):∀l:Names,usedL st l≤l.length*M
 | []=>Nat.zero_le _
 | p::l=>by
  have o:=sum_le st M hM l;have A:lenAt st p.2≤M:=by
   unfold lenAt;cases hf:st.files[p.2.toNat]? with
   | none=>exact Nat.zero_le _
   | some f=>exact hM f (QZ hf)
  unfold usedL at o ⊢;rw[ZP,List.sum_cons,List.length_cons,Nat.succ_mul];omega
end Fs
theorem Jy (base B:Nat) (st:Fs.St) (V:FsV) (own:Nat→Tag) (w:World) (h:Aa base B st V own w) (hlen:∀f∈st.files,f.1.length≤1000000) (hdl:st.dir.length≤900000) (hfl:st.files.length≤900000) :
  Calls Tryz.prog 26 #[.pointer (some ⟨B,0,none⟩)] w λe w'=>e=.returned (.int .i64 (Fs.used st))∧Below w.heap.size w w':=by
 have x5:w.cell? ⟨B,5,none⟩=some (.map (some V.md)):=AA h.at_.root 5 _ rfl;have Y:w.cell? ⟨B,4,none⟩=some V.fv:=AA h.at_.root 4 _ rfl;have HM:=QA h.at_.dir;have am:=h.at_.dir.lt;have M:=AC h.at_.root;have Z:=QA h.at_.dir.nodup;have H:=QA h;have D:Fs.used st≤900000*1000000:=by
  have F:=Fs.sum_le st 1000000 hlen st.dir;have h2:=Nat.mul_le_mul_right 1000000 hdl;exact QQ F h2
 have W:Fs.used st≤1000000000000:=QQ D (by decide);clear h D;go_enter Tryz.func26,Tryz.ntmps26;go_wp2_with (first|(at_range;refine wpList_range_own _ rfl _ 60 rfl 9 3 Ar Tryz.underlying60 _ V.md _ _ rfl HM.out ?_;intro w0 hrg0 hg0 hs0)|fail)
 go_frame
 go_loopg [3] (Maps.size (Fs.datum st.dir)) (λk s3 wr=>∃(left:Lit→Bool) (n:Nat),wr.ranges Tryz.prog 9 (plainElem (H:=Unit) Tryz.prog 3) V.md w.heap.size st.dir.length (Fs.datum st.dir) left k∧s3=.int .i64 (n:Nat) ∧
  n+Fs.usedL st (Fs.leftL left st.dir)=Fs.used st∧Below w.heap.size w wr)
 case atStart =>
  refine⟨_,0,hrg0,rfl,?_,?_⟩
  ·rw[Fs.left_all];simp[Fs.used]
  ·exact (Below.refl _ _).grown hg0 (QM _) (λk hk=>by cases hk)
 case round =>
  obtain⟨left,n,I,rfl,C,hB⟩:=hrel;have E:=QA C;have aj:n≤1000000000000:=by omega
  clear C hs0 hg0 hrg0;go_wp2_with (first|(at_next;refine wpList_next_ranges _ rfl _ rfl 9 Ar (plainElem (H:=Unit) Tryz.prog 3) encStr (Value.int .i64) (λkey kl hk=>by obtain⟨x,hx,_⟩:=Maps.keyOf_str Tryz.underlying9 hk;exact⟨x,hx⟩) (λv y hv=>by obtain⟨c,rfl,_⟩:=plainElem_int_inv Tryz.underlying3 hv;exact⟨c,rfl⟩) V.md w.heap.size _ _ _ _ rfl I ?_ ?_)|fail)
  ·intro _ hl0;have hn:n=Fs.used st:=by
    rw[← E.out,Fs.left_none left hl0];rfl
   clear I hl0;subst hn;go_wp2;go_ret;exact⟨rfl,hB⟩
  ·intro x c kl yd yp w2 cnt2 hkey hlk hv hat hrg2 hlt2 hg2 hs2 hen;obtain⟨x',ex,rfl,_⟩:=Maps.keyOf_str Tryz.underlying9 hkey;obtain rfl:x=x':=encStr_inj ex;obtain⟨c',ec,N,_⟩:=plainElem_int_inv Tryz.underlying3 hv;simp only[Value.int.injEq,true_and]at ec;subst ec;simp only[Prod.mk.injEq]at N;obtain⟨rfl,-⟩:=N;have o:=Fs.at_mem hat;obtain⟨O,K⟩:=H.out.at_.known _ o;obtain⟨i,rfl⟩:∃i:Nat,c=(i:Int):=⟨c.toNat,by simp at O;omega⟩
   have G:i<st.files.length:=by simp at K;exact K
   have S:=QA (Fs.left_step st left x (i:Int) st.dir Z.out o hlk);have A:Below w.heap.size w w2:=hB.grown hg2 hB.size (λk hk=>by cases hk;exact QM _);obtain⟨f,R⟩:∃f,st.files[i]?=some f:=⟨_,ZG G⟩
   obtain⟨b,hb⟩:∃b,V.fb[i]?=some b:=⟨_,ZG (by rw[H.out.at_.nfb];exact G)⟩
   obtain⟨d,hd⟩:∃d,V.dv[i]?=some d:=⟨_,ZG (by rw[H.out.at_.ndv];exact G)⟩
   have HF:=H.out.at_.file i f b d R hb hd;obtain⟨g,cap,P,J⟩:∃g cap,V.fv=.slice (some ⟨g,0,none⟩) st.files.length cap∧w.cell? ⟨g,i,none⟩=some (.pointer (some ⟨b,0,none⟩)):=by
    rcases H.out.at_.files.2 with⟨F,h2⟩|⟨g,cap,cur,F,_⟩
    ·omega
    ·exact⟨g,cap,F,by rw[← addr_add];exact World.ownsRow.cells H.out.at_.files (by rw[F];rfl) _ _ (E7 _ _ _ hb)⟩
   obtain⟨da,dc,L⟩:∃a c,d=.slice a f.1.length c:=by
    rcases HF.row.2 with⟨e1,e2⟩|⟨g,cap,cur,e1,_⟩
    ·exact⟨none,0,by rw[e1,e2]⟩
    ·exact⟨_,_,e1⟩
   have T:w.cell? ⟨b,0,none⟩=some (.slice da f.1.length dc):=by rw[← L];exact AA HF.blk 0 _ rfl
   have ae:=hlen f (QZ R);rw[P]at Y;have z4:w2.cell? ⟨B,4,none⟩=some (.slice (some ⟨g,0,none⟩) st.files.length cap):=by rw[A.cell M];exact Y
   have zg:w2.cell? ⟨g,i,none⟩=some (.pointer (some ⟨b,0,none⟩)):=by rw[A.cell (Bz J)];exact J
   have zb:w2.cell? ⟨b,0,none⟩=some (.slice da f.1.length dc):=by rw[A.cell (Bz T)];exact T
   have Q:Fs.lenAt st (i:Int)=f.1.length:=by unfold Fs.lenAt;simp[R]
   have al:(0:Int)≤(i:Int):=Int.natCast_nonneg _;have ap:(i:Int)<(st.files.length:Int):=by omega
   have X:=QA Q;have U:=QA hrg2;clear hs2 o hkey hat hv Q P L I hrg2 HF R hb hd hg2 T J Y O K hlk;go_wp2;go_roundg cnt2
   case measure=>exact hlt2
   case rel =>
    refine⟨_,n+f.1.length,U.out,?_,?_,A⟩
    ·go_num
    ·have F:=E.out;rw[S.out,X.out]at F;omega
open Go.Maps Go.WideMaps
namespace Fs
def grow (l:List (List UInt8×Nat)) (i:Nat) (b:List UInt8):List (List UInt8×Nat):=match l[i]? with|some f=>l.set i (f.1++b,f.2)|none=>l
def fileAt (st:St) (n:List UInt8):List UInt8:=match st.files[idx st n]? with|some f=>f.1|none=>[]
def append (st:St) (n b:List UInt8):St×Int :=
 if openE st n≠0 then (st,openE st n)
 else if 65536<(fileAt st n).length+b.length then (st,5)
 else if (step st).2.2≠0 then
  (if 2<(step st).2.1 then ({ (step st).1 with files:=grow st.files (idx st n) (b.take (min (min ((step st).2.1-3) b.length) (max 0 (st.room-used st))).toNat) },(step st).2.2) else ((step st).1,(step st).2.2))
 else if st.room-used st<b.length then ((step st).1,21)
 else ({ (step st).1 with files:=grow st.files (idx st n) b },0)
end Fs
def BytesIn (w:World) (own:Nat→Tag) (v:Value) (l:List UInt8):Prop :=
 ∃g o c,v=.slice (some ⟨g,o,none⟩) l.length c∧l.length≤c∧g<w.heap.size∧own g=.other∧∀(i:Nat) (x:UInt8),l[i]?=some x→w.cell? ⟨g,o+i,none⟩=some (.int .u8 x.toNat)
theorem BytesIn.kept {w w':World} {own:Nat→Tag} {v:Value} {l:List UInt8} {T:Tag→Prop} (h:BytesIn w own v l) (hk:Kept own T w w') (hT:¬T .other):BytesIn w' own v l:=by
 obtain⟨g,o,c,C,D,B,A,E⟩:=h;exact⟨g,o,c,C,D,Nat.lt_of_lt_of_le B hk.size,A,λi x hi=>by rw[World.cell?_of_block (hk.block g B (by rw[A];exact hT))];exact E i x hi⟩
theorem DJ (g o k:Nat):(⟨g,o,none⟩:Addr).add k=⟨g,o+k,none⟩:=by
 by_cases h:k=0
 ·subst h;simp[Addr.add]
 ·simp[Addr.add,h]
theorem BC {w:World} {base:Nat} {t:TypeId} {k n:Nat} {v:Value} {cs:List Value} (h:w.ownsRow base t k v n cs):∃a c,v=.slice a n c:=by
 rcases h.2 with⟨h1,h2⟩|⟨g,cap,cur,hv,_⟩
 ·exact⟨none,0,by rw[h1,h2]⟩
 ·exact⟨_,_,hv⟩
theorem Aa.appended {base B:Nat} {st:Fs.St} {V:FsV} {own:Nat→Tag} {w w5:World} (h:Aa base B st V own w) {i b:Nat} {f:List UInt8×Nat} {d d':Value} {l:List UInt8} (hf:st.files[i]?=some f) (hb:V.fb[i]?=some b)
  (hd:V.dv[i]?=some d) (hrow:w5.ownsRow base 5 1 d' (f.1.length+l.length) (AV f.1++AV l)) (hg:w.grownBy w5 d.ownBlock) (hloc:d'.ownBlock=d.ownBlock∨d'.ownBlock=some w.heap.size) (hbase:base≤w.heap.size) :
  ∃own',Aa base B { st with files:=st.files.set i (f.1++l,f.2) } { V with dv:=V.dv.set i d' } own' (w5.setCell ⟨b,0,none⟩ d')∧(∀k,k<w.heap.size→own' k=own k)∧Kept own (·≠.other) w (w5.setCell ⟨b,0,none⟩ d'):=by
 have A:=h.at_.file i f b d hf hb hd;obtain⟨own',F,J,M,L,G⟩:=retag A.row hrow hg hloc A.tagD h.fresh h.old hbase;have K:=h.at_.tags (own':=own') (λk G _=>F k G);have o:=AC A.blk;have C:own' b=.file i:=(F b o).trans A.tag;have D:Kept own (λt=>t=.file i∨t=.data i) w (w5.setCell ⟨b,0,none⟩ d'):=(G.mono (λt ht=>.inr ht)).setCell ⟨b,0,none⟩ (.inl A.tag) _;have E:=D.tags F;have H:w5.heap[b]?=some (.cells #[d,.int .i64 f.2] 119 (0,0)):=by rw[G.block b o (by rw[A.tag];simp)];exact A.blk
 refine⟨own',⟨K.file1 (f':=(f.1++l,f.2)) (d':=d') hf hb hd E ⟨heap_set H _,C,?_,J⟩,λk hk2=>M k (by simpa [World.setCell] using hk2),L⟩,F,D.mono (λt ht=>by rcases ht with rfl|rfl<;>simp)⟩;show World.ownsRow _ _ _ _ _ (f.1++l).length (AV (f.1++l));have N:AV (f.1++l)=AV f.1++AV l:=by simp[AV]
 rw[QS,N];refine AN hrow (λg hg2=>Below.heap_setCell _ _ _ _ (λe=>?_));have I:=J g hg2;rw[e,C]at I;cases I
theorem EE (base B:Nat) (st:Fs.St) (V:FsV) (own:Nat→Tag) (s:ByteArray) (bv:Value) (l:List UInt8) (w:World) (h:Aa base B st V own w) (hbv:BytesIn w own bv l) (hs:s.size≤1000000)
  (hlen:∀f∈st.files,f.1.length≤65536) (hll:l.length≤1000000) (hdl:st.dir.length≤900000) (hfl:st.files.length≤900000) (hrm:0≤st.room∧st.room≤1048576) (hhow:(Fs.step st).2.1≤9223372036854775807) (hbase:base≤w.heap.size) :
  Calls Tryz.prog 64 #[.pointer (some ⟨B,0,none⟩),.string s,bv] w λe w'=>e=.returned (.int .i64 (Fs.append st s.data.toList l).2)∧AQ base B (Fs.append st s.data.toList l).1 own w w':=by
 obtain⟨i0,hi,aC,ay,ar⟩:=info_parts Ey;obtain⟨S,U,Y,rfl,ak,aQ,aJ,aa⟩:=hbv;have HB:=QA (show BytesIn w own (.slice (some ⟨S,U,none⟩) l.length Y) l from ⟨S,U,Y,rfl,ak,aQ,aJ,aa⟩);have H:=QA h;have aL:Fs.used st≤1000000000000:=by
  have h1:=Fs.sum_le st 65536 hlen st.dir;have h2:=Nat.mul_le_mul_right 65536 hdl;exact QQ (QQ h1 h2) (by decide)
 clear h aa;go_enter Tryz.func64,Tryz.ntmps64;go_wp2_with fail;refine (C3 base B st V own s w H.out.at_ hs).mono ?_;rintro e w1 ⟨hb1,hres⟩;have aR:Kept own (·=.root) w w1:=AB hb1;have H1:=QA (H.out.kept (AB hb1));rcases hres with⟨h0,f,b,d,hf,hb,hd,rfl⟩|⟨h0,rfl⟩
 ·have HF:=QA (H1.out.at_.file (Fs.idx st s.data.toList) f b d hf hb hd);have P:Fs.fileAt st s.data.toList=f.1:=by unfold Fs.fileAt;rw[hf]
  have aY:=hlen f (QZ hf);obtain⟨L,I,ah⟩:∃a c,d=.slice a f.1.length c:=by
   rcases HF.out.row.2 with⟨W,e2⟩|⟨g,cap,cur,W,_⟩
   ·exact⟨none,0,by rw[W,e2]⟩
   ·exact⟨_,_,W⟩
  have x0:w1.cell? ⟨b,0,none⟩=some (.slice L f.1.length I):=by rw[← ah];exact AA HF.out.blk 0 _ rfl
  have D:=QA ah;clear ah;by_cases hlong:65536<f.1.length+l.length
  ·have G:Hid (Fs.append st s.data.toList l=(st,5)):=by unfold Fs.append;rw[if_neg (by simp[h0]),P,if_pos hlong];exact QA rfl
   have aO:(65536:Int)<(f.1.length:Int)+(l.length:Int):=by omega
   go_wp2;go_ret;rw[G.out];exact⟨rfl,V,own,H1.out,λ_ _=>rfl,AB hb1⟩
  ·have aO:(f.1.length:Int)+(l.length:Int)≤65536:=by omega
   have x3:w1.cell? ⟨B,3,none⟩=some (.int .i64 st.room):=AA H1.out.at_.root 3 _ rfl;have aI:∀x:Later w1,x.1.cell? ⟨B,3,none⟩=some (.int .i64 st.room):=λx=>Later.cell x3 x
   have HU:∀x:Later w1,Calls Tryz.prog 26 #[.pointer (some ⟨B,0,none⟩)] x.1 λe w'=>e=.returned (.int .i64 (Fs.used st))∧Below x.1.heap.size x.1 w':=λx =>
    Jy base B st V own x.1 (H1.out.kept (AB x.2)) (λf hf=>by have:=hlen f hf;omega) hdl hfl
   have av:=QA HU;clear HU;go_wp2_with fail;refine Dp (by kernel_rfl) (by kernel_rfl) ?_
   repeat (go_big_quiet_step ((exact Later.call (v:=.int .i64 (Fs.used st)) (av.out _))))
   refine wpQuiet_nil ?_;rintro w1b ⟨⟨_,hb1b⟩,rfl⟩;have az:=QA (H1.out.kept (AB hb1b));have X:Below w.heap.size w w1b:=hb1.trans (hb1b.mono hb1.size);clear av aI x3 x0;go_wp2_with fail;refine (BV base B st V own w1b az.out.at_).mono ?_;rintro e w2 ⟨pv,rfl,h2,hk2⟩;have K:Kept own (·≠.other) w w2:=(AB X).trans (hk2.mono (λt ht=>by rw[ht];simp));have T:Kept own (·=.root) w w2:=(AB X).trans hk2;have ap:∀k,w2.heap.size≤k→own k=.other:=λk hk=>az.out.fresh k (QQ hk2.size hk)
   have H2:=QA (show Aa base B (Fs.step st).1 { V with pv:=pv } own w2 from ⟨h2,ap,H.out.old⟩);clear h2;by_cases hc:(Fs.step st).2.2=0
   ·have ad:((Fs.step st).2.2 != 0)=false:=by rw[hc];rfl
    by_cases hroom:st.room-Fs.used st<l.length
    ·have G:Hid (Fs.append st s.data.toList l=((Fs.step st).1,21)):=by
      unfold Fs.append;rw[if_neg (by simp[h0]),P,if_neg hlong,if_neg (by simp[hc]),if_pos hroom];exact QA rfl
     clear hc;go_wp2;go_ret;rw[G.out];exact⟨rfl,_,own,H2.out,λ_ _=>rfl,K⟩
    ·have G:Hid (Fs.append st s.data.toList l=({ (Fs.step st).1 with files:=Fs.grow st.files (Fs.idx st s.data.toList) l },0)):=by
      unfold Fs.append;rw[if_neg (by simp[h0]),P,if_neg hlong,if_neg (by simp[hc]),if_neg hroom];exact QA rfl
     have aD:(l.length:Int)≤st.room-Fs.used st:=by omega
     have af:Hid (Fs.grow st.files (Fs.idx st s.data.toList) l=(Fs.step st).1.files.set (Fs.idx st s.data.toList) (f.1++l,f.2)):=by
      unfold Fs.grow;rw[hf,Fs.step_files];exact QA rfl
     have C:=QA (H2.out.at_.file (Fs.idx st s.data.toList) f b d (by rw[Fs.step_files];exact hf) hb hd);have y0:w2.cell? ⟨b,0,none⟩=some (.slice L f.1.length I):=by rw[← D.out];exact AA C.out.blk 0 _ rfl
     have E:w2.ownsRow base 5 1 (.slice L f.1.length I) f.1.length (AV f.1):=by rw[← D.out];exact C.out.row
     have M:=QA E;have A:∀j u,(AV l)[j]?=some u→w2.cell? ((⟨S,U,none⟩:Addr).add j)=some u:=λj u hj=>by
      rw[DJ];obtain⟨g,o,c,W,_,e2,e3,e4⟩:=HB.out.kept T (by simp);simp only[Value.slice.injEq,Option.some.injEq,Addr.mk.injEq,and_true]at W;obtain⟨⟨rfl,rfl⟩,-⟩:=W;unfold AV at hj;rw[List.getElem?_map]at hj;cases hx:l[j]? with
      | none=>rw[hx]at hj;cases hj
      | some x =>
       rw[hx]at hj;simp at hj;rw[← hj];exact e4 j x hx
     have ac:=QA A;have aq:=T.size;have ag:∀w5,w2.grownBy w5 (Value.slice L f.1.length I).ownBlock→w5.cell? ⟨b,0,none⟩=some (.slice L f.1.length I)∧w5.frozen? ⟨b,0,none⟩=false:=λw5 hg5=>by
      have O:w5.heap[b]?=some (.cells #[d,.int .i64 f.2] 119 (0,0)):=by
       rw[hg5.block b (AC C.out.blk) (λe=>by
        have h1:=C.out.tagD b (by rw[D.out];exact e.symm);rw[C.out.tag]at h1;cases h1)]
       exact C.out.blk
      exact⟨by rw[← D.out];exact AA O 0 _ rfl,AE O 0⟩
     clear hc E A hroom hlong;go_wp2_with (first|(at_builtin;refine wpList_append_own_at _ rfl _ _ 41 rfl base 5 i0 (.int .u8 0) 1 1 Tryz.underlying41 hi aC ay ar rfl (by decide) (.slice L f.1.length I) f.1.length (AV f.1) rfl M.out ⟨S,U,none⟩ l.length Y (AV l) rfl (by rw[BP];omega) ac.out (BS l) (by unfold maxLen;omega) (by omega) (by omega) ?_;intro d' w5 hown5 hgrow5 hnil5 hloc5;clear hnil5;obtain⟨aA,aP⟩:=ag _ hgrow5;obtain⟨aK,aM,al⟩:=BC hown5;subst al;have Q:=QA hloc5;clear hloc5)|fail);go_ret;have am:=Aa.appended (V:={ V with pv:=pv }) H2.out (by rw[Fs.step_files];exact hf) hb hd hown5 (by rw[D.out];exact hgrow5) (by rw[D.out];exact Q.out) (by omega);obtain⟨N,R,ae,ai⟩:=am;rw[G.out,af.out];refine⟨rfl,_,N,R,λk hk=>ae k (by omega),K.trans ai⟩
   ·have ad:((Fs.step st).2.2 != 0)=true:=by rw[bne_iff_ne];exact hc
    by_cases hw:(Fs.step st).2.1≤2
    ·have G:Hid (Fs.append st s.data.toList l=((Fs.step st).1,(Fs.step st).2.2)):=by
      unfold Fs.append;rw[if_neg (by simp[h0]),P,if_neg hlong,if_pos hc,if_neg (by omega)];exact QA rfl
     go_wp2;go_ret;rw[G.out];exact⟨rfl,_,own,H2.out,λ_ _=>rfl,K⟩
    ·have aB:2<(Fs.step st).2.1:=by omega
     have G:Hid (Fs.append st s.data.toList l=({ (Fs.step st).1 with files:=Fs.grow st.files (Fs.idx st s.data.toList) (l.take (min (min ((Fs.step st).2.1-3) l.length) (max 0 (st.room-Fs.used st))).toNat) },(Fs.step st).2.2)):=by
      unfold Fs.append;rw[if_neg (by simp[h0]),P,if_neg hlong,if_pos hc,if_pos aB];exact QA rfl
     obtain⟨F,aw⟩:∃h,h=(Fs.step st).2.1:=⟨_,rfl⟩
     obtain⟨cd,aj⟩:∃h,h=(Fs.step st).2.2:=⟨_,rfl⟩
     obtain⟨left,au⟩:∃x:Int,x=st.room-Fs.used st:=⟨_,rfl⟩
     rw[← aw]at aB hhow G ⊢;rw[← aj]at ad G ⊢;rw[← au]at G ⊢;have a5:=QA aj;clear hc hw aw au aj hlong;have a4:IntKind.i64.wrap (F-3)=F-3:=by rw[IntKind.wrap_i64];omega
     have C:=QA (H2.out.at_.file (Fs.idx st s.data.toList) f b d (by rw[Fs.step_files];exact hf) hb hd);have y0:w2.cell? ⟨b,0,none⟩=some (.slice L f.1.length I):=by rw[← D.out];exact AA C.out.blk 0 _ rfl
     go_wp2_with fail;refine AM (λw'=>w'.cell? ⟨b,0,none⟩=some (.slice L f.1.length I)) 15 (by kernel_rfl) ?_;have J:w2.drew.cell? ⟨b,0,none⟩=some (.slice L f.1.length I):=y0;refine TK (i:=0) (v:=(.pointer (some ⟨b,0,none⟩))) rfl (Or.inl ⟨by rfl,λw hSw=>by go_simp⟩) J ?_;simp only[Act.put,QD,QK,QI,QJ,QC,QH,QG];refine TK (i:=1) (v:=(.pointer (some ⟨b,0,none⟩))) rfl (Or.inl ⟨by rfl,λw hSw=>by go_simp⟩) J ?_;simp only[Act.put,QD,QK,QI,QJ,QC,QH,QG];refine TK (i:=2) (v:=(.pointer (some ⟨b,0,none⟩))) rfl (Or.inl ⟨by rfl,λw hSw=>by go_simp⟩) J ?_;simp only[Act.put,QD,QK,QI,QJ,QC,QH,QG];refine TK (i:=3) (v:=(.pointer (some ⟨b,0,none⟩))) rfl (Or.inl ⟨by rfl,λw hSw=>by go_simp⟩) J ?_;simp only[Act.put,QD,QK,QI,QJ,QC,QH,QG];refine TK (i:=4) (v:=(.slice L f.1.length I)) rfl (Or.inl ⟨by rfl,λw hSw=>by go_simp⟩) J ?_;simp only[Act.put,QD,QK,QI,QJ,QC,QH,QG];refine TK (i:=5) (v:=(.slice (some ⟨S,U,none⟩) l.length Y)) rfl (Or.inl ⟨by rfl,λw hSw=>by go_simp⟩) J ?_;simp only[Act.put,QD,QK,QI,QJ,QC,QH,QG];refine TK (i:=6) (v:=(.int .i64 F)) rfl (Or.inl ⟨by rfl,λw hSw=>by go_simp⟩) J ?_;simp only[Act.put,QD,QK,QI,QJ,QC,QH,QG];refine TK (i:=7) (v:=(.int .i64 (F-3))) rfl (Or.inl ⟨by rfl,λw hSw=>by go_simp⟩) J ?_;simp only[Act.put,QD,QK,QI,QJ,QC,QH,QG];refine TK (i:=8) (v:=(.slice (some ⟨S,U,none⟩) l.length Y)) rfl (Or.inl ⟨by rfl,λw hSw=>by go_simp⟩) J ?_;simp only[Act.put,QD,QK,QI,QJ,QC,QH,QG];refine TK (i:=9) (v:=(.int .i64 l.length)) rfl (Or.inl ⟨by rfl,λw hSw=>by go_simp⟩) J ?_;simp only[Act.put,QD,QK,QI,QJ,QC,QH,QG];refine TK (i:=10) (v:=(.int .i64 left)) rfl (Or.inl ⟨by rfl,λw hSw=>by go_simp⟩) J ?_;simp only[Act.put,QD,QK,QI,QJ,QC,QH,QG];refine TK (i:=11) (v:=(.int .i64 (max 0 left))) rfl (Or.inl ⟨by rfl,λw hSw=>by go_simp⟩) J ?_;simp only[Act.put,QD,QK,QI,QJ,QC,QH,QG];obtain⟨m,hm⟩:∃m:Nat,(m:Int)=min (min (F-3) l.length) (max 0 left):=⟨(min (min (F-3) l.length) (max 0 left)).toNat,by omega⟩
     refine TK (i:=12) (v:=(.int .i64 (min (min (F-3) l.length) (max 0 left)))) rfl (Or.inl ⟨by rfl,λw hSw=>by go_simp;(repeat' split)<;>omega⟩) J ?_;simp only[Act.put,QD,QK,QI,QJ,QC,QH,QG];rw[← hm];have a3:m≤l.length:=by omega
     have ax:(min (min (F-3) (l.length:Int)) (max 0 left)).toNat=m:=by rw[← hm];rfl
     have a7:(0:Int)≤(m:Int):=Int.natCast_nonneg _;have a2:(m:Int)≤(Y:Int):=by omega
     rw[ax]at G;have HM:=QA hm;clear hm ax;refine TK (i:=13) (v:=(.slice (some ⟨S,U,none⟩) m Y)) rfl (Or.inl ⟨by rfl,λw hSw=>by go_simp⟩) J ?_;simp only[Act.put,QD,QK,QI,QJ,QC,QH,QG];have E:w2.drew.ownsRow base 5 1 (.slice L f.1.length I) f.1.length (AV f.1):=by rw[← D.out];exact C.out.row
     have M:=QA E;have Z:(l.take m).length=m:=by rw[List.length_take];omega
     have A:∀j u,(AV (l.take m))[j]?=some u→w2.drew.cell? ((⟨S,U,none⟩:Addr).add j)=some u:=λj u hj=>by
      rw[DJ];obtain⟨g,o,c,W,_,e2,e3,e4⟩:=HB.out.kept T (by simp);simp only[Value.slice.injEq,Option.some.injEq,Addr.mk.injEq,and_true]at W;obtain⟨⟨rfl,rfl⟩,-⟩:=W;unfold AV at hj;rw[List.getElem?_map]at hj;cases hx:(l.take m)[j]? with
      | none=>rw[hx]at hj;cases hj
      | some x =>
       rw[hx]at hj;simp at hj;rw[← hj];have aN:l[j]?=some x:=by
        have a1:=(List.getElem?_eq_some_iff.1 hx).1;rw[List.getElem?_take,if_pos (by omega)]at hx;exact hx
       exact e4 j x aN
     have ac:=QA A;have aq:=T.size;have af:Hid (Fs.grow st.files (Fs.idx st s.data.toList) (l.take m)=(Fs.step st).1.files.set (Fs.idx st s.data.toList) (f.1++l.take m,f.2)):=by
      unfold Fs.grow;rw[hf,Fs.step_files];exact QA rfl
     have ag:∀w5,w2.drew.grownBy w5 (Value.slice L f.1.length I).ownBlock→w5.cell? ⟨b,0,none⟩=some (.slice L f.1.length I)∧w5.frozen? ⟨b,0,none⟩=false:=λw5 hg5=>by
      have O:w5.heap[b]?=some (.cells #[d,.int .i64 f.2] 119 (0,0)):=by
       rw[hg5.block b (AC C.out.blk) (λe=>by
        have h1:=C.out.tagD b (by rw[D.out];exact e.symm);rw[C.out.tag]at h1;cases h1)]
       exact C.out.blk
      exact⟨by rw[← D.out];exact AA O 0 _ rfl,AE O 0⟩
     clear E A;refine TO (i:=14) ?_;refine AD (by decide) (λK5 HK5=>?_);simp only[QE,QL,QF,QN];go_wp2_with (first|(at_builtin;refine wpList_append_own_at _ rfl _ _ 41 rfl base 5 i0 (.int .u8 0) 1 1 Tryz.underlying41 hi aC ay ar rfl (by decide) (.slice L f.1.length I) f.1.length (AV f.1) rfl M.out ⟨S,U,none⟩ m Y (AV (l.take m)) rfl (by rw[BP,Z];omega) ac.out (BS _) (by unfold maxLen;omega) (by omega) (by show base≤w2.heap.size;omega) ?_;intro d' w5 hown5 hgrow5 hnil5 hloc5;clear hnil5;obtain⟨aA,aP⟩:=ag _ hgrow5;obtain⟨aK,aM,al⟩:=BC hown5;subst al;have Q:=QA hloc5;clear hloc5)|fail);refine HK5.out _ _ ⟨λ_=>aA,?_⟩;clear HK5;refine TO (i:=15) ?_;refine AD (by decide) (λK6 HK6=>?_);simp only[QE,QL,QF,QN];go_wp2_with fail;refine HK6.out _ _ ⟨λh=>absurd h (by decide),?_⟩;clear HK6;refine TO (i:=16) ?_;refine AD (by decide) (λK7 HK7=>?_);simp only[QE,QL,QF,QN];go_wp2_with fail;refine HK7.out _ _ ⟨λh=>absurd h (by decide),?_⟩;clear HK7;refine TO (i:=17) ?_;refine AD (by decide) (λK8 HK8=>?_);simp only[QE,QL,QF,QN];go_wp2_with fail;refine HK8.out _ _ ⟨λh=>absurd h (by decide),?_⟩;clear HK8;refine AO (by kernel_rfl) ?_ _;go_wp2;go_ret;have am:=Aa.appended (V:={ V with pv:=pv }) (l:=l.take m) (w:=w2.drew) (H2.out.kept ((Kept.refl _ _ _).drewN 1)) (by rw[Fs.step_files];exact hf) hb hd (by rw[Z];exact hown5) (by rw[D.out];exact hgrow5) (by rw[D.out];exact Q.out) (by show base≤w2.heap.size;omega);obtain⟨N,R,ae,ai⟩:=am;rw[G.out,af.out];refine⟨rfl,_,N,R,λk hk=>ae k (by show k<w2.heap.size;omega),(K.drewN 1).trans ai⟩
 ·have G:Hid (Fs.append st s.data.toList l=(st,Fs.openE st s.data.toList)):=by unfold Fs.append;rw[if_pos h0];exact QA rfl
  have ad:(Fs.openE st s.data.toList != 0)=true:=by rw[bne_iff_ne];exact h0
  go_wp2;go_ret;rw[G.out];exact⟨rfl,V,own,H1.out,λ_ _=>rfl,AB hb1⟩
end Go.Proofs.YtjldahcckmmenaaGreatDoor
