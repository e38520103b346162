/-
  The store: Write, walked up to where a batch goes to its segment. The store: begin, and Open of a file system that holds nothing, walked.
-/
import Derived.Test.YtjldahcckmmenaaGreatDoorZc14
import Derived.Test.YtjldahcckmmenaaGreatDoorZc15
import Derived.Test.YtjldahcckmmenaaGreatDoorZc16
import Derived.Test.YtjldahcckmmenaaGreatDoorZc12
import Derived.Test.YtjldahcckmmenaaGreatDoorZc11
open Array renaming getInternal_eq_getElem → QD
open Go.Lib renaming hid → QA
open List renaming setIfInBounds_toArray → QC, drop_succ_cons → QE, take_succ_cons → QF, set_cons_succ → QG, set_cons_zero → QH, getElem_cons_zero → QI, getElem_cons_succ → QJ, getElem_toArray → QK, drop_zero → QL, take_zero → QN, length_map → QV, mem_of_getElem? → QZ, getElem?_eq_getElem → ZG, map_cons → ZP, map_append → ZQ
open Nat renaming le_refl → QM, le_trans → QQ, lt_of_lt_of_le → ZT
namespace Go.Proofs.YtjldahcckmmenaaGreatDoor
set_option maxRecDepth 100000
set_option maxHeartbeats 4000000
set_option linter.unusedSimpArgs false
set_option linter.unusedVariables false
open Go Go.RowKit
open Go.Maps Go.WideMaps
namespace Sto
def wcode (S:List Seg) (ops:List Op):Int:=if chk ops≠0 then chk ops else if 50000<live (chgs (ents S) ops) then 8 else 0
def Goes (S:List Seg) (ops:List Op):Prop:=chk ops=0∧live (chgs (ents S) ops)≤50000∧0<ops.length
instance (S : List Seg) (ops : List Op) : Decidable (Goes S ops) := inferInstanceAs (Decidable (_ ∧ _ ∧ _))
def wrote (S:List Seg) (ops:List Op):List Seg:=if Goes S ops then put S ops else S
theorem Gh (x:Op):∀l:Ents,live (C6 x l)=live l+(44+x.2.2.length)
 | []=>by simp[live,C6]
 | y::r=>by
  unfold C6;split
  ·unfold live;simp only[ZP,List.sum_cons];omega
  ·have:=Gh x r;unfold live at this ⊢;simp only[ZP,List.sum_cons];omega
theorem Ga (k:List UInt8):∀l:Ents,live (Ep l k)≤live l
 | []=>QM _
 | y::r=>by
  have:=Ga k r;unfold Ep live at this ⊢;rw[List.filter_cons];split
  ·simp only[ZP,List.sum_cons];omega
  ·simp only[ZP,List.sum_cons];omega
theorem GF (l:Ents) (o:Op):live (chg l o)≤live l+(44+o.2.2.length):=by
 unfold chg;have:=Ga o.1 l;split
 ·omega
 ·rw[Gh];omega
theorem live_chgs_le:∀(ops:List Op) (l:Ents),live (chgs l ops)≤live l+(9*ops.length+mass ops)
 | [],l=>Nat.le_add_right _ _
 | o::r,l=>by
  have B:=live_chgs_le r (chg l o);have C:=GF l o;have A:chgs l (o::r)=chgs (chg l o) r:=rfl;rw[A,IW,List.length_cons];omega
theorem live_len (l:Ents):44*l.length≤live l:=by
 induction l with
 | nil=>exact QM _
 | cons x r ih =>
  unfold live at ih ⊢;simp only[ZP,List.sum_cons,List.length_cons];omega
theorem DiskX.live {f:Fs.St} {k:Nat} {ver:Int} {S:List Seg} {M:Nat} (h:DiskX f k ver S M):Sto.live (ents S)≤50000:=by
 have:=h.lv (batches S).length
 rwa [List.take_length]at this
theorem wcode_ok {S:List Seg} {ops:List Op} (h1:chk ops=0) (h2:live (chgs (ents S) ops)≤50000):wcode S ops=0:=by
 unfold wcode;rw[if_neg (by rw[h1];simp),if_neg (by omega)]
theorem chk_len {ops:List Op} (h:chk ops=0):ops.length≤64∧mass ops≤8192:=by
 unfold chk at h;split at h
 ·cases h
 split at h
 ·cases h
 split at h
 ·cases h
 ·omega
end Sto
abbrev PB:=List UInt8×Value
structure CV (w:World) (base:Nat) (v:Value) (ps:List PB):Prop where
 row:w.ownsRow base 41 1 v ps.length (ps.map (·.2))
 pay:∀p∈ps,Ae w base p.2 p.1
 apart:∀p∈ps,∀g,p.2.ownBlock=some g→v.ownBlock≠some g
theorem CV.keep {w w':World} {base:Nat} {v:Value} {ps:List PB} (h:CV w base v ps) (hb:Below w.heap.size w w'):CV w' base v ps :=
 ⟨AN h.row (λg hg=>hb.block g (h.row.lt g hg).2),λp hp=>(h.pay p hp).keep hb,h.apart⟩
theorem CV.nil (w:World) (base:Nat):CV w base (.slice none 0 0) []:=⟨World.ownsRow_nil _ _ _ _,λp h=>by simp at h,λp h=>by simp at h⟩
theorem CV.more {w w5:World} {base:Nat} {v v' x:Value} {ps:List PB} {l:List UInt8} (h:CV w base v ps) (hx:Ae w base x l) (hne:∀g,x.ownBlock=some g→v.ownBlock≠some g)
  (hrow:w5.ownsRow base 41 1 v' (ps.length+1) (ps.map (·.2)++[x])) (hg:w.grownBy w5 v.ownBlock) (hloc:v'.ownBlock=v.ownBlock∨v'.ownBlock=some w.heap.size) :
  CV w5 base v' (ps++[(l,x)]):=by
 have o:∀(y:Value) (l:List UInt8),Ae w base y l→(∀g,y.ownBlock=some g→v.ownBlock≠some g)→Ae w5 base y l∧(∀g,y.ownBlock=some g→v'.ownBlock≠some g):=λy l hy hn =>
  ⟨AN hy (λg hg2=>hg.block g (hy.lt g hg2).2 (λe=>hn g hg2 e.symm)),λg hg2=>by
   rcases hloc with e|e
   ·rw[e];exact hn g hg2
   ·rw[e];intro e2;have:=(hy.lt g hg2).2;simp at e2;omega⟩
 refine⟨?_,λp hp=>?_,λp hp=>?_⟩
 ·rw[List.length_append,ZQ];exact hrow
 ·rcases List.mem_append.1 hp with hp|hp
  ·exact (o p.2 p.1 (h.pay p hp) (h.apart p hp)).1
  ·simp at hp;subst hp;exact (o x l hx hne).1
 ·rcases List.mem_append.1 hp with hp|hp
  ·exact (o p.2 p.1 (h.pay p hp) (h.apart p hp)).2
  ·simp at hp;subst hp;exact (o x l hx hne).2
theorem CV.form {w:World} {base:Nat} {v:Value} {ps:List PB} (h:CV w base v ps):∃a c,v=.slice a ps.length c:=by
 rcases h.row.2 with⟨h1,h2⟩|⟨g,cap,cur,h1,_⟩
 ·exact⟨none,0,by rw[h1,h2]⟩
 ·exact⟨_,_,h1⟩
theorem CV.prts {w:World} {base:Nat} {v:Value} {ps:List PB} (h:CV w base v ps):B2 w v (ps.map (·.1)):=by
 have o:=λg hg=>World.ownsRow.cells (g:=g) h.row hg
 rcases h.row.2 with⟨h1,h2⟩|⟨g,cap,cur,h1,hg,hb,hc,hm,_,_⟩
 ·have B:ps=[]:=List.eq_nil_of_length_eq_zero h2;subst B;exact⟨none,0,h1,QM _,λi x hx=>by simp at hx⟩
 ·refine⟨some ⟨g,0,none⟩,cap,by rw[h1,QV],by rw[QV];exact hc,λi x hx=>?_⟩;rw[List.getElem?_map,Option.map_eq_some_iff]at hx;obtain⟨p,A,rfl⟩:=hx;have:=o g (by rw[h1];rfl) i p.2 (by rw[List.getElem?_map,A];rfl);rw[addr_add]at this;exact⟨g,0,p.2,rfl,AC hb,by rw[Nat.zero_add];exact this,(h.pay p (QZ A)).byts⟩
theorem A6.next {w w':World} {own own':Nat→Tag} {B r:Nat} {s:Sto.St} {mb:Nat} {sv:Value} {l:Sto.ME} (h:A6 w own B r s mb sv l) (hf:SFr r own own' w w') (hr:w'.heap[r]?=w.heap[r]?):A6 w' own' B r s mb sv l :=
 ⟨hr.trans h.root,(hf.tags r (AC h.root)).trans h.mine,h.segs.mv hf.mv,h.ents.mv hf.mv,h.is,h.srt⟩
theorem A6.below {w w':World} {own:Nat→Tag} {B r:Nat} {s:Sto.St} {mb:Nat} {sv:Value} {l:Sto.ME} (h:A6 w own B r s mb sv l) (hb:Below w.heap.size w w'):A6 w' own B r s mb sv l :=
 h.next (SFr.below hb) (hb.block r (AC h.root))
theorem SFr.kept_of {r:Nat} {own:Nat→Tag} {w w':World} (h:SFr r own own w w') (hr:own r=.other) (hall:∀o,SFr r o o w w'):Kept own (·=.other) w w' :=
 ⟨h.os,h.tape,h.output,h.size,λb hb hn=>(hall (λ_=>.other)).block b hb rfl λe=>hn (by rw[e];exact hr)⟩
theorem SFr.below_of {r base:Nat} {w w':World} (hall:∀o,SFr r o o w w') (hr:base≤r) (hb:base≤w.heap.size):Below base w w' :=
 ⟨(hall λ_=>.other).os,(hall λ_=>.other).tape,(hall λ_=>.other).output,(hall λ_=>.other).size,λk hk=>(hall (λ_=>.other)).block k (by omega) rfl (by omega)⟩
theorem Bt.below {mb:Nat} {w w':World} (h:Bt mb w w') {n:Nat} (hn:n≤mb) (hs:n≤w.heap.size):Below n w w':=⟨h.os,h.tape,h.output,h.size,λk hk=>h.block k (by omega) rfl (by omega)⟩
def Ef (base B r:Nat) (f:Fs.St) (own:Nat→Tag) (S:List Sto.Seg) (M k:Nat) (w w':World):Prop :=
 ∃f' V' own' ver' mb' sv' l',Aa base B f' V' own' w'∧SFr r own own' w w'∧Below base w w'∧A6 w' own' B r ⟨ver',Sto.ids S,Sto.ents S,false⟩ mb' sv' l'∧Sto.Disk f' (k+14) ver' S M∧f'.room=f.room
structure Cs (base B r mb mb2:Nat) (f:Fs.St) (own:Nat→Tag) (S:List Sto.Seg) (M k:Nat) (v:Value) (ops l3:Sto.ME) (w x:World) (g:Fs.St) (V8:FsV) (own8:Nat→Tag) (ver8:Int) (sv8:Value) (ids8:List Int) (a8:Int):Prop where
 fs:Aa base B g V8 own8 x
 fr:SFr r own own8 w x
 bel:Below base w x
 root:x.heap[r]?=some (.cells (AF ver8 sv8 mb B false) 51 (0,0))
 mine:own8 r=.other
 seg:Ca x (SF r own8) sv8 ids8
 ne:ids8≠[]
 few:ids8.length≤1000000
 act:ids8.getLastD 0=a8
 map:CU x (SF r own8) mb2 l3
 opv:BQ x (SF r own8) v ops
 small:Fs.Small g
 calm:Fs.Calm g
 code:(Sg.append g a8 1 (Sto.flat (Sto.opsOf ops))).2=0
 room:(Sg.append g a8 1 (Sto.flat (Sto.opsOf ops))).1.room=f.room
 disk:Sto.Disk (Sg.append g a8 1 (Sto.flat (Sto.opsOf ops))).1 (k+14) ver8 (Sto.put S (Sto.opsOf ops)) M
 ids:Sto.ids (Sto.put S (Sto.opsOf ops))=ids8
theorem A4.toF {w:World} {G:Nat→Prop} {r mb2:Nat} {own:Nat→Tag} {l:Sto.ME} (h:A4 w G mb2 l) (hG:∀b,G b→SF r own b) (hm:SF r own mb2):CU w (SF r own) mb2 l :=
 ⟨h.map,hm,h.key,λp hp=>(h.val p hp).mv ⟨QM _,λb _ hb=>⟨hG b hb,rfl⟩⟩⟩
section
variable {base B r mb mb2 : Nat} {f : Fs.St} {V8 : FsV} {own own8 : Nat → Tag} {ver : Int} {sv8 : Value} {S0 : List Sto.Seg} {a : Int} {bs : List (List Sto.Op)} {M k : Nat} {v : Value} {ops l3 : Sto.ME} {w x : World}
theorem Cs.of0 (hD:Sto.Disk f k ver (S0++[(a,bs)]) M) (hC:Sto.Can f k (S0++[(a,bs)]) M (Sto.opsOf ops)) (hb:¬4096<(Sto.fileOf bs).length) (ho:Sto.GoodB (Sto.opsOf ops)) (hl:Sto.live (Sto.chgs (Sto.ents (S0++[(a,bs)])) (Sto.opsOf ops))≤50000)
  (fs:Aa base B f V8 own8 x) (fr:SFr r own own8 w x) (bel:Below base w x) (root:x.heap[r]?=some (.cells (AF ver sv8 mb B false) 51 (0,0))) (mine:own8 r=.other) (seg:Ca x (SF r own8) sv8 (Sto.ids (S0++[(a,bs)])))
  (map:CU x (SF r own8) mb2 l3) (opv:BQ x (SF r own8) v ops):Cs base B r mb mb2 f own (S0++[(a,bs)]) M k v ops l3 w x f V8 own8 ver sv8 (Sto.ids (S0++[(a,bs)])) a:=by
 obtain⟨A,D,C⟩:=hD.add0 hC hb ho hl;have o:=Mf.good_out hD.x.good;refine⟨fs,fr,bel,root,mine,seg,λe=>?_,by have:=o.2.1.2;omega,Sto.act_ids hD,map,opv,hD.x.sound.small (by have:=hC.small;omega),hD.x.calm,A,D,C.mono (by omega) (QM _),?_⟩
 ·have:=o.2.1.1;rw[e]at this;simp at this
 ·rw[Sto.put_snoc,if_neg hb,Sto.ids_app,Sto.ids_app];rfl
theorem Cs.of1 (hD:Sto.Disk f k ver (S0++[(a,bs)]) M) (hC:Sto.Can f k (S0++[(a,bs)]) M (Sto.opsOf ops)) (hb:4096<(Sto.fileOf bs).length) (ho:Sto.GoodB (Sto.opsOf ops)) (hl:Sto.live (Sto.chgs (Sto.ents (S0++[(a,bs)])) (Sto.opsOf ops))≤50000)
  (fs:Aa base B (Mf.save (Sg.create f (a+1)).1 (wrap64 (ver+1)) (Sto.ids (S0++[(a,bs)])++[a+1])).1 V8 own8 x) (fr:SFr r own own8 w x) (bel:Below base w x) (root:x.heap[r]?=some (.cells (AF (ver+1) sv8 mb B false) 51 (0,0))) (mine:own8 r=.other)
  (seg:Ca x (SF r own8) sv8 (Sto.ids (S0++[(a,bs)])++[a+1]))
  (map:CU x (SF r own8) mb2 l3) (opv:BQ x (SF r own8) v ops):Cs base B r mb mb2 f own (S0++[(a,bs)]) M k v ops l3 w x (Mf.save (Sg.create f (a+1)).1 (wrap64 (ver+1)) (Sto.ids (S0++[(a,bs)])++[a+1])).1 V8 own8 (ver+1) sv8 (Sto.ids (S0++[(a,bs)])++[a+1]) (a+1):=by
 obtain⟨_,_,_,_,_,F,o⟩:=hD.grow hC hb;obtain⟨D,C,E⟩:=o.add1 hC F hb ho hl;have A:=Mf.good_out hD.x.good;refine⟨fs,fr,bel,root,mine,seg,λe=>by simp at e,by have:=A.2.1.2;simp;omega,by simp,map,opv,o.x.sound.small (by have:=hC.small;omega),o.x.calm,D,C,E,?_⟩;rw[Sto.put_snoc,if_pos hb,Sto.ids_app];rfl
end
theorem Ef.still {base B r:Nat} {f:Fs.St} {V:FsV} {own:Nat→Tag} {S:List Sto.Seg} {M k mb:Nat} {ver:Int} {sv:Value} {l:Sto.ME} {w w':World} (h:Aa base B f V own w) (hA:A6 w own B r ⟨ver,Sto.ids S,Sto.ents S,false⟩ mb sv l) (hD:Sto.Disk f k ver S M)
  (hbase:base≤w.heap.size) (hb:Below w.heap.size w w'):Ef base B r f own S M k w w' :=
 ⟨f,V,own,ver,mb,sv,l,h.kept (AB hb),SFr.below hb,hb.mono hbase,hA.below hb,hD.mono (by omega) (QM _),rfl⟩
theorem Hd (base B r mb:Nat) (f:Fs.St) (V:FsV) (own:Nat→Tag) (ver:Int) (sv:Value) (S0:List Sto.Seg) (a:Int) (bs:List (List Sto.Op)) (M k:Nat) (l:Sto.ME) (v:Value) (ops:Sto.ME) (w:World)
  (h:Aa base B f V own w) (hE:Ay base w) (hbase:base≤w.heap.size) (hrb:base≤r) (hA:A6 w own B r ⟨ver,Sto.ids (S0++[(a,bs)]),Sto.ents (S0++[(a,bs)]),false⟩ mb sv l) (hD:Sto.Disk f k ver (S0++[(a,bs)]) M)
  (ho:BQ w (SF r own) v ops) (hol:ops.length≤1000000000) (hbl:∀p∈ops,p.1.2.2.length≤1000000000) (hk:∀p∈ops,p.1.1.length=32) (hC:Sto.Goes (S0++[(a,bs)]) (Sto.opsOf ops)→Sto.Can f k (S0++[(a,bs)]) M (Sto.opsOf ops)) :
  Calls Tryz.prog 13 #[.pointer (some ⟨r,0,none⟩),v] w λe w'=>e=.returned (.int .i64 (Sto.wcode (S0++[(a,bs)]) (Sto.opsOf ops)))∧Ef base B r f own (Sto.wrote (S0++[(a,bs)]) (Sto.opsOf ops)) M k w w':=by
 obtain⟨va,vc,rfl⟩:=ho.form;obtain⟨S,P⟩:∃q,S0++[(a,bs)]=q:=⟨_,rfl⟩
 have HS:=QA P;rw[P]at hA hD hC ⊢;have cG:=AC hA.root;have K:=hA.root;have b8:=hA.mine;have bt:=Sto.opsOf_len ops;have H:=QA h;have HE:=QA hE;have HA:=QA hA;have HD:=QA hD;have HO:=QA ho;have HC:=QA hC;have bX:=QA b8;have cD:=QA K;have aG:=QA bt;have y0:=rc0 K;have y1:=rc1 K;have y2:=rc2 K;have y3:=rc3 K;have y4:=rc4 K;clear h hE hA hD ho hC P K b8 bt;go_enter Tryz.func13,Tryz.ntmps13;go_wp2_with fail;refine (Ex _ ops w _ HO.out hol (λp hp=>by have:=hbl p hp;omega)).mono ?_;rintro e w1 ⟨rfl,hb1⟩;have aU:=QA hb1;clear hb1 y0 y1 y2 y3 y4;by_cases hc0:Sto.chk (Sto.opsOf ops)=0
 ·have ad:=QA hc0;have cS:(Sto.chk (Sto.opsOf ops) != 0)=false:=by rw[hc0];rfl
  have a6:Hid (w1.heap[r]?=some (.cells (AF ver sv mb B false) 51 (0,0))):=QA ((aU.out.block r cG).trans cD.out);have y0:=rc0 a6.out;have y1:=rc1 a6.out;have y2:=rc2 a6.out;have y3:=rc3 a6.out;have y4:=rc4 a6.out;clear hc0;go_wp2_with fail;refine (Kn mb l.length l w1 (ownsMap_at HA.out.ents.map (aU.out.block mb HA.out.ents.map.lt))).mono ?_;rintro e w2 ⟨rfl,hm2,hb2⟩;have bP:=aU.out.size;have O:=QA (aU.out.trans (hb2.mono bP));have cU:=QA hb2;have cV:=hm2.lt;have cy:Hid (A4 w2 (λb=>SF r own b∧b≠w1.heap.size) w1.heap.size l):=QA ⟨Kv.of hm2,HA.out.ents.key,λp hp=>(HA.out.ents.val p hp).mv ⟨O.out.size,λb hb hf=>⟨⟨hf,by omega⟩,O.out.block b hb⟩⟩⟩;have aZ:Hid (BQ w2 (λb=>SF r own b∧b≠w1.heap.size) (.slice va ops.length vc) ops):=QA (HO.out.mv ⟨O.out.size,λb hb hf=>⟨⟨hf,by omega⟩,O.out.block b hb⟩⟩);have cp:=QA (show l.length=(Sto.ents S).length by have N:=congrArg List.length HA.out.is;rw[QV]at N;exact N);have br:=QA (Sto.DiskX.live HD.out.x);have cR:Hid (l.length≤1000000000):=QA (by have N:=Sto.live_len (Sto.ents S);have h2:=br.out;have h3:=cp.out;omega);clear hm2 hb2 y0 y1 y2 y3 y4;go_wp2_with fail;refine (Ds w1.heap.size l _ ops w2 _ (λb hb=>hb.2) (λb hb=>⟨⟨H.out.fresh b (by have:=O.out.size;omega),by omega⟩,by omega⟩) cy.out aZ.out hol cR.out hbl).mono ?_;rintro e w3 ⟨rfl,l3,hm3,he3,hbt3,-⟩;have ah:Hid (Below w.heap.size w w3):=QA (O.out.trans (hbt3.below bP O.out.size));have bq:l3.map (·.1)=Sto.chgs (Sto.ents S) (Sto.opsOf ops):=by rw[he3,HA.out.is]
  have cg:=QA hm3;have aR:=QA bq;have bd:Hid (Sto.Srt (Sto.chgs (Sto.ents S) (Sto.opsOf ops))):=QA (Sto.srt_chgs _ HA.out.srt);have cB:Hid ((l3.map λp=>p.1.1).Nodup):=by
   have N:((Sto.chgs (Sto.ents S) (Sto.opsOf ops)).map (·.1)).Nodup:=by
    rw[List.Nodup,List.pairwise_map];exact List.Pairwise.imp (R:=λa b:Sto.Op=>a.1<b.1) (λ{a b} h e=>by rw[e]at h;exact List.lt_irrefl _ h) bd.out
   rw[← aR.out,List.map_map]at N;exact QA N
  have cu:Hid (Sto.live (l3.map (·.1))≤1000000000000):=QA (by rw[aR.out];have N:=Sto.live_chgs_le (Sto.opsOf ops) (Sto.ents S);have h2:=br.out;have h3:=Sto.chk_len ad.out;omega);clear hm3 he3 bq hbt3;go_wp2_with fail;refine (B8 w1.heap.size l3 w3 _ cg.out cB.out cu.out).mono ?_;rintro e w4 ⟨rfl,hb4⟩;rw[aR.out];have a2:=QA (ah.out.trans (hb4.mono ah.out.size));have cM:=QA (cg.out.below hb4);clear hb4;by_cases hlv:50000<Sto.live (Sto.chgs (Sto.ents S) (Sto.opsOf ops))
  ·have cb:(50000:Int)<(Sto.live (Sto.chgs (Sto.ents S) (Sto.opsOf ops)):Nat):=by omega
   have I:Hid (Sto.wcode S (Sto.opsOf ops)=8):=QA (by unfold Sto.wcode;rw[if_neg (by rw[ad.out];simp),if_pos hlv]);have Z:Hid (Sto.wrote S (Sto.opsOf ops)=S):=QA (if_neg λhg=>by have:=hg.2.1;omega);clear hlv;go_wp2_with fail;refine bodyPost_ret (v:=.int .i64 8) (by simp[results,Tryz.results13,go_sem]) rfl ?_;exact⟨by rw[I.out],by rw[Z.out];exact Ef.still H.out HA.out HD.out hbase a2.out⟩
  ·have cb:((Sto.live (Sto.chgs (Sto.ents S) (Sto.opsOf ops)):Nat):Int)≤50000:=by omega
   have I:Hid (Sto.wcode S (Sto.opsOf ops)=0):=QA (Sto.wcode_ok ad.out (by omega));have bA:=QA hlv;clear hlv;by_cases hn0:ops.length=0
   ·have Z:Hid (Sto.wrote S (Sto.opsOf ops)=S):=QA (if_neg λhg=>by have:=hg.2.2;have:=aG.out;omega);have cz:((ops.length:Int)==0)=true:=by rw[beq_iff_eq];omega
    clear hn0;go_wp2_with fail;refine bodyPost_ret (v:=.int .i64 0) (by simp[results,Tryz.results13,go_sem]) rfl ?_;exact⟨by rw[I.out],by rw[Z.out];exact Ef.still H.out HA.out HD.out hbase a2.out⟩
   ·have cz:((ops.length:Int)==0)=false:=by rw[beq_eq_false_iff_ne];omega
    have bp:Sto.Goes S (Sto.opsOf ops):=⟨ad.out,by have:=bA.out;omega,by have:=aG.out;omega⟩
    have b2:Hid (Sto.wrote S (Sto.opsOf ops)=Sto.put S (Sto.opsOf ops)):=QA (if_pos bp);have aI:=QA (HC.out bp);have co:Hid (Sto.GoodB (Sto.opsOf ops)):=QA ⟨ad.out,bp.2.2,λo ho=>by
     obtain⟨p,hp,e⟩:=List.mem_map.1 ho;rw[← e];exact hk p hp⟩
    have cf:Hid ((a,bs)∈S):=QA (by rw[← HS.out];exact List.mem_append_right _ (List.mem_singleton.2 rfl));have b7:=QA (Sto.DiskX.at HD.out.x cf.out);have ce:=QA (Mf.good_out HD.out.x.good);have cQ:Hid (Sto.ids S≠[]):=QA λe=>by have:=ce.out.2.1.1;rw[e]at this;simp at this
    have b5:Hid ((Sto.ids S).length≤1000000):=QA (by have:=ce.out.2.1.2;omega);have cn:Hid ((Sto.ids S).getLastD 0=a):=QA (by rw[← HS.out];exact Sto.act_snoc S0 (a,bs));have cq:=QA (HA.out.below a2.out);have aJ:Hid (S≠[]):=QA (by rw[← HS.out];simp);have ch:Hid (SF r own w1.heap.size):=QA ⟨H.out.fresh _ bP,by omega⟩;clear bp;go_wp2_with fail;refine (Bb w4 r B mb ver sv false (Sto.ids S) cq.out.root cq.out.segs.1 cQ.out b5.out).mono ?_;rintro e w5 ⟨rfl,n5,rfl⟩;rw[cn.out];have bu:Below w4.heap.size w4 (w4.drewN n5):=Below.drewN (Below.refl _ w4) n5;have af:=QA (a2.out.trans (bu.mono a2.out.size));have b4:=QA (cM.out.below bu);clear bu;obtain⟨w5,cl⟩:∃x,w4.drewN n5=x:=⟨_,rfl⟩
    rw[cl]at af b4 ⊢;clear cl;go_wp2_with fail;refine (CC a w5 base (HE.out.below (af.out.mono hbase))).mono ?_;rintro e w6 ⟨rfl,hb6⟩;have bo:=QA (af.out.trans (hb6.mono af.out.size));have cF:=QA (b4.out.below hb6);have a7:=QA (HA.out.below bo.out);clear hb6;obtain⟨sn,bn⟩:∃t:ByteArray,t=⟨(Sg.nameB a).toArray⟩:=⟨_,rfl⟩
    rw[← bn];have HN:Hid (sn.data.toList=Sg.nameB a):=by rw[bn];exact QA rfl
    have cX:sn.size≤25:=by rw[bn];exact Fl a
    clear bn;have y0:=rc0 a7.out.root;have y1:=rc1 a7.out.root;have y2:=rc2 a7.out.root;have y3:=rc3 a7.out.root;have y4:=rc4 a7.out.root;go_wp2_with fail;refine (EN base B f V own sn w6 (H.out.kept (AB bo.out)) (by omega) (λf1 hf=>by have:=((HD.out.x.sound.small (by have:=aI.out.small;omega))).file f1 hf;omega)).mono ?_;rintro e w7 ⟨hb7,hres⟩;rw[HN.out]at hres;rcases hres with⟨h0,f1,v7,hf,rfl,ho7⟩|⟨h0,-⟩
    ·skip
     have cs:f1.1=Sto.fileOf bs:=by
      have N:=b7.out.2;unfold Fs.fileAt at N;rw[hf]at N;exact N
     obtain⟨ra,rc,cI⟩:=ho7.slice;subst cI;rw[cs];have aa:=QA (bo.out.trans (hb7.mono bo.out.size));have cr:=QA (cF.out.below hb7);have a8:=QA (HA.out.below aa.out);clear hb7 h0 hf ho7 y0 y1 y2 y3 y4 cs;by_cases hbig:4096<(Sto.fileOf bs).length
     ·have bU:(4096:Int)<((Sto.fileOf bs).length:Nat):=by omega
      have aH:=QA hbig;clear hbig;go_wp2_with fail;refine (I1 base B r mb f V own ver sv S0 a bs M k (Sto.opsOf ops) false w7 (H.out.kept (AB aa.out)) (HE.out.below (aa.out.mono hbase)) (QQ hbase aa.out.size) a8.out.root bX.out hrb (by rw[HS.out];exact a8.out.segs) (by rw[HS.out];exact HD.out) (by rw[HS.out];exact aI.out) aH.out).mono ?_;rintro e w8 ⟨rfl,V8,own8,sv8,h8,hf8,hbb8,hr8,hn8⟩;have cd:own8 r=.other:=(hf8.tags r (AC a8.out.root)).trans bX.out;have H8:=QA h8;have a4:=QA hf8;have aO:Hid (Below base w w8):=QA ((aa.out.mono hbase).trans hbb8);have ck:=QA hr8;have b3:=QA hn8;have bv:=QA cd;clear h8 hf8 hbb8 hr8 hn8 cd;go_wp2_with fail;refine (DD w8 r B mb (ver+1) sv8 false 0 ck.out).mono ?_;rintro e w9 ⟨rfl,hr9,hall⟩;have bC:Hid (SFr r own own8 w w9):=QA (((SFr.below aa.out).trans a4.out).trans (hall own8));have aN:Hid (Cs base B r mb w1.heap.size f own S M k (.slice va ops.length vc) ops l3 w w9 _ V8 own8 (ver+1) sv8 (Sto.ids (S0++[(a,bs)])++[a+1]) (a+1)):=QA (by
       have N:=Cs.of1 (mb:=mb) (B:=B) (r:=r) (base:=base) (own:=own) (w:=w) (v:=.slice va ops.length vc) (mb2:=w1.heap.size) (by rw[HS.out];exact HD.out) (by rw[HS.out];exact aI.out) aH.out co.out (by rw[HS.out];have:=bA.out;omega) (H8.out.kept (SFr.kept_of (hall own8) bv.out hall)) bC.out
        (aO.out.trans (SFr.below_of hall hrb (QQ hbase aO.out.size))) hr9 bv.out (b3.out.mv (hall own8).mv) (((A4.toF cr.out (λb hb=>hb.1) ch.out).mv a4.out.mv).mv (hall own8).mv) (HO.out.mv bC.out.mv)
       rw[HS.out]at N;rw[HS.out];exact N)
      clear hr9 hall bv b3 ck aO a4 H8 bC;go_wp2_with fail;obtain⟨g,V9,G,A,F,X,a9,E⟩:∃g V9 G A F X a9,Hid (Cs base B r mb w1.heap.size f own S M k (.slice va ops.length vc) ops l3 w w9 g V9 G A F X a9):=⟨_,_,_,_,_,_,_,aN⟩
      clear aN;have bi:=QA (show ∀o∈Sto.opsOf ops,(0≤o.2.1∧o.2.1≤9)∧o.2.2.length≤8192 from λo ho=>⟨Sto.chk_kinds ad.out o ho,by have N:=Sto.mass_mem ho;have h2:=(Sto.chk_len ad.out).2;omega⟩)
      go_loopg [12,66] ops.length (λdn s12 s66 wr=>∃(j:Nat) (U:List PB),j≤ops.length∧dn=ops.length-j∧s66=.int .i64 (j:Nat)∧CV wr (w9).heap.size s12 U∧U.map (·.1)=((Sto.opsOf ops).take j).map Sto.bytes∧Below (w9).heap.size w9 wr)
      case atStart=>exact⟨0,[],Nat.zero_le _,rfl,rfl,CV.nil _ _,rfl,Below.refl _ _⟩
      case round =>
       obtain⟨j,U,hj,bh,rfl,hP,av,hB⟩:=hrel;have HK:=QA bh;have HP:=QA hP;have a5:=QA av;have HB:=QA hB;have bk:Hid (U.length=j):=by
        have N:=congrArg List.length av;rw[QV,QV,List.length_take,Sto.opsOf_len]at N;exact QA (by omega)
       clear bh hP av hB;have cP:(0:Int)≤(j:Int):=Int.natCast_nonneg _;by_cases hjn:j<ops.length
       ·have ba:(j:Int)<(ops.length:Int):=by omega
        obtain⟨⟨o,pv⟩,hp⟩:∃p,ops[j]?=some p:=⟨_,ZG hjn⟩
        obtain⟨Y,bl,bg,bD,rfl,hg,am⟩:=(E.out.opv.mv (MV.below HB.out)).at hp;have ab:=bl.1;have aF:=Sto.opsOf_get hp;have aP:=QA (bi.out o (QZ aF));have aV:Hid ((Sto.opsOf ops).take (j+1)=(Sto.opsOf ops).take j++[o]):=by rw[List.take_add_one,aF];exact QA rfl
        obtain⟨pa,pc,aX,bR⟩:=ab.form;simp only at aX Y ab am aV;subst aX;have be:=Aj.new wr o (.slice pa o.2.2.length pc);have a3:=QA be.range;have bb:=QA ab;have L:=QA Y;have HW:Hid (Below wr.heap.size wr (wr.alloc (.cells (AG o (.slice pa o.2.2.length pc)).toArray 43))):=QA ((Below.refl _ _).alloc (QM _) _);clear be ab Y hp bl aF bR;go_wp2_with (first|(guard_target=wpList _ _ _ ({ dst:=_,op:=.load 43 _,type:=_,pos:=_,after:=_,guard:=none }::_) _ _;refine AO rfl _ rfl bg (bD+j*34) o (.slice pa o.2.2.length pc) L.out rfl am ?_)|(guard_target=wpList _ _ _ ({ dst:=_,op:=.store 43 _ _,type:=_,pos:=_,after:=_,guard:=none }::_) _ _;refine AV rfl _ _ rfl _ rfl o (.slice pa o.2.2.length pc) L.out bb.out.one rfl rfl ?_)|(guard_target=wpList _ _ _ ({ dst:=_,op:=.load 43 _,type:=_,pos:=_,after:=_,guard:=none }::_) _ _;refine AO rfl _ rfl wr.heap.size 0 o (.slice pa o.2.2.length pc) L.out rfl a3.out ?_)|fail);obtain⟨wA,hA⟩:∃x,wr.alloc (.cells (AG o (.slice pa o.2.2.length pc)).toArray 43)=x:=⟨_,rfl⟩
        rw[hA]at HW a3 ⊢;clear hA am;refine (C1 o (.slice pa o.2.2.length pc) wA L.out aP.out.1 (bb.out.below HW.out) aP.out.2).mono ?_;rintro e wB ⟨v',rfl,ho2,hb2⟩;obtain⟨ca,cc,bw⟩:=ho2.slice;subst bw;have O:=QA (HB.out.trans ((HW.out.trans (hb2.mono HW.out.size)).mono HB.out.size));have bY:=O.out.size;have bL:=QA (HP.out.keep (HW.out.trans (hb2.mono HW.out.size)));have aZ:=QA (ho2.mono (QQ HB.out.size HW.out.size));have b0:Hid (∀g2,(Value.slice ca (Sto.bytes o).length cc).ownBlock=some g2→u12.ownBlock≠some g2):=QA λg2 hg2 e=>by
         have N:=(ho2.lt g2 hg2).1;have h2:=(HP.out.row.lt g2 e).2;have h3:=HW.out.size;omega
        have ae:Below wB.heap.size wB (wB.alloc (.cells #[.slice ca (Sto.bytes o).length cc] 41)):=(Below.refl _ _).alloc (QM _) _;have aB:=QA (bL.out.keep ae);have bE:=QA (aZ.out.keep ae);have ah:=QA (O.out.trans (ae.mono bY));have aQ:=ah.out.size;have bV:Hid (∀(j:Nat) u,[Value.slice ca (Sto.bytes o).length cc][j]?=some u→(wB.alloc (.cells #[.slice ca (Sto.bytes o).length cc] 41)).cell? ((⟨wB.heap.size,0,none⟩:Addr).add j)=some u):=by
         refine QA λj u hj=>?_
         rw[addr_add];exact Al wB #[.slice ca (Sto.bytes o).length cc] 41 j u (by simpa using hj)
        obtain⟨i0,hi,bH,bS,bQ⟩:=info_parts G7;have b6:U.length≤1000000000:=by have:=bk.out;omega
        clear ho2 hb2 ae;go_wp2_with (first|(at_builtin;refine wpList_append_own_at _ rfl _ _ 92 rfl (w9).heap.size 41 i0 (.slice none 0 0) 1 24 Tryz.underlying92 hi bH bS bQ rfl (by decide) u12 U.length (U.map (·.2)) rfl aB.out.row ⟨wB.heap.size,0,none⟩ 1 1 [.slice ca (Sto.bytes o).length cc] rfl rfl bV.out (λu hu=>by simp at hu;subst hu;rfl) (by unfold maxLen;omega) (by omega) aQ ?_;intro v5 w5 hrow hgrow hnil hloc;clear hnil;have aW:=QA (CV.more (l:=Sto.bytes o) aB.out bE.out b0.out hrow hgrow hloc);have af:=QA (below_grown ah.out aQ aB.out.row hgrow);clear hrow hgrow hloc)|fail);go_roundg (ops.length-(j+1))
        case measure=>rw[HK.out];omega
        case rel=>exact⟨j+1,_,by omega,rfl,by simp,aW.out,by rw[ZQ,a5.out,aV.out,ZQ];rfl,af.out⟩
       ·have ba:(ops.length:Int)≤(j:Int):=by omega
        have ak:Hid (U.map (·.1)=(Sto.opsOf ops).map Sto.bytes):=QA (by rw[a5.out,List.take_of_length_le (by have:=aG.out;omega)]);have ao:Hid ((U.map (·.1)).flatten=Sto.flat (Sto.opsOf ops)):=QA (by rw[ak.out];unfold Sto.flat;rw[List.flatMap_def]);have bz:Hid (∀x∈U.map (·.1),x.length≤1000000000):=QA λx hx=>by
         rw[ak.out]at hx;obtain⟨o,ho,rfl⟩:=List.mem_map.1 hx;obtain⟨p,hp,e⟩:=List.mem_map.1 ho;have N:=bi.out o ho;rw[Sto.bytes_len (by rw[← e];exact hk p hp)];omega
        have ar:w.heap.size≤(w9).heap.size:=E.out.fr.size;go_wp2_with fail;refine AK (λw'=>w'.heap[r]?=some (.cells (AF A F mb B false) 51 (0,0))) 11 (by kernel_rfl) ?_;have P:wr.drew.heap[r]?=some (.cells (AF A F mb B false) 51 (0,0)):=(HB.out.block r (AC E.out.root)).trans E.out.root;have ap:Below wr.heap.size wr wr.drew:=Below.drew (Below.refl _ wr);have ac:=QA (HB.out.trans (ap.mono HB.out.size));have aT:=QA (HP.out.keep ap);change Ab _ _ _ _ _ _ _ _ _ wr.drew;clear ap;obtain⟨wD,aY⟩:∃q:World,wr.drew=q:=⟨_,rfl⟩
        rw[aY]at P ac aT ⊢;clear aY;refine TK (i:=0) (v:=.pointer (some ⟨r,0,none⟩)) rfl (Or.inl ⟨by rfl,λw hSw=>by go_simp⟩) P ?_;simp only[Act.put,QD,QK,QI,QJ,QC,QH,QG];refine TK (i:=1) (v:=.pointer (some ⟨r,0,none⟩)) rfl (Or.inl ⟨by rfl,λw hSw=>by go_simp⟩) P ?_;simp only[Act.put,QD,QK,QI,QJ,QC,QH,QG];refine TK (i:=2) (v:=.pointer (some ⟨r,0,none⟩)) rfl (Or.inl ⟨by rfl,λw hSw=>by go_simp⟩) P ?_;simp only[Act.put,QD,QK,QI,QJ,QC,QH,QG];refine TK (i:=3) (v:=.pointer (some ⟨r,3,none⟩)) rfl (Or.inl ⟨by rfl,λw hSw=>by go_simp⟩) P ?_;simp only[Act.put,QD,QK,QI,QJ,QC,QH,QG];refine TK (i:=4) (v:=.pointer (some ⟨B,0,none⟩)) rfl (Or.inl ⟨by rfl,λw hSw=>by have cA:=rc3 hSw;go_simp⟩) P ?_;simp only[Act.put,QD,QK,QI,QJ,QC,QH,QG];refine TK (i:=5) (v:=.pointer (some ⟨r,0,none⟩)) rfl (Or.inl ⟨by rfl,λw hSw=>by go_simp⟩) P ?_;simp only[Act.put,QD,QK,QI,QJ,QC,QH,QG];refine TK (i:=7) (v:=u12) rfl (Or.inl ⟨by rfl,λw hSw=>by go_simp⟩) P ?_;simp only[Act.put,QD,QK,QI,QJ,QC,QH,QG];refine TO (i:=6) ?_;refine AD (by decide) (λK6 HK6=>?_);simp only[QE,QL,QF,QN];go_wp2_with fail;refine (Bb wD r B mb A F false X P (E.out.seg.1.below ac.out) E.out.ne E.out.few).mono ?_;rintro e wE ⟨rfl,nE,rfl⟩;rw[E.out.act];have au:Below wD.heap.size wD (wD.drewN nE):=Below.drewN (Below.refl _ wD) nE;have T:(wD.drewN nE).heap[r]?=some (.cells (AF A F mb B false) 51 (0,0)):=P;have J:=QA (ac.out.trans (au.mono ac.out.size));have aS:=QA (aT.out.keep au);clear au;obtain⟨wE,bj⟩:∃q:World,wD.drewN nE=q:=⟨_,rfl⟩
        rw[bj]at T J aS ⊢;clear bj;go_wp2;refine HK6.out _ _ ⟨λ_=>T,?_⟩;clear HK6;refine TO (i:=8) ?_;refine AD (by decide) (λK8 HK8=>?_);simp only[QE,QL,QF,QN];go_wp2_with fail;have ag:(Fs.step g).2.1≤9223372036854775807:=by rw[Fs.step_calm E.out.calm];show (0:Int)≤_;decide
        have a1:base≤wE.heap.size:=QQ hbase (QQ ar J.out.size);refine (B6 base B g V9 G a9 1 u12 (U.map (·.1)) wE (E.out.fs.kept (AB J.out)) (HE.out.below (E.out.bel.trans (J.out.mono (QQ hbase ar)))) a1 E.out.small aS.out.prts (by rw[QV];have:=bk.out;omega) bz.out ag).mono ?_;rw[ao.out,E.out.code];rintro e wF ⟨rfl,hpost⟩;have Q:=AM.below0 (E.out.fs.kept (AB J.out)) hpost a1;obtain⟨VF,C,hF,aq,az⟩:=hpost;have aD:wF.heap[r]?=some (.cells (AF A F mb B false) 51 (0,0)):=(az.block r (AC T) (by rw[E.out.mine];simp)).trans T;have bc:Hid (SFr r G C w9 wF):=QA ((SFr.below J.out).trans (SFr.kept aq az));have bf:=QA hF;have aw:Hid (C r=.other):=QA ((aq r (AC T)).trans E.out.mine);have aA:Hid (Below base w wF):=QA ((E.out.bel.trans (J.out.mono (QQ hbase ar))).trans Q);clear Q hF aq az ag;go_wp2;refine HK8.out _ _ ⟨λ_=>aD,?_⟩;clear HK8;refine TO (i:=9) ?_;refine AD (by decide) (λK9 HK9=>?_);simp only[QE,QL,QF,QN];go_wp2_with fail;refine (DD wF r B mb A F false 0 aD).mono ?_;rintro e wG ⟨rfl,hSG,hallG⟩;have D:wG.heap[r]?=some (.cells (AF A F mb B false) 51 (0,0)):=hSG;have aE:Hid (SFr r G C w9 wG):=QA (bc.out.trans (hallG C));have a0:=QA (bf.out.kept (SFr.kept_of (hallG C) aw.out hallG));have bT:Hid (Below base w wG):=QA (aA.out.trans (SFr.below_of hallG hrb (QQ hbase aA.out.size)));clear hSG hallG bf bc aA aD;go_wp2;refine HK9.out _ _ ⟨λ_=>D,?_⟩;clear HK9;refine TO (i:=10) ?_;refine AD (by decide) (λK10 HK10=>?_);simp only[QE,QL,QF,QN];go_wp2_with fail;refine HK10.out _ _ ⟨λ_=>D,?_⟩;clear HK10;refine AL (by kernel_rfl) ?_ _;have f2:=AE D 2;have y0:=rc0 D;have y1:=rc1 D;have y2:=rc2 D;have y3:=rc3 D;have y4:=rc4 D;go_wp2_with fail;refine bodyPost_ret (v:=.int .i64 0) (by simp[results,Tryz.results13,go_sem]) rfl ?_;have bF:CU wG (SF r C) w1.heap.size l3:=E.out.map.mv aE.out.mv;have W:SFr r C C wG (wG.setCell ⟨r,2,none⟩ (.map (some w1.heap.size))):=SFr.set wG 2 _;refine⟨by rw[I.out],?_⟩;rw[b2.out];refine⟨_,VF,C,A,w1.heap.size,F,l3,a0.out.kept ((Kept.refl C (·=.other) wG).setCell ⟨r,2,none⟩ aw.out _),(E.out.fr.trans aE.out).trans W,bT.out.setCell (p:=⟨r,2,none⟩) hrb _,⟨?_,aw.out,?_,bF.mv W.mv,?_,?_⟩,E.out.disk,E.out.room⟩
        ·exact heap_set (w:=wG) D _
        ·show Ca _ _ _ (Sto.ids _);rw[E.out.ids];exact (E.out.seg.mv aE.out.mv).mv W.mv
        ·show _=Sto.ents _;rw[Sto.ents_put aJ.out];exact aR.out
        ·show Sto.Srt (Sto.ents _);rw[Sto.ents_put aJ.out];exact bd.out
     ·have bU:(((Sto.fileOf bs).length:Nat):Int)≤4096:=by omega
      have aH:=QA hbig;clear hbig;have aN:Hid (Cs base B r mb w1.heap.size f own S M k (.slice va ops.length vc) ops l3 w w7 f V own ver sv (Sto.ids (S0++[(a,bs)])) a):=QA (by
       have N:=Cs.of0 (mb:=mb) (B:=B) (r:=r) (base:=base) (own:=own) (w:=w) (v:=.slice va ops.length vc) (mb2:=w1.heap.size) (by rw[HS.out];exact HD.out) (by rw[HS.out];exact aI.out) aH.out co.out (by rw[HS.out];have:=bA.out;omega) (H.out.kept (AB aa.out)) (SFr.below aa.out)
        (aa.out.mono hbase) a8.out.root bX.out (by rw[HS.out];exact a8.out.segs) (A4.toF cr.out (λb hb=>hb.1) ch.out) (HO.out.mv (SFr.below aa.out).mv)
       rw[HS.out]at N;rw[HS.out];exact N)
      go_wp2_with fail;obtain⟨g,V9,G,A,F,X,a9,E⟩:∃g V9 G A F X a9,Hid (Cs base B r mb w1.heap.size f own S M k (.slice va ops.length vc) ops l3 w w7 g V9 G A F X a9):=⟨_,_,_,_,_,_,_,aN⟩
      clear aN;have bi:=QA (show ∀o∈Sto.opsOf ops,(0≤o.2.1∧o.2.1≤9)∧o.2.2.length≤8192 from λo ho=>⟨Sto.chk_kinds ad.out o ho,by have N:=Sto.mass_mem ho;have h2:=(Sto.chk_len ad.out).2;omega⟩)
      go_loopg [12,66] ops.length (λdn s12 s66 wr=>∃(j:Nat) (U:List PB),j≤ops.length∧dn=ops.length-j∧s66=.int .i64 (j:Nat)∧CV wr (w7).heap.size s12 U∧U.map (·.1)=((Sto.opsOf ops).take j).map Sto.bytes∧Below (w7).heap.size w7 wr)
      case atStart=>exact⟨0,[],Nat.zero_le _,rfl,rfl,CV.nil _ _,rfl,Below.refl _ _⟩
      case round =>
       obtain⟨j,U,hj,bh,rfl,hP,av,hB⟩:=hrel;have HK:=QA bh;have HP:=QA hP;have a5:=QA av;have HB:=QA hB;have bk:Hid (U.length=j):=by
        have N:=congrArg List.length av;rw[QV,QV,List.length_take,Sto.opsOf_len]at N;exact QA (by omega)
       clear bh hP av hB;have cP:(0:Int)≤(j:Int):=Int.natCast_nonneg _;by_cases hjn:j<ops.length
       ·have ba:(j:Int)<(ops.length:Int):=by omega
        obtain⟨⟨o,pv⟩,hp⟩:∃p,ops[j]?=some p:=⟨_,ZG hjn⟩
        obtain⟨Y,bl,bg,bD,rfl,hg,am⟩:=(E.out.opv.mv (MV.below HB.out)).at hp;have ab:=bl.1;have aF:=Sto.opsOf_get hp;have aP:=QA (bi.out o (QZ aF));have aV:Hid ((Sto.opsOf ops).take (j+1)=(Sto.opsOf ops).take j++[o]):=by rw[List.take_add_one,aF];exact QA rfl
        obtain⟨pa,pc,aX,bR⟩:=ab.form;simp only at aX Y ab am aV;subst aX;have be:=Aj.new wr o (.slice pa o.2.2.length pc);have a3:=QA be.range;have bb:=QA ab;have L:=QA Y;have HW:Hid (Below wr.heap.size wr (wr.alloc (.cells (AG o (.slice pa o.2.2.length pc)).toArray 43))):=QA ((Below.refl _ _).alloc (QM _) _);clear be ab Y hp bl aF bR;go_wp2_with (first|(guard_target=wpList _ _ _ ({ dst:=_,op:=.load 43 _,type:=_,pos:=_,after:=_,guard:=none }::_) _ _;refine AO rfl _ rfl bg (bD+j*34) o (.slice pa o.2.2.length pc) L.out rfl am ?_)|(guard_target=wpList _ _ _ ({ dst:=_,op:=.store 43 _ _,type:=_,pos:=_,after:=_,guard:=none }::_) _ _;refine AV rfl _ _ rfl _ rfl o (.slice pa o.2.2.length pc) L.out bb.out.one rfl rfl ?_)|(guard_target=wpList _ _ _ ({ dst:=_,op:=.load 43 _,type:=_,pos:=_,after:=_,guard:=none }::_) _ _;refine AO rfl _ rfl wr.heap.size 0 o (.slice pa o.2.2.length pc) L.out rfl a3.out ?_)|fail);obtain⟨wA,hA⟩:∃x,wr.alloc (.cells (AG o (.slice pa o.2.2.length pc)).toArray 43)=x:=⟨_,rfl⟩
        rw[hA]at HW a3 ⊢;clear hA am;refine (C1 o (.slice pa o.2.2.length pc) wA L.out aP.out.1 (bb.out.below HW.out) aP.out.2).mono ?_;rintro e wB ⟨v',rfl,ho2,hb2⟩;obtain⟨ca,cc,bw⟩:=ho2.slice;subst bw;have O:=QA (HB.out.trans ((HW.out.trans (hb2.mono HW.out.size)).mono HB.out.size));have bY:=O.out.size;have bL:=QA (HP.out.keep (HW.out.trans (hb2.mono HW.out.size)));have aZ:=QA (ho2.mono (QQ HB.out.size HW.out.size));have b0:Hid (∀g2,(Value.slice ca (Sto.bytes o).length cc).ownBlock=some g2→u12.ownBlock≠some g2):=QA λg2 hg2 e=>by
         have N:=(ho2.lt g2 hg2).1;have h2:=(HP.out.row.lt g2 e).2;have h3:=HW.out.size;omega
        have ae:Below wB.heap.size wB (wB.alloc (.cells #[.slice ca (Sto.bytes o).length cc] 41)):=(Below.refl _ _).alloc (QM _) _;have aB:=QA (bL.out.keep ae);have bE:=QA (aZ.out.keep ae);have ah:=QA (O.out.trans (ae.mono bY));have aQ:=ah.out.size;have bV:Hid (∀(j:Nat) u,[Value.slice ca (Sto.bytes o).length cc][j]?=some u→(wB.alloc (.cells #[.slice ca (Sto.bytes o).length cc] 41)).cell? ((⟨wB.heap.size,0,none⟩:Addr).add j)=some u):=by
         refine QA λj u hj=>?_
         rw[addr_add];exact Al wB #[.slice ca (Sto.bytes o).length cc] 41 j u (by simpa using hj)
        obtain⟨i0,hi,bH,bS,bQ⟩:=info_parts G7;have b6:U.length≤1000000000:=by have:=bk.out;omega
        clear ho2 hb2 ae;go_wp2_with (first|(at_builtin;refine wpList_append_own_at _ rfl _ _ 92 rfl (w7).heap.size 41 i0 (.slice none 0 0) 1 24 Tryz.underlying92 hi bH bS bQ rfl (by decide) u12 U.length (U.map (·.2)) rfl aB.out.row ⟨wB.heap.size,0,none⟩ 1 1 [.slice ca (Sto.bytes o).length cc] rfl rfl bV.out (λu hu=>by simp at hu;subst hu;rfl) (by unfold maxLen;omega) (by omega) aQ ?_;intro v5 w5 hrow hgrow hnil hloc;clear hnil;have aW:=QA (CV.more (l:=Sto.bytes o) aB.out bE.out b0.out hrow hgrow hloc);have af:=QA (below_grown ah.out aQ aB.out.row hgrow);clear hrow hgrow hloc)|fail);go_roundg (ops.length-(j+1))
        case measure=>rw[HK.out];omega
        case rel=>exact⟨j+1,_,by omega,rfl,by simp,aW.out,by rw[ZQ,a5.out,aV.out,ZQ];rfl,af.out⟩
       ·have ba:(ops.length:Int)≤(j:Int):=by omega
        have ak:Hid (U.map (·.1)=(Sto.opsOf ops).map Sto.bytes):=QA (by rw[a5.out,List.take_of_length_le (by have:=aG.out;omega)]);have ao:Hid ((U.map (·.1)).flatten=Sto.flat (Sto.opsOf ops)):=QA (by rw[ak.out];unfold Sto.flat;rw[List.flatMap_def]);have bz:Hid (∀x∈U.map (·.1),x.length≤1000000000):=QA λx hx=>by
         rw[ak.out]at hx;obtain⟨o,ho,rfl⟩:=List.mem_map.1 hx;obtain⟨p,hp,e⟩:=List.mem_map.1 ho;have N:=bi.out o ho;rw[Sto.bytes_len (by rw[← e];exact hk p hp)];omega
        have ar:w.heap.size≤(w7).heap.size:=E.out.fr.size;go_wp2_with fail;refine AK (λw'=>w'.heap[r]?=some (.cells (AF A F mb B false) 51 (0,0))) 11 (by kernel_rfl) ?_;have P:wr.drew.heap[r]?=some (.cells (AF A F mb B false) 51 (0,0)):=(HB.out.block r (AC E.out.root)).trans E.out.root;have ap:Below wr.heap.size wr wr.drew:=Below.drew (Below.refl _ wr);have ac:=QA (HB.out.trans (ap.mono HB.out.size));have aT:=QA (HP.out.keep ap);change Ab _ _ _ _ _ _ _ _ _ wr.drew;clear ap;obtain⟨wD,aY⟩:∃q:World,wr.drew=q:=⟨_,rfl⟩
        rw[aY]at P ac aT ⊢;clear aY;refine TK (i:=0) (v:=.pointer (some ⟨r,0,none⟩)) rfl (Or.inl ⟨by rfl,λw hSw=>by go_simp⟩) P ?_;simp only[Act.put,QD,QK,QI,QJ,QC,QH,QG];refine TK (i:=1) (v:=.pointer (some ⟨r,0,none⟩)) rfl (Or.inl ⟨by rfl,λw hSw=>by go_simp⟩) P ?_;simp only[Act.put,QD,QK,QI,QJ,QC,QH,QG];refine TK (i:=2) (v:=.pointer (some ⟨r,0,none⟩)) rfl (Or.inl ⟨by rfl,λw hSw=>by go_simp⟩) P ?_;simp only[Act.put,QD,QK,QI,QJ,QC,QH,QG];refine TK (i:=3) (v:=.pointer (some ⟨r,3,none⟩)) rfl (Or.inl ⟨by rfl,λw hSw=>by go_simp⟩) P ?_;simp only[Act.put,QD,QK,QI,QJ,QC,QH,QG];refine TK (i:=4) (v:=.pointer (some ⟨B,0,none⟩)) rfl (Or.inl ⟨by rfl,λw hSw=>by have cA:=rc3 hSw;go_simp⟩) P ?_;simp only[Act.put,QD,QK,QI,QJ,QC,QH,QG];refine TK (i:=5) (v:=.pointer (some ⟨r,0,none⟩)) rfl (Or.inl ⟨by rfl,λw hSw=>by go_simp⟩) P ?_;simp only[Act.put,QD,QK,QI,QJ,QC,QH,QG];refine TK (i:=7) (v:=u12) rfl (Or.inl ⟨by rfl,λw hSw=>by go_simp⟩) P ?_;simp only[Act.put,QD,QK,QI,QJ,QC,QH,QG];refine TO (i:=6) ?_;refine AD (by decide) (λK6 HK6=>?_);simp only[QE,QL,QF,QN];go_wp2_with fail;refine (Bb wD r B mb A F false X P (E.out.seg.1.below ac.out) E.out.ne E.out.few).mono ?_;rintro e wE ⟨rfl,nE,rfl⟩;rw[E.out.act];have au:Below wD.heap.size wD (wD.drewN nE):=Below.drewN (Below.refl _ wD) nE;have T:(wD.drewN nE).heap[r]?=some (.cells (AF A F mb B false) 51 (0,0)):=P;have J:=QA (ac.out.trans (au.mono ac.out.size));have aS:=QA (aT.out.keep au);clear au;obtain⟨wE,bj⟩:∃q:World,wD.drewN nE=q:=⟨_,rfl⟩
        rw[bj]at T J aS ⊢;clear bj;go_wp2;refine HK6.out _ _ ⟨λ_=>T,?_⟩;clear HK6;refine TO (i:=8) ?_;refine AD (by decide) (λK8 HK8=>?_);simp only[QE,QL,QF,QN];go_wp2_with fail;have ag:(Fs.step g).2.1≤9223372036854775807:=by rw[Fs.step_calm E.out.calm];show (0:Int)≤_;decide
        have a1:base≤wE.heap.size:=QQ hbase (QQ ar J.out.size);refine (B6 base B g V9 G a9 1 u12 (U.map (·.1)) wE (E.out.fs.kept (AB J.out)) (HE.out.below (E.out.bel.trans (J.out.mono (QQ hbase ar)))) a1 E.out.small aS.out.prts (by rw[QV];have:=bk.out;omega) bz.out ag).mono ?_;rw[ao.out,E.out.code];rintro e wF ⟨rfl,hpost⟩;have Q:=AM.below0 (E.out.fs.kept (AB J.out)) hpost a1;obtain⟨VF,C,hF,aq,az⟩:=hpost;have aD:wF.heap[r]?=some (.cells (AF A F mb B false) 51 (0,0)):=(az.block r (AC T) (by rw[E.out.mine];simp)).trans T;have bc:Hid (SFr r G C w7 wF):=QA ((SFr.below J.out).trans (SFr.kept aq az));have bf:=QA hF;have aw:Hid (C r=.other):=QA ((aq r (AC T)).trans E.out.mine);have aA:Hid (Below base w wF):=QA ((E.out.bel.trans (J.out.mono (QQ hbase ar))).trans Q);clear Q hF aq az ag;go_wp2;refine HK8.out _ _ ⟨λ_=>aD,?_⟩;clear HK8;refine TO (i:=9) ?_;refine AD (by decide) (λK9 HK9=>?_);simp only[QE,QL,QF,QN];go_wp2_with fail;refine (DD wF r B mb A F false 0 aD).mono ?_;rintro e wG ⟨rfl,hSG,hallG⟩;have D:wG.heap[r]?=some (.cells (AF A F mb B false) 51 (0,0)):=hSG;have aE:Hid (SFr r G C w7 wG):=QA (bc.out.trans (hallG C));have a0:=QA (bf.out.kept (SFr.kept_of (hallG C) aw.out hallG));have bT:Hid (Below base w wG):=QA (aA.out.trans (SFr.below_of hallG hrb (QQ hbase aA.out.size)));clear hSG hallG bf bc aA aD;go_wp2;refine HK9.out _ _ ⟨λ_=>D,?_⟩;clear HK9;refine TO (i:=10) ?_;refine AD (by decide) (λK10 HK10=>?_);simp only[QE,QL,QF,QN];go_wp2_with fail;refine HK10.out _ _ ⟨λ_=>D,?_⟩;clear HK10;refine AL (by kernel_rfl) ?_ _;have f2:=AE D 2;have y0:=rc0 D;have y1:=rc1 D;have y2:=rc2 D;have y3:=rc3 D;have y4:=rc4 D;go_wp2_with fail;refine bodyPost_ret (v:=.int .i64 0) (by simp[results,Tryz.results13,go_sem]) rfl ?_;have bF:CU wG (SF r C) w1.heap.size l3:=E.out.map.mv aE.out.mv;have W:SFr r C C wG (wG.setCell ⟨r,2,none⟩ (.map (some w1.heap.size))):=SFr.set wG 2 _;refine⟨by rw[I.out],?_⟩;rw[b2.out];refine⟨_,VF,C,A,w1.heap.size,F,l3,a0.out.kept ((Kept.refl C (·=.other) wG).setCell ⟨r,2,none⟩ aw.out _),(E.out.fr.trans aE.out).trans W,bT.out.setCell (p:=⟨r,2,none⟩) hrb _,⟨?_,aw.out,?_,bF.mv W.mv,?_,?_⟩,E.out.disk,E.out.room⟩
        ·exact heap_set (w:=wG) D _
        ·show Ca _ _ _ (Sto.ids _);rw[E.out.ids];exact (E.out.seg.mv aE.out.mv).mv W.mv
        ·show _=Sto.ents _;rw[Sto.ents_put aJ.out];exact aR.out
        ·show Sto.Srt (Sto.ents _);rw[Sto.ents_put aJ.out];exact bd.out
    ·exact absurd b7.out.1 h0
 ·have cS:(Sto.chk (Sto.opsOf ops) != 0)=true:=by rw[bne_iff_ne];exact hc0
  have I:Hid (Sto.wcode S (Sto.opsOf ops)=Sto.chk (Sto.opsOf ops)):=QA (if_pos hc0);have Z:Hid (Sto.wrote S (Sto.opsOf ops)=S):=QA (if_neg λhg=>hc0 hg.1);clear hc0;go_wp2_with fail;refine bodyPost_ret (v:=.int .i64 (Sto.chk (Sto.opsOf ops))) (by simp[results,Tryz.results13,go_sem]) rfl ?_;exact⟨by rw[I.out],by rw[Z.out];exact Ef.still H.out HA.out HD.out hbase aU.out⟩
open Go.Maps Go.WideMaps
theorem Fs.keys_nil:Fs.keys []=[]:=List.eq_nil_iff_forall_not_mem.2 λx hx=>by
 have:=Fs.keys_mem.1 hx;cases this
theorem Hn (base B r mb:Nat) (rm:Int) (V:FsV) (own:Nat→Tag) (w:World) (h:Aa base B (Fs.new rm) V own w) (hE:Ay base w) (hbase:base≤w.heap.size) (hrb:base≤r)
  (hroot:w.heap[r]?=some (.cells (AF 0 (.slice none 0 0) mb B false) 51 (0,0))) (hr0:own r=.other) (h1:3200≤rm) (h2:rm≤1048576) :
  Calls Tryz.prog 44 #[.pointer (some ⟨r,0,none⟩)] w λe w'=>e=.returned (.tuple #[.pointer (some ⟨r,0,none⟩),.int .i64 0])∧∃V' own' sv',Aa base B (Mf.save (Sg.create (Fs.new rm) 1).1 1 [1]).1 V' own' w'∧SFr r own own' w w'∧Below base w w' ∧
   w'.heap[r]?=some (.cells (AF 1 sv' mb B false) 51 (0,0))∧Ca w' (SF r own') sv' [1]:=by
 obtain⟨d1,d2,d3,d4,d5,d6⟩:=Sto.Disk.begin h1 h2;have H:=QA h;have HE:=QA hE;have HR:=QA hroot;have ai:=QA hr0;have af:Fs.Sound (Fs.new rm) 1:=Fs.Sound.new ⟨by omega,h2⟩ 1;have ap:=QA af;have aw:=AC hroot;have L:=rc0 hroot;have y1:=rc1 hroot;have N:=rc2 hroot;have K:=rc3 hroot;have P:=rc4 hroot;clear h hE hroot hr0 af;go_enter Tryz.func44,Tryz.ntmps44;go_wp2_with fail;refine (Bu base B (Fs.new rm) V own w H.out (by show 0≤_;omega)).mono ?_;rintro e w1 ⟨v1,rfl,hs1,-,hb1⟩;obtain⟨a1,c1,rfl⟩:=hs1.form;have e0:(strsOf (Fs.keys (Fs.new rm).dir)).length=0:=by rw[show Fs.keys (Fs.new rm).dir=[] from Fs.keys_nil];rfl
 rw[e0];have D:=QA hb1;have A:Hid (w1.heap[r]?=some (.cells (AF 0 (.slice none 0 0) mb B false) 51 (0,0))):=QA ((hb1.block r aw).trans HR.out);clear hb1 hs1 L y1 N K P;have L:=rc0 A.out;have y1:=rc1 A.out;have N:=rc2 A.out;have K:=rc3 A.out;have P:=rc4 A.out;go_wp2_with fail
 go_loopg [18] 1 (λdn s18 wr=>s18=.int .i64 0∧w1=wr)
 case atStart=>exact⟨rfl,rfl⟩
 case round =>
  obtain⟨rfl,rfl⟩:=hrel;go_wp2_with fail;refine (B4 base B (Fs.new rm) V own 1 w1 (H.out.kept (AB D.out)) (HE.out.below (D.out.mono hbase)) (QQ hbase D.out.size) (ap.out.small (by omega))).mono ?_;rintro e w2 ⟨rfl,V2,own2,h2',ho2,hk2⟩;rw[d1];have H2:=QA h2';have an:Hid (SFr r own own2 w w2):=QA ((SFr.below D.out).trans (SFr.kept ho2 hk2));have I:Hid (w2.heap[r]?=some (.cells (AF 0 (.slice none 0 0) mb B false) 51 (0,0))):=QA ((hk2.block r (AC A.out) (by rw[ai.out];simp)).trans A.out);have aa:own2 r=.other:=(ho2 r (AC A.out)).trans ai.out;have ad:Hid (Below base w w2):=QA ((D.out.mono hbase).trans (AM.below0 (H.out.kept (AB D.out)) ⟨V2,own2,h2',ho2,hk2⟩ (QQ hbase D.out.size)));have R:=an.out.size;clear L y1 N K P h2' ho2 hk2;have F:Below w2.heap.size w2 (w2.alloc (.cells #[.int .i64 1] 3)):=(Below.refl _ w2).alloc (QM _) _;have HL:=QA F;have HG:Hid ((w2.alloc (.cells #[.int .i64 1] 3)).heap[w2.heap.size]?=some (.cells #[.int .i64 1] 3 (0,0))):=QA (AJ w2 _);have o:Hid ((w2.alloc (.cells #[.int .i64 1] 3)).heap[r]?=some (.cells (AF 0 (.slice none 0 0) mb B false) 51 (0,0))):=QA ((F.block r (AC I.out)).trans I.out);have f0:=AE o.out 0;have f1:=AE o.out 1;have L:=rc0 o.out;have y1:=rc1 o.out;have N:=rc2 o.out;have K:=rc3 o.out;have P:=rc4 o.out;clear F;go_wp2_with fail;obtain⟨W,U⟩:∃q,((w2.alloc (.cells #[.int .i64 1] 3)).setCell ⟨r,0,none⟩ (.int .i64 1)).setCell ⟨r,1,none⟩ (.slice (some ⟨w2.heap.size,0,none⟩) 1 1)=q:=⟨_,rfl⟩
  rw[U];have J:w2.heap.size≠r:=by have:=AC I.out;omega
  have C:Hid (W.heap[r]?=some (.cells (AF 1 (.slice (some ⟨w2.heap.size,0,none⟩) 1 1) mb B false) 51 (0,0))):=QA (by rw[← U];exact heap_set (heap_set o.out _) _);have M:Hid (W.heap[w2.heap.size]?=some (.cells #[.int .i64 1] 3 (0,0))):=QA (by rw[← U];exact ((Below.heap_setCell _ _ _ _ J).trans (Below.heap_setCell _ _ _ _ J)).trans HG.out);have ah:Hid (SFr r own own2 w W):=QA (by rw[← U];exact ((an.out.trans (SFr.below HL.out)).trans (SFr.set _ 0 _)).trans (SFr.set _ 1 _));have al:Hid (Aa base B (Sg.create (Fs.new rm) 1).1 V2 own2 W):=QA (by
   rw[← U];exact H2.out.kept (((AB HL.out).setCell ⟨r,0,none⟩ aa _).setCell ⟨r,1,none⟩ aa _))
  have ae:Hid (Below base w W):=QA (by
   rw[← U];exact ((ad.out.trans (HL.out.mono (QQ hbase R))).setCell (p:=⟨r,0,none⟩) hrb _).setCell (p:=⟨r,1,none⟩) hrb _)
  have S:w2.heap.size≤W.heap.size:=Nat.le_of_lt (AC M.out);clear U o HG HL L y1 N K P f0 f1;have L:=rc0 C.out;have y1:=rc1 C.out;have N:=rc2 C.out;have K:=rc3 C.out;have P:=rc4 C.out;refine Ad [8] (by kernel_rfl) (by kernel_rfl) ?_;simp only[Br,QF,QN,QE,QL,Nat.sub_zero,Nat.reduceSub,Nat.reduceAdd]
  repeat (go_big_quiet_step (fail))
  refine wpQuiet_nil ?_;rintro _ ⟨nq,rfl⟩;have Q:Hid ((W.drewN nq).heap[r]?=some (.cells (AF 1 (.slice (some ⟨w2.heap.size,0,none⟩) 1 1) mb B false) 51 (0,0))):=QA C.out;have E:Hid ((W.drewN nq).heap[w2.heap.size]?=some (.cells #[.int .i64 1] 3 (0,0))):=QA M.out;have G:Below W.heap.size W (W.drewN nq):=Below.drewN (Below.refl _ W) nq;have am:Hid (SFr r own own2 w (W.drewN nq)):=QA (ah.out.trans (SFr.below G));have O:=QA (al.out.kept (AB G));have T:Hid (Below base w (W.drewN nq)):=QA (ae.out.trans (G.mono (QQ hbase (QQ R S))));have ag:w2.heap.size≤(W.drewN nq).heap.size:=S;clear G C M ah al ae S L y1 N K P;obtain⟨Y,hY⟩:∃q,W.drewN nq=q:=⟨_,rfl⟩
  rw[hY]at Q E am O T ag ⊢;clear hY;go_wp2_with fail;have ak:=QQ hbase (QQ R ag);refine (Ee base B _ V2 own2 1 _ [1] Y O.out (HE.out.below T.out) ak 3 d3 (by omega) (λz hz=>by rw[d4.2]at hz;cases hz) (Aw E.out) (by simp)).mono ?_;rintro e w5 ⟨rfl,V5,own5,h5,ho5,hk5⟩;rw[d2];have ar:=AC Q.out;have aj:own2 w2.heap.size=.other:=H2.out.fresh _ (QM _);have av:Hid (w5.heap[r]?=some (.cells (AF 1 (.slice (some ⟨w2.heap.size,0,none⟩) 1 1) mb B false) 51 (0,0))):=QA ((hk5.block r ar (by rw[aa];simp)).trans Q.out);have ax:Hid (w5.heap[w2.heap.size]?=some (.cells #[.int .i64 1] 3 (0,0))):=QA ((hk5.block _ (AC E.out) (by rw[aj];simp)).trans E.out);have ac:Hid (SFr r own own5 w w5):=QA (am.out.trans (SFr.kept ho5 hk5));have au:Hid (Below base w w5):=QA (T.out.trans (AM.below0 O.out ⟨V5,own5,h5,ho5,hk5⟩ ak));have aq:Hid (own5 w2.heap.size=.other):=QA ((ho5 _ (AC E.out)).trans aj);have H5:=QA h5;clear h5 ho5 hk5;go_wp2_with fail
  repeat (go_big_quiet_step (fail))
  refine wpQuiet_nil ?_;rintro _ ⟨n7,rfl⟩;go_wp2_with fail;have Z:Below w5.heap.size w5 (w5.drewN n7):=Below.drewN (Below.refl _ w5) n7;refine bodyPost_ret (v:=.tuple #[.pointer (some ⟨r,0,none⟩),.int .i64 0]) (by simp[results,Tryz.results44,go_sem]) rfl ?_;exact⟨rfl,V5,own5,_,H5.out.kept (AB Z),ac.out.trans (SFr.below Z),au.out.trans (Z.mono (QQ hbase ac.out.size)),av.out,Aw (X:=w5.drewN n7) ax.out,λp n c e _=>by
   simp only[Value.slice.injEq,Option.some.injEq]at e;rw[← e.1];exact⟨aq.out,J⟩⟩
def G1 (base B:Nat) (f':Fs.St) (own:Nat→Tag) (ver:Int) (S:List Sto.Seg) (w:World) (e:Ending) (w':World):Prop :=
 ∃r V' own' sv' mb l,e=.returned (.tuple #[.pointer (some ⟨r,0,none⟩),.int .i64 0])∧w.heap.size≤r∧Aa base B f' V' own' w'∧SFr r own own' w w'∧Below base w w'∧A6 w' own' B r ⟨ver,Sto.ids S,Sto.ents S,false⟩ mb sv' l
theorem Em {w:World} {a:Option Addr} {n c:Nat} {ls:List ByteArray} (h:DX w (.slice a n c) ls) (hn:n≤1000000) {d:Fs.Names} (hl:ls=strsOf (Fs.keys d)) :
  Calls Tryz.prog 43 #[.slice a n c,.string ⟨#[109,97,110,105,102,101,115,116]⟩] w λe w'=>e=.returned (.bool (Fs.mhas d Mf.final))∧w'=w:=by
 refine (Cp h hn _).mono ?_;rintro e w' ⟨rfl,rfl⟩;rw[hl];exact⟨congrArg (λb=>Ending.returned (.bool b)) Gn,rfl⟩
theorem Ft (base B:Nat) (rm:Int) (V:FsV) (own:Nat→Tag) (w:World) (h:Aa base B (Fs.new rm) V own w) (hE:Ay base w) (hbase:base≤w.heap.size) (h1:3200≤rm) (h2:rm≤1048576) :
  Calls Tryz.prog 21 #[.pointer (some ⟨B,0,none⟩)] w (G1 base B (Mf.save (Sg.create (Fs.new rm) 1).1 1 [1]).1 own 1 [(1,[])] w):=by
 have Z:=@run_makeMap Tryz.prog;obtain⟨J,A⟩:∃x,x=(w.alloc (.map #[] 0)).alloc (.cells #[.int .i64 0,.slice none 0 0,.map (some w.heap.size),.pointer (some ⟨B,0,none⟩),.bool false] 51):=⟨_,rfl⟩
 have G:Below w.heap.size w J:=by rw[A];exact ((Below.refl _ _).alloc (QM _) _).alloc (by simp) _
 have L:J.ownsMap Tryz.prog 40 Sto.elemR w.heap.size 0 (.map []):=by rw[A];exact (World.ownsMap_made w Tryz.prog 40 Sto.elemR).alloc _
 have O:J.heap[w.heap.size+1]?=some (.cells (AF 0 (.slice none 0 0) w.heap.size B false) 51 (0,0)):=by
  rw[A];have:=AJ (w.alloc (.map #[] 0)) (.cells #[.int .i64 0,.slice none 0 0,.map (some w.heap.size),.pointer (some ⟨B,0,none⟩),.bool false] 51);rw[show (w.alloc (.map #[] 0)).heap.size=w.heap.size+1 by simp]at this;exact this
 have S:=QA A.symm;have P:=QA G;have N:=QA L;have F:=QA O;have H:=QA (h.kept (AB G));have Y:=QA hE;have M:Hid (own (w.heap.size+1)=.other):=QA (h.fresh _ (by omega));have K:Hid (own w.heap.size=.other):=QA (h.fresh _ (by omega));clear A G L O h hE;go_enter Tryz.func21,Tryz.ntmps21;go_wp2_with fail;rw[S.out];refine (Bu base B (Fs.new rm) V own J H.out (by show 0≤_;omega)).mono ?_;rintro e w2 ⟨v1,rfl,hs1,-,hb2⟩;obtain⟨a1,c1,rfl⟩:=hs1.form;have R:=QA hs1;have D:=QA (P.out.trans (hb2.mono P.out.size));have o:=QA hb2;have T:(strsOf (Fs.keys (Fs.new rm).dir)).length≤1000000:=by rw[show Fs.keys (Fs.new rm).dir=[] from Fs.keys_nil];show 0≤_;omega
 clear hb2 hs1;go_wp2_with fail;refine (Em R.out T (d:=(Fs.new rm).dir) rfl).mono ?_;rintro e w3 ⟨rfl,rfl⟩;rw[show Fs.mhas (Fs.new rm).dir Mf.final=false from rfl];go_wp2_with fail;refine (Hn base B (w.heap.size+1) w.heap.size rm V own w3 (H.out.kept (AB o.out)) (Y.out.below (D.out.mono hbase)) (QQ hbase D.out.size) (by omega) ((o.out.block _ (AC F.out)).trans F.out) M.out h1 h2).mono ?_;rintro e w4 ⟨rfl,V4,own4,sv4,h4,hf4,hbb4,hr4,hn4⟩;have X:=QA h4;have E:=QA hf4;have I:=QA hbb4;have U:=QA hr4;have Q:=QA hn4;clear h4 hf4 hbb4 hr4 hn4;go_wp2_with fail;refine bodyPost_ret (v:=.tuple #[.pointer (some ⟨w.heap.size+1,0,none⟩),.int .i64 0]) (by simp[results,Tryz.results21,go_sem]) rfl ?_;have C:w.heap.size<J.heap.size:=N.out.lt;have W:w4.ownsMap Tryz.prog 40 Sto.elemR w.heap.size 0 (.map []):=ownsMap_at N.out ((E.out.block _ (ZT C o.out.size) K.out (by omega)).trans (o.out.block _ C));refine⟨w.heap.size+1,V4,own4,sv4,w.heap.size,[],rfl,by omega,X.out,(SFr.below D.out).trans E.out,(D.out.mono hbase).trans I.out,U.out,?_,Q.out,⟨W,⟨?_,by omega⟩,λp hp=>(by cases hp),λp hp=>(by cases hp)⟩,rfl,List.Pairwise.nil⟩
 ·exact (E.out.tags _ (ZT (AC F.out) o.out.size)).trans M.out
 ·exact (E.out.tags _ (ZT C o.out.size)).trans K.out
end Go.Proofs.YtjldahcckmmenaaGreatDoor
