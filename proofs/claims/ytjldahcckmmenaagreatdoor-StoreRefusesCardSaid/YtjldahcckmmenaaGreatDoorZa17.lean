/-
  The store: Write, walked up to where a batch goes to its segment. The store: begin, and Open of a file system that holds nothing, walked.
-/
import Derived.Test.YtjldahcckmmenaaGreatDoorZa14
import Derived.Test.YtjldahcckmmenaaGreatDoorZa15
import Derived.Test.YtjldahcckmmenaaGreatDoorZa16
import Derived.Test.YtjldahcckmmenaaGreatDoorZa12
import Derived.Test.YtjldahcckmmenaaGreatDoorZa11
open Array renaming getInternal_eq_getElem → QD
open Go.Lib renaming hid → QA
open List renaming setIfInBounds_toArray → QC, drop_succ_cons → QE, take_succ_cons → QF, set_cons_succ → QG, set_cons_zero → QH, getElem_cons_zero → QI, getElem_cons_succ → QJ, getElem_toArray → QK, drop_zero → QL, take_zero → QN, length_map → QV, mem_of_getElem? → QZ, getElem?_eq_getElem → ZG, map_cons → ZP, map_append → ZQ
open Nat renaming le_refl → QM, le_trans → QQ, lt_of_lt_of_le → ZT
namespace Go.Proofs.YtjldahcckmmenaaGreatDoor
set_option maxRecDepth 100000
set_option maxHeartbeats 4000000
set_option linter.unusedSimpArgs false
set_option linter.unusedVariables false
open Go Go.RowKit
open Go.Maps Go.WideMaps
namespace Sto
def wcode (S:List Seg) (ops:List Op):Int:=if chk ops≠0 then chk ops else if 50000<live (chgs (ents S) ops) then 8 else 0
def Goes (S:List Seg) (ops:List Op):Prop:=chk ops=0∧live (chgs (ents S) ops)≤50000∧0<ops.length
instance (S : List Seg) (ops : List Op) : Decidable (Goes S ops) := inferInstanceAs (Decidable (_ ∧ _ ∧ _))
def wrote (S:List Seg) (ops:List Op):List Seg:=if Goes S ops then put S ops else S
theorem HH (x:Op):∀l:Ents,live (CG x l)=live l+(44+x.2.2.length)
 | []=>by simp[live,CG]
 | y::r=>by
  unfold CG;split
  ·unfold live;simp only[ZP,List.sum_cons];omega
  ·have:=HH x r;unfold live at this ⊢;simp only[ZP,List.sum_cons];omega
theorem Cf (k:List UInt8):∀l:Ents,live (A5 l k)≤live l
 | []=>QM _
 | y::r=>by
  have:=Cf k r;unfold A5 live at this ⊢;rw[List.filter_cons];split
  ·simp only[ZP,List.sum_cons];omega
  ·simp only[ZP,List.sum_cons];omega
theorem Dv (l:Ents) (o:Op):live (chg l o)≤live l+(44+o.2.2.length):=by
 unfold chg;have:=Cf o.1 l;split
 ·omega
 ·rw[HH];omega
theorem live_chgs_le:∀(ops:List Op) (l:Ents),live (chgs l ops)≤live l+(9*ops.length+mass ops)
 | [],l=>Nat.le_add_right _ _
 | o::r,l=>by
  have C:=live_chgs_le r (chg l o);have B:=Dv l o;have A:chgs l (o::r)=chgs (chg l o) r:=rfl;rw[A,IV,List.length_cons];omega
theorem live_len (l:Ents):44*l.length≤live l:=by
 induction l with
 | nil=>exact QM _
 | cons x r ih =>
  unfold live at ih ⊢;simp only[ZP,List.sum_cons,List.length_cons];omega
theorem DiskX.live {f:Fs.St} {k:Nat} {ver:Int} {S:List Seg} {M:Nat} (h:DiskX f k ver S M):Sto.live (ents S)≤50000:=by
 have:=h.lv (batches S).length
 rwa [List.take_length]at this
theorem wcode_ok {S:List Seg} {ops:List Op} (h1:chk ops=0) (h2:live (chgs (ents S) ops)≤50000):wcode S ops=0:=by
 unfold wcode;rw[if_neg (by rw[h1];simp),if_neg (by omega)]
theorem chk_len {ops:List Op} (h:chk ops=0):ops.length≤64∧mass ops≤8192:=by
 unfold chk at h;split at h
 ·cases h
 split at h
 ·cases h
 split at h
 ·cases h
 ·omega
end Sto
abbrev PB:=List UInt8×Value
structure CW (w:World) (base:Nat) (v:Value) (ps:List PB):Prop where
 row:w.ownsRow base 41 1 v ps.length (ps.map (·.2))
 pay:∀p∈ps,Ag w base p.2 p.1
 apart:∀p∈ps,∀g,p.2.ownBlock=some g→v.ownBlock≠some g
theorem CW.keep {w w':World} {base:Nat} {v:Value} {ps:List PB} (h:CW w base v ps) (hb:Below w.heap.size w w'):CW w' base v ps :=
 ⟨AQ h.row (λg hg=>hb.block g (h.row.lt g hg).2),λp hp=>(h.pay p hp).keep hb,h.apart⟩
theorem CW.nil (w:World) (base:Nat):CW w base (.slice none 0 0) []:=⟨World.ownsRow_nil _ _ _ _,λp h=>by simp at h,λp h=>by simp at h⟩
theorem CW.more {w w5:World} {base:Nat} {v v' x:Value} {ps:List PB} {l:List UInt8} (h:CW w base v ps) (hx:Ag w base x l) (hne:∀g,x.ownBlock=some g→v.ownBlock≠some g)
  (hrow:w5.ownsRow base 41 1 v' (ps.length+1) (ps.map (·.2)++[x])) (hg:w.grownBy w5 v.ownBlock) (hloc:v'.ownBlock=v.ownBlock∨v'.ownBlock=some w.heap.size) :
  CW w5 base v' (ps++[(l,x)]):=by
 have o:∀(y:Value) (l:List UInt8),Ag w base y l→(∀g,y.ownBlock=some g→v.ownBlock≠some g)→Ag w5 base y l∧(∀g,y.ownBlock=some g→v'.ownBlock≠some g):=λy l hy hn =>
  ⟨AQ hy (λg hg2=>hg.block g (hy.lt g hg2).2 (λe=>hn g hg2 e.symm)),λg hg2=>by
   rcases hloc with e|e
   ·rw[e];exact hn g hg2
   ·rw[e];intro e2;have:=(hy.lt g hg2).2;simp at e2;omega⟩
 refine⟨?_,λp hp=>?_,λp hp=>?_⟩
 ·rw[List.length_append,ZQ];exact hrow
 ·rcases List.mem_append.1 hp with hp|hp
  ·exact (o p.2 p.1 (h.pay p hp) (h.apart p hp)).1
  ·simp at hp;subst hp;exact (o x l hx hne).1
 ·rcases List.mem_append.1 hp with hp|hp
  ·exact (o p.2 p.1 (h.pay p hp) (h.apart p hp)).2
  ·simp at hp;subst hp;exact (o x l hx hne).2
theorem CW.form {w:World} {base:Nat} {v:Value} {ps:List PB} (h:CW w base v ps):∃a c,v=.slice a ps.length c:=by
 rcases h.row.2 with⟨h1,h2⟩|⟨g,cap,cur,h1,_⟩
 ·exact⟨none,0,by rw[h1,h2]⟩
 ·exact⟨_,_,h1⟩
theorem CW.prts {w:World} {base:Nat} {v:Value} {ps:List PB} (h:CW w base v ps):CM w v (ps.map (·.1)):=by
 have o:=λg hg=>World.ownsRow.cells (g:=g) h.row hg
 rcases h.row.2 with⟨h1,h2⟩|⟨g,cap,cur,h1,hg,hb,hc,hm,_,_⟩
 ·have B:ps=[]:=List.eq_nil_of_length_eq_zero h2;subst B;exact⟨none,0,h1,QM _,λi x hx=>by simp at hx⟩
 ·refine⟨some ⟨g,0,none⟩,cap,by rw[h1,QV],by rw[QV];exact hc,λi x hx=>?_⟩;rw[List.getElem?_map,Option.map_eq_some_iff]at hx;obtain⟨p,A,rfl⟩:=hx;have:=o g (by rw[h1];rfl) i p.2 (by rw[List.getElem?_map,A];rfl);rw[addr_add]at this;exact⟨g,0,p.2,rfl,AD hb,by rw[Nat.zero_add];exact this,(h.pay p (QZ A)).byts⟩
theorem As.next {w w':World} {own own':Nat→Tag} {B r:Nat} {s:Sto.St} {mb:Nat} {sv:Value} {l:Sto.ME} (h:As w own B r s mb sv l) (hf:SFr r own own' w w') (hr:w'.heap[r]?=w.heap[r]?):As w' own' B r s mb sv l :=
 ⟨hr.trans h.root,(hf.tags r (AD h.root)).trans h.mine,h.segs.mv hf.mv,h.ents.mv hf.mv,h.is,h.srt⟩
theorem As.below {w w':World} {own:Nat→Tag} {B r:Nat} {s:Sto.St} {mb:Nat} {sv:Value} {l:Sto.ME} (h:As w own B r s mb sv l) (hb:Below w.heap.size w w'):As w' own B r s mb sv l :=
 h.next (SFr.below hb) (hb.block r (AD h.root))
theorem SFr.kept_of {r:Nat} {own:Nat→Tag} {w w':World} (h:SFr r own own w w') (hr:own r=.other) (hall:∀o,SFr r o o w w'):Kept own (·=.other) w w' :=
 ⟨h.os,h.tape,h.output,h.size,λb hb hn=>(hall (λ_=>.other)).block b hb rfl λe=>hn (by rw[e];exact hr)⟩
theorem SFr.below_of {r base:Nat} {w w':World} (hall:∀o,SFr r o o w w') (hr:base≤r) (hb:base≤w.heap.size):Below base w w' :=
 ⟨(hall λ_=>.other).os,(hall λ_=>.other).tape,(hall λ_=>.other).output,(hall λ_=>.other).size,λk hk=>(hall (λ_=>.other)).block k (by omega) rfl (by omega)⟩
theorem Bt.below {mb:Nat} {w w':World} (h:Bt mb w w') {n:Nat} (hn:n≤mb) (hs:n≤w.heap.size):Below n w w':=⟨h.os,h.tape,h.output,h.size,λk hk=>h.block k (by omega) rfl (by omega)⟩
def Es (base B r:Nat) (f:Fs.St) (own:Nat→Tag) (S:List Sto.Seg) (M k:Nat) (w w':World):Prop :=
 ∃f' V' own' ver' mb' sv' l',Ae base B f' V' own' w'∧SFr r own own' w w'∧Below base w w'∧As w' own' B r ⟨ver',Sto.ids S,Sto.ents S,false⟩ mb' sv' l'∧Sto.Disk f' (k+14) ver' S M∧f'.room=f.room
structure Cr (base B r mb mb2:Nat) (f:Fs.St) (own:Nat→Tag) (S:List Sto.Seg) (M k:Nat) (v:Value) (ops l3:Sto.ME) (w x:World) (g:Fs.St) (V8:FsV) (own8:Nat→Tag) (ver8:Int) (sv8:Value) (ids8:List Int) (a8:Int):Prop where
 fs:Ae base B g V8 own8 x
 fr:SFr r own own8 w x
 bel:Below base w x
 root:x.heap[r]?=some (.cells (AF ver8 sv8 mb B false) 51 (0,0))
 mine:own8 r=.other
 seg:Dc x (SF r own8) sv8 ids8
 ne:ids8≠[]
 few:ids8.length≤1000000
 act:ids8.getLastD 0=a8
 map:Cu x (SF r own8) mb2 l3
 opv:Au x (SF r own8) v ops
 small:Fs.Small g
 calm:Fs.Calm g
 code:(Sg.append g a8 1 (Sto.flat (Sto.opsOf ops))).2=0
 room:(Sg.append g a8 1 (Sto.flat (Sto.opsOf ops))).1.room=f.room
 disk:Sto.Disk (Sg.append g a8 1 (Sto.flat (Sto.opsOf ops))).1 (k+14) ver8 (Sto.put S (Sto.opsOf ops)) M
 ids:Sto.ids (Sto.put S (Sto.opsOf ops))=ids8
theorem A9.toF {w:World} {G:Nat→Prop} {r mb2:Nat} {own:Nat→Tag} {l:Sto.ME} (h:A9 w G mb2 l) (hG:∀b,G b→SF r own b) (hm:SF r own mb2):Cu w (SF r own) mb2 l :=
 ⟨h.map,hm,h.key,λp hp=>(h.val p hp).mv ⟨QM _,λb _ hb=>⟨hG b hb,rfl⟩⟩⟩
section
variable {base B r mb mb2 : Nat} {f : Fs.St} {V8 : FsV} {own own8 : Nat → Tag} {ver : Int} {sv8 : Value} {S0 : List Sto.Seg} {a : Int} {bs : List (List Sto.Op)} {M k : Nat} {v : Value} {ops l3 : Sto.ME} {w x : World}
theorem Cr.of0 (hD:Sto.Disk f k ver (S0++[(a,bs)]) M) (hC:Sto.Can f k (S0++[(a,bs)]) M (Sto.opsOf ops)) (hb:¬4096<(Sto.fileOf bs).length) (ho:Sto.GoodB (Sto.opsOf ops)) (hl:Sto.live (Sto.chgs (Sto.ents (S0++[(a,bs)])) (Sto.opsOf ops))≤50000)
  (fs:Ae base B f V8 own8 x) (fr:SFr r own own8 w x) (bel:Below base w x) (root:x.heap[r]?=some (.cells (AF ver sv8 mb B false) 51 (0,0))) (mine:own8 r=.other) (seg:Dc x (SF r own8) sv8 (Sto.ids (S0++[(a,bs)])))
  (map:Cu x (SF r own8) mb2 l3) (opv:Au x (SF r own8) v ops):Cr base B r mb mb2 f own (S0++[(a,bs)]) M k v ops l3 w x f V8 own8 ver sv8 (Sto.ids (S0++[(a,bs)])) a:=by
 obtain⟨D,C,A⟩:=hD.add0 hC hb ho hl;have o:=Mf.good_out hD.x.good;refine⟨fs,fr,bel,root,mine,seg,λe=>?_,by have:=o.2.1.2;omega,Sto.act_ids hD,map,opv,hD.x.sound.small (by have:=hC.small;omega),hD.x.calm,D,C,A.mono (by omega) (QM _),?_⟩
 ·have:=o.2.1.1;rw[e]at this;simp at this
 ·rw[Sto.put_snoc,if_neg hb,Sto.ids_app,Sto.ids_app];rfl
theorem Cr.of1 (hD:Sto.Disk f k ver (S0++[(a,bs)]) M) (hC:Sto.Can f k (S0++[(a,bs)]) M (Sto.opsOf ops)) (hb:4096<(Sto.fileOf bs).length) (ho:Sto.GoodB (Sto.opsOf ops)) (hl:Sto.live (Sto.chgs (Sto.ents (S0++[(a,bs)])) (Sto.opsOf ops))≤50000)
  (fs:Ae base B (Mf.save (Sg.create f (a+1)).1 (wrap64 (ver+1)) (Sto.ids (S0++[(a,bs)])++[a+1])).1 V8 own8 x) (fr:SFr r own own8 w x) (bel:Below base w x) (root:x.heap[r]?=some (.cells (AF (ver+1) sv8 mb B false) 51 (0,0))) (mine:own8 r=.other)
  (seg:Dc x (SF r own8) sv8 (Sto.ids (S0++[(a,bs)])++[a+1]))
  (map:Cu x (SF r own8) mb2 l3) (opv:Au x (SF r own8) v ops):Cr base B r mb mb2 f own (S0++[(a,bs)]) M k v ops l3 w x (Mf.save (Sg.create f (a+1)).1 (wrap64 (ver+1)) (Sto.ids (S0++[(a,bs)])++[a+1])).1 V8 own8 (ver+1) sv8 (Sto.ids (S0++[(a,bs)])++[a+1]) (a+1):=by
 obtain⟨_,_,_,_,_,E,o⟩:=hD.grow hC hb;obtain⟨D,C,A⟩:=o.add1 hC E hb ho hl;have F:=Mf.good_out hD.x.good;refine⟨fs,fr,bel,root,mine,seg,λe=>by simp at e,by have:=F.2.1.2;simp;omega,by simp,map,opv,o.x.sound.small (by have:=hC.small;omega),o.x.calm,D,C,A,?_⟩;rw[Sto.put_snoc,if_pos hb,Sto.ids_app];rfl
end
theorem Es.still {base B r:Nat} {f:Fs.St} {V:FsV} {own:Nat→Tag} {S:List Sto.Seg} {M k mb:Nat} {ver:Int} {sv:Value} {l:Sto.ME} {w w':World} (h:Ae base B f V own w) (hA:As w own B r ⟨ver,Sto.ids S,Sto.ents S,false⟩ mb sv l) (hD:Sto.Disk f k ver S M)
  (hbase:base≤w.heap.size) (hb:Below w.heap.size w w'):Es base B r f own S M k w w' :=
 ⟨f,V,own,ver,mb,sv,l,h.kept (AC hb),SFr.below hb,hb.mono hbase,hA.below hb,hD.mono (by omega) (QM _),rfl⟩
theorem Hr (base B r mb:Nat) (f:Fs.St) (V:FsV) (own:Nat→Tag) (ver:Int) (sv:Value) (S0:List Sto.Seg) (a:Int) (bs:List (List Sto.Op)) (M k:Nat) (l:Sto.ME) (v:Value) (ops:Sto.ME) (w:World)
  (h:Ae base B f V own w) (hE:A0 base w) (hbase:base≤w.heap.size) (hrb:base≤r) (hA:As w own B r ⟨ver,Sto.ids (S0++[(a,bs)]),Sto.ents (S0++[(a,bs)]),false⟩ mb sv l) (hD:Sto.Disk f k ver (S0++[(a,bs)]) M)
  (ho:Au w (SF r own) v ops) (hol:ops.length≤1000000000) (hbl:∀p∈ops,p.1.2.2.length≤1000000000) (hk:∀p∈ops,p.1.1.length=32) (hC:Sto.Goes (S0++[(a,bs)]) (Sto.opsOf ops)→Sto.Can f k (S0++[(a,bs)]) M (Sto.opsOf ops)) :
  Calls Tryz.prog 13 #[.pointer (some ⟨r,0,none⟩),v] w λe w'=>e=.returned (.int .i64 (Sto.wcode (S0++[(a,bs)]) (Sto.opsOf ops)))∧Es base B r f own (Sto.wrote (S0++[(a,bs)]) (Sto.opsOf ops)) M k w w':=by
 obtain⟨va,vc,rfl⟩:=ho.form;obtain⟨S,P⟩:∃q,S0++[(a,bs)]=q:=⟨_,rfl⟩
 have HS:=QA P;rw[P]at hA hD hC ⊢;have cJ:=AD hA.root;have I:=hA.root;have b9:=hA.mine;have br:=Sto.opsOf_len ops;have H:=QA h;have HE:=QA hE;have HA:=QA hA;have HD:=QA hD;have HO:=QA ho;have HC:=QA hC;have bx:=QA b9;have cG:=QA I;have aG:=QA br;have y0:=rc0 I;have y1:=rc1 I;have y2:=rc2 I;have y3:=rc3 I;have y4:=rc4 I;clear h hE hA hD ho hC P I b9 br;go_enter Tryz.func13,Tryz.ntmps13;go_wp2_with fail;refine (C6 _ ops w _ HO.out hol (λp hp=>by have:=hbl p hp;omega)).mono ?_;rintro e w1 ⟨rfl,hb1⟩;have aQ:=QA hb1;clear hb1 y0 y1 y2 y3 y4;by_cases hc0:Sto.chk (Sto.opsOf ops)=0
 ·have ae:=QA hc0;have cH:(Sto.chk (Sto.opsOf ops) != 0)=false:=by rw[hc0];rfl
  have a3:Hid (w1.heap[r]?=some (.cells (AF ver sv mb B false) 51 (0,0))):=QA ((aQ.out.block r cJ).trans cG.out);have y0:=rc0 a3.out;have y1:=rc1 a3.out;have y2:=rc2 a3.out;have y3:=rc3 a3.out;have y4:=rc4 a3.out;clear hc0;go_wp2_with fail;refine (LS mb l.length l w1 (ownsMap_at HA.out.ents.map (aQ.out.block mb HA.out.ents.map.lt))).mono ?_;rintro e w2 ⟨rfl,hm2,hb2⟩;have bT:=aQ.out.size;have O:=QA (aQ.out.trans (hb2.mono bT));have cU:=QA hb2;have cT:=hm2.lt;have cy:Hid (A9 w2 (λb=>SF r own b∧b≠w1.heap.size) w1.heap.size l):=QA ⟨LM.of hm2,HA.out.ents.key,λp hp=>(HA.out.ents.val p hp).mv ⟨O.out.size,λb hb hf=>⟨⟨hf,by omega⟩,O.out.block b hb⟩⟩⟩;have aP:Hid (Au w2 (λb=>SF r own b∧b≠w1.heap.size) (.slice va ops.length vc) ops):=QA (HO.out.mv ⟨O.out.size,λb hb hf=>⟨⟨hf,by omega⟩,O.out.block b hb⟩⟩);have b6:=QA (show l.length=(Sto.ents S).length by have N:=congrArg List.length HA.out.is;rw[QV]at N;exact N);have bq:=QA (Sto.DiskX.live HD.out.x);have cI:Hid (l.length≤1000000000):=QA (by have N:=Sto.live_len (Sto.ents S);have h2:=bq.out;have h3:=b6.out;omega);clear hm2 hb2 y0 y1 y2 y3 y4;go_wp2_with fail;refine (D8 w1.heap.size l _ ops w2 _ (λb hb=>hb.2) (λb hb=>⟨⟨H.out.fresh b (by have:=O.out.size;omega),by omega⟩,by omega⟩) cy.out aP.out hol cI.out hbl).mono ?_;rintro e w3 ⟨rfl,l3,hm3,he3,hbt3,-⟩;have al:Hid (Below w.heap.size w w3):=QA (O.out.trans (hbt3.below bT O.out.size));have bt:l3.map (·.1)=Sto.chgs (Sto.ents S) (Sto.opsOf ops):=by rw[he3,HA.out.is]
  have ce:=QA hm3;have aR:=QA bt;have bc:Hid (Sto.Srt (Sto.chgs (Sto.ents S) (Sto.opsOf ops))):=QA (Sto.srt_chgs _ HA.out.srt);have cA:Hid ((l3.map λp=>p.1.1).Nodup):=by
   have N:((Sto.chgs (Sto.ents S) (Sto.opsOf ops)).map (·.1)).Nodup:=by
    rw[List.Nodup,List.pairwise_map];exact List.Pairwise.imp (R:=λa b:Sto.Op=>a.1<b.1) (λ{a b} h e=>by rw[e]at h;exact List.lt_irrefl _ h) bc.out
   rw[← aR.out,List.map_map]at N;exact QA N
  have b7:Hid (Sto.live (l3.map (·.1))≤1000000000000):=QA (by rw[aR.out];have N:=Sto.live_chgs_le (Sto.opsOf ops) (Sto.ents S);have h2:=bq.out;have h3:=Sto.chk_len ae.out;omega);clear hm3 he3 bt hbt3;go_wp2_with fail;refine (Co w1.heap.size l3 w3 _ ce.out cA.out b7.out).mono ?_;rintro e w4 ⟨rfl,hb4⟩;rw[aR.out];have a2:=QA (al.out.trans (hb4.mono al.out.size));have cE:=QA (ce.out.below hb4);clear hb4;by_cases hlv:50000<Sto.live (Sto.chgs (Sto.ents S) (Sto.opsOf ops))
  ·have cb:(50000:Int)<(Sto.live (Sto.chgs (Sto.ents S) (Sto.opsOf ops)):Nat):=by omega
   have K:Hid (Sto.wcode S (Sto.opsOf ops)=8):=QA (by unfold Sto.wcode;rw[if_neg (by rw[ae.out];simp),if_pos hlv]);have W:Hid (Sto.wrote S (Sto.opsOf ops)=S):=QA (if_neg λhg=>by have:=hg.2.1;omega);clear hlv;go_wp2_with fail;refine bodyPost_ret (v:=.int .i64 8) (by simp[results,Tryz.results13,go_sem]) rfl ?_;exact⟨by rw[K.out],by rw[W.out];exact Es.still H.out HA.out HD.out hbase a2.out⟩
  ·have cb:((Sto.live (Sto.chgs (Sto.ents S) (Sto.opsOf ops)):Nat):Int)≤50000:=by omega
   have K:Hid (Sto.wcode S (Sto.opsOf ops)=0):=QA (Sto.wcode_ok ae.out (by omega));have bv:=QA hlv;clear hlv;by_cases hn0:ops.length=0
   ·have W:Hid (Sto.wrote S (Sto.opsOf ops)=S):=QA (if_neg λhg=>by have:=hg.2.2;have:=aG.out;omega);have cL:((ops.length:Int)==0)=true:=by rw[beq_iff_eq];omega
    clear hn0;go_wp2_with fail;refine bodyPost_ret (v:=.int .i64 0) (by simp[results,Tryz.results13,go_sem]) rfl ?_;exact⟨by rw[K.out],by rw[W.out];exact Es.still H.out HA.out HD.out hbase a2.out⟩
   ·have cL:((ops.length:Int)==0)=false:=by rw[beq_eq_false_iff_ne];omega
    have bp:Sto.Goes S (Sto.opsOf ops):=⟨ae.out,by have:=bv.out;omega,by have:=aG.out;omega⟩
    have b3:Hid (Sto.wrote S (Sto.opsOf ops)=Sto.put S (Sto.opsOf ops)):=QA (if_pos bp);have aH:=QA (HC.out bp);have b5:Hid (Sto.GoodB (Sto.opsOf ops)):=QA ⟨ae.out,bp.2.2,λo ho=>by
     obtain⟨p,hp,e⟩:=List.mem_map.1 ho;rw[← e];exact hk p hp⟩
    have cd:Hid ((a,bs)∈S):=QA (by rw[← HS.out];exact List.mem_append_right _ (List.mem_singleton.2 rfl));have b2:=QA (Sto.DiskX.at HD.out.x cd.out);have cl:=QA (Mf.good_out HD.out.x.good);have cO:Hid (Sto.ids S≠[]):=QA λe=>by have:=cl.out.2.1.1;rw[e]at this;simp at this
    have cg:Hid ((Sto.ids S).length≤1000000):=QA (by have:=cl.out.2.1.2;omega);have cp:Hid ((Sto.ids S).getLastD 0=a):=QA (by rw[← HS.out];exact Sto.act_snoc S0 (a,bs));have ch:=QA (HA.out.below a2.out);have aI:Hid (S≠[]):=QA (by rw[← HS.out];simp);have cu:Hid (SF r own w1.heap.size):=QA ⟨H.out.fresh _ bT,by omega⟩;clear bp;go_wp2_with fail;refine (B3 w4 r B mb ver sv false (Sto.ids S) ch.out.root ch.out.segs.1 cO.out cg.out).mono ?_;rintro e w5 ⟨rfl,n5,rfl⟩;rw[cp.out];have bY:Below w4.heap.size w4 (w4.drewN n5):=Below.drewN (Below.refl _ w4) n5;have af:=QA (a2.out.trans (bY.mono a2.out.size));have ct:=QA (cE.out.below bY);clear bY;obtain⟨w5,ck⟩:∃x,w4.drewN n5=x:=⟨_,rfl⟩
    rw[ck]at af ct ⊢;clear ck;go_wp2_with fail;refine (CE a w5 base (HE.out.below (af.out.mono hbase))).mono ?_;rintro e w6 ⟨rfl,hb6⟩;have bo:=QA (af.out.trans (hb6.mono af.out.size));have cz:=QA (ct.out.below hb6);have bl:=QA (HA.out.below bo.out);clear hb6;obtain⟨sn,bn⟩:∃t:ByteArray,t=⟨(Sg.nameB a).toArray⟩:=⟨_,rfl⟩
    rw[← bn];have HN:Hid (sn.data.toList=Sg.nameB a):=by rw[bn];exact QA rfl
    have cY:sn.size≤25:=by rw[bn];exact GA a
    clear bn;have y0:=rc0 bl.out.root;have y1:=rc1 bl.out.root;have y2:=rc2 bl.out.root;have y3:=rc3 bl.out.root;have y4:=rc4 bl.out.root;go_wp2_with fail;refine (EW base B f V own sn w6 (H.out.kept (AC bo.out)) (by omega) (λf1 hf=>by have:=((HD.out.x.sound.small (by have:=aH.out.small;omega))).file f1 hf;omega)).mono ?_;rintro e w7 ⟨hb7,hres⟩;rw[HN.out]at hres;rcases hres with⟨h0,f1,v7,hf,rfl,ho7⟩|⟨h0,-⟩
    ·skip
     have cj:f1.1=Sto.fileOf bs:=by
      have N:=b2.out.2;unfold Fs.fileAt at N;rw[hf]at N;exact N
     obtain⟨ra,rc,cQ⟩:=ho7.slice;subst cQ;rw[cj];have aa:=QA (bo.out.trans (hb7.mono bo.out.size));have cr:=QA (cz.out.below hb7);have a4:=QA (HA.out.below aa.out);clear hb7 h0 hf ho7 y0 y1 y2 y3 y4 cj;by_cases hbig:4096<(Sto.fileOf bs).length
     ·have bW:(4096:Int)<((Sto.fileOf bs).length:Nat):=by omega
      have aJ:=QA hbig;clear hbig;go_wp2_with fail;refine (JG base B r mb f V own ver sv S0 a bs M k (Sto.opsOf ops) false w7 (H.out.kept (AC aa.out)) (HE.out.below (aa.out.mono hbase)) (QQ hbase aa.out.size) a4.out.root bx.out hrb (by rw[HS.out];exact a4.out.segs) (by rw[HS.out];exact HD.out) (by rw[HS.out];exact aH.out) aJ.out).mono ?_;rintro e w8 ⟨rfl,V8,own8,sv8,h8,hf8,hbb8,hr8,hn8⟩;have cf:own8 r=.other:=(hf8.tags r (AD a4.out.root)).trans bx.out;have H8:=QA h8;have bf:=QA hf8;have bj:Hid (Below base w w8):=QA ((aa.out.mono hbase).trans hbb8);have co:=QA hr8;have cm:=QA hn8;have bN:=QA cf;clear h8 hf8 hbb8 hr8 hn8 cf;go_wp2_with fail;refine (EY w8 r B mb (ver+1) sv8 false 0 co.out).mono ?_;rintro e w9 ⟨rfl,hr9,hall⟩;have bE:Hid (SFr r own own8 w w9):=QA (((SFr.below aa.out).trans bf.out).trans (hall own8));have aW:Hid (Cr base B r mb w1.heap.size f own S M k (.slice va ops.length vc) ops l3 w w9 _ V8 own8 (ver+1) sv8 (Sto.ids (S0++[(a,bs)])++[a+1]) (a+1)):=QA (by
       have N:=Cr.of1 (mb:=mb) (B:=B) (r:=r) (base:=base) (own:=own) (w:=w) (v:=.slice va ops.length vc) (mb2:=w1.heap.size) (by rw[HS.out];exact HD.out) (by rw[HS.out];exact aH.out) aJ.out b5.out (by rw[HS.out];have:=bv.out;omega) (H8.out.kept (SFr.kept_of (hall own8) bN.out hall)) bE.out
        (bj.out.trans (SFr.below_of hall hrb (QQ hbase bj.out.size))) hr9 bN.out (cm.out.mv (hall own8).mv) (((A9.toF cr.out (λb hb=>hb.1) cu.out).mv bf.out.mv).mv (hall own8).mv) (HO.out.mv bE.out.mv)
       rw[HS.out]at N;rw[HS.out];exact N)
      clear hr9 hall bN cm co bj bf H8 bE;go_wp2_with fail;obtain⟨g,V9,G,A,F,U,a9,E⟩:∃g V9 G A F U a9,Hid (Cr base B r mb w1.heap.size f own S M k (.slice va ops.length vc) ops l3 w w9 g V9 G A F U a9):=⟨_,_,_,_,_,_,_,aW⟩
      clear aW;have bh:=QA (show ∀o∈Sto.opsOf ops,(0≤o.2.1∧o.2.1≤9)∧o.2.2.length≤8192 from λo ho=>⟨Sto.chk_kinds ae.out o ho,by have N:=Sto.mass_mem ho;have h2:=(Sto.chk_len ae.out).2;omega⟩)
      go_loopg [12,66] ops.length (λdn s12 s66 wr=>∃(j:Nat) (T:List PB),j≤ops.length∧dn=ops.length-j∧s66=.int .i64 (j:Nat)∧CW wr (w9).heap.size s12 T∧T.map (·.1)=((Sto.opsOf ops).take j).map Sto.bytes∧Below (w9).heap.size w9 wr)
      case atStart=>exact⟨0,[],Nat.zero_le _,rfl,rfl,CW.nil _ _,rfl,Below.refl _ _⟩
      case round =>
       obtain⟨j,T,hj,aY,rfl,hP,ar,hB⟩:=hrel;have HK:=QA aY;have HP:=QA hP;have a6:=QA ar;have HB:=QA hB;have bd:Hid (T.length=j):=by
        have N:=congrArg List.length ar;rw[QV,QV,List.length_take,Sto.opsOf_len]at N;exact QA (by omega)
       clear aY hP ar hB;have cC:(0:Int)≤(j:Int):=Int.natCast_nonneg _;by_cases hjn:j<ops.length
       ·have bi:(j:Int)<(ops.length:Int):=by omega
        obtain⟨⟨o,pv⟩,hp⟩:∃p,ops[j]?=some p:=⟨_,ZG hjn⟩
        obtain⟨X,aT,bg,bC,rfl,hg,aF⟩:=(E.out.opv.mv (MV.below HB.out)).at hp;have ad:=aT.1;have aD:=Sto.opsOf_get hp;have bb:=QA (bh.out o (QZ aD));have aU:Hid ((Sto.opsOf ops).take (j+1)=(Sto.opsOf ops).take j++[o]):=by rw[List.take_add_one,aD];exact QA rfl
        obtain⟨pa,pc,a8,bI⟩:=ad.form;simp only at a8 X ad aF aU;subst a8;have aZ:=Al.new wr o (.slice pa o.2.2.length pc);have a0:=QA aZ.range;have aS:=QA ad;have L:=QA X;have HW:Hid (Below wr.heap.size wr (wr.alloc (.cells (AH o (.slice pa o.2.2.length pc)).toArray 43))):=QA ((Below.refl _ _).alloc (QM _) _);clear aZ ad X hp aT aD bI;go_wp2_with (first|(guard_target=wpList _ _ _ ({ dst:=_,op:=.load 43 _,type:=_,pos:=_,after:=_,guard:=none }::_) _ _;refine AR rfl _ rfl bg (bC+j*34) o (.slice pa o.2.2.length pc) L.out rfl aF ?_)|(guard_target=wpList _ _ _ ({ dst:=_,op:=.store 43 _ _,type:=_,pos:=_,after:=_,guard:=none }::_) _ _;refine AW rfl _ _ rfl _ rfl o (.slice pa o.2.2.length pc) L.out aS.out.one rfl rfl ?_)|(guard_target=wpList _ _ _ ({ dst:=_,op:=.load 43 _,type:=_,pos:=_,after:=_,guard:=none }::_) _ _;refine AR rfl _ rfl wr.heap.size 0 o (.slice pa o.2.2.length pc) L.out rfl a0.out ?_)|fail);obtain⟨wA,hA⟩:∃x,wr.alloc (.cells (AH o (.slice pa o.2.2.length pc)).toArray 43)=x:=⟨_,rfl⟩
        rw[hA]at HW a0 ⊢;clear hA aF;refine (ET o (.slice pa o.2.2.length pc) wA L.out bb.out.1 (aS.out.below HW.out) bb.out.2).mono ?_;rintro e wB ⟨v',rfl,ho2,hb2⟩;obtain⟨ca,cc,bK⟩:=ho2.slice;subst bK;have O:=QA (HB.out.trans ((HW.out.trans (hb2.mono HW.out.size)).mono HB.out.size));have bL:=O.out.size;have bG:=QA (HP.out.keep (HW.out.trans (hb2.mono HW.out.size)));have aP:=QA (ho2.mono (QQ HB.out.size HW.out.size));have bO:Hid (∀g2,(Value.slice ca (Sto.bytes o).length cc).ownBlock=some g2→u12.ownBlock≠some g2):=QA λg2 hg2 e=>by
         have N:=(ho2.lt g2 hg2).1;have h2:=(HP.out.row.lt g2 e).2;have h3:=HW.out.size;omega
        have ab:Below wB.heap.size wB (wB.alloc (.cells #[.slice ca (Sto.bytes o).length cc] 41)):=(Below.refl _ _).alloc (QM _) _;have an:=QA (bG.out.keep ab);have bF:=QA (aP.out.keep ab);have al:=QA (O.out.trans (ab.mono bL));have bk:=al.out.size;have bA:Hid (∀(j:Nat) u,[Value.slice ca (Sto.bytes o).length cc][j]?=some u→(wB.alloc (.cells #[.slice ca (Sto.bytes o).length cc] 41)).cell? ((⟨wB.heap.size,0,none⟩:Addr).add j)=some u):=by
         refine QA λj u hj=>?_
         rw[addr_add];exact An wB #[.slice ca (Sto.bytes o).length cc] 41 j u (by simpa using hj)
        obtain⟨i0,hi,bB,bP,bX⟩:=info_parts Hw;have ci:T.length≤1000000000:=by have:=bd.out;omega
        clear ho2 hb2 ab;go_wp2_with (first|(at_builtin;refine wpList_append_own_at _ rfl _ _ 92 rfl (w9).heap.size 41 i0 (.slice none 0 0) 1 24 Tryz.underlying92 hi bB bP bX rfl (by decide) u12 T.length (T.map (·.2)) rfl an.out.row ⟨wB.heap.size,0,none⟩ 1 1 [.slice ca (Sto.bytes o).length cc] rfl rfl bA.out (λu hu=>by simp at hu;subst hu;rfl) (by unfold maxLen;omega) (by omega) bk ?_;intro v5 w5 hrow hgrow hnil hloc;clear hnil;have a5:=QA (CW.more (l:=Sto.bytes o) an.out bF.out bO.out hrow hgrow hloc);have af:=QA (below_grown al.out bk an.out.row hgrow);clear hrow hgrow hloc)|fail);go_roundg (ops.length-(j+1))
        case measure=>rw[HK.out];omega
        case rel=>exact⟨j+1,_,by omega,rfl,by simp,a5.out,by rw[ZQ,a6.out,aU.out,ZQ];rfl,af.out⟩
       ·have bi:(ops.length:Int)≤(j:Int):=by omega
        have ag:Hid (T.map (·.1)=(Sto.opsOf ops).map Sto.bytes):=QA (by rw[a6.out,List.take_of_length_le (by have:=aG.out;omega)]);have aC:Hid ((T.map (·.1)).flatten=Sto.flat (Sto.opsOf ops)):=QA (by rw[ag.out];unfold Sto.flat;rw[List.flatMap_def]);have b0:Hid (∀x∈T.map (·.1),x.length≤1000000000):=QA λx hx=>by
         rw[ag.out]at hx;obtain⟨o,ho,rfl⟩:=List.mem_map.1 hx;obtain⟨p,hp,e⟩:=List.mem_map.1 ho;have N:=bh.out o ho;rw[Sto.bytes_len (by rw[← e];exact hk p hp)];omega
        have aB:w.heap.size≤(w9).heap.size:=E.out.fr.size;go_wp2_with fail;refine AK (λw'=>w'.heap[r]?=some (.cells (AF A F mb B false) 51 (0,0))) 11 (by kernel_rfl) ?_;have P:wr.drew.heap[r]?=some (.cells (AF A F mb B false) 51 (0,0)):=(HB.out.block r (AD E.out.root)).trans E.out.root;have aA:Below wr.heap.size wr wr.drew:=Below.drew (Below.refl _ wr);have ac:=QA (HB.out.trans (aA.mono HB.out.size));have aO:=QA (HP.out.keep aA);change Ad _ _ _ _ _ _ _ _ _ wr.drew;clear aA;obtain⟨wD,ba⟩:∃q:World,wr.drew=q:=⟨_,rfl⟩
        rw[ba]at P ac aO ⊢;clear ba;refine TK (i:=0) (v:=.pointer (some ⟨r,0,none⟩)) rfl (Or.inl ⟨by rfl,λw hSw=>by go_simp⟩) P ?_;simp only[Act.put,QD,QK,QI,QJ,QC,QH,QG];refine TK (i:=1) (v:=.pointer (some ⟨r,0,none⟩)) rfl (Or.inl ⟨by rfl,λw hSw=>by go_simp⟩) P ?_;simp only[Act.put,QD,QK,QI,QJ,QC,QH,QG];refine TK (i:=2) (v:=.pointer (some ⟨r,0,none⟩)) rfl (Or.inl ⟨by rfl,λw hSw=>by go_simp⟩) P ?_;simp only[Act.put,QD,QK,QI,QJ,QC,QH,QG];refine TK (i:=3) (v:=.pointer (some ⟨r,3,none⟩)) rfl (Or.inl ⟨by rfl,λw hSw=>by go_simp⟩) P ?_;simp only[Act.put,QD,QK,QI,QJ,QC,QH,QG];refine TK (i:=4) (v:=.pointer (some ⟨B,0,none⟩)) rfl (Or.inl ⟨by rfl,λw hSw=>by have cN:=rc3 hSw;go_simp⟩) P ?_;simp only[Act.put,QD,QK,QI,QJ,QC,QH,QG];refine TK (i:=5) (v:=.pointer (some ⟨r,0,none⟩)) rfl (Or.inl ⟨by rfl,λw hSw=>by go_simp⟩) P ?_;simp only[Act.put,QD,QK,QI,QJ,QC,QH,QG];refine TK (i:=7) (v:=u12) rfl (Or.inl ⟨by rfl,λw hSw=>by go_simp⟩) P ?_;simp only[Act.put,QD,QK,QI,QJ,QC,QH,QG];refine TO (i:=6) ?_;refine AB (by decide) (λK6 HK6=>?_);simp only[QE,QL,QF,QN];go_wp2_with fail;refine (B3 wD r B mb A F false U P (E.out.seg.1.below ac.out) E.out.ne E.out.few).mono ?_;rintro e wE ⟨rfl,nE,rfl⟩;rw[E.out.act];have ao:Below wD.heap.size wD (wD.drewN nE):=Below.drewN (Below.refl _ wD) nE;have Z:(wD.drewN nE).heap[r]?=some (.cells (AF A F mb B false) 51 (0,0)):=P;have J:=QA (ac.out.trans (ao.mono ac.out.size));have aX:=QA (aO.out.keep ao);clear ao;obtain⟨wE,a7⟩:∃q:World,wD.drewN nE=q:=⟨_,rfl⟩
        rw[a7]at Z J aX ⊢;clear a7;go_wp2;refine HK6.out _ _ ⟨λ_=>Z,?_⟩;clear HK6;refine TO (i:=8) ?_;refine AB (by decide) (λK8 HK8=>?_);simp only[QE,QL,QF,QN];go_wp2_with fail;have ah:(Fs.step g).2.1≤9223372036854775807:=by rw[Fs.step_calm E.out.calm];show (0:Int)≤_;decide
        have a1:base≤wE.heap.size:=QQ hbase (QQ aB J.out.size);refine (Cs base B g V9 G a9 1 u12 (T.map (·.1)) wE (E.out.fs.kept (AC J.out)) (HE.out.below (E.out.bel.trans (J.out.mono (QQ hbase aB)))) a1 E.out.small aX.out.prts (by rw[QV];have:=bd.out;omega) b0.out ah).mono ?_;rw[aC.out,E.out.code];rintro e wF ⟨rfl,hpost⟩;have Q:=AV.below0 (E.out.fs.kept (AC J.out)) hpost a1;obtain⟨VF,C,hF,au,ay⟩:=hpost;have ap:wF.heap[r]?=some (.cells (AF A F mb B false) 51 (0,0)):=(ay.block r (AD Z) (by rw[E.out.mine];simp)).trans Z;have be:Hid (SFr r G C w9 wF):=QA ((SFr.below J.out).trans (SFr.kept au ay));have aN:=QA hF;have av:Hid (C r=.other):=QA ((au r (AD Z)).trans E.out.mine);have aq:Hid (Below base w wF):=QA ((E.out.bel.trans (J.out.mono (QQ hbase aB))).trans Q);clear Q hF au ay ah;go_wp2;refine HK8.out _ _ ⟨λ_=>ap,?_⟩;clear HK8;refine TO (i:=9) ?_;refine AB (by decide) (λK9 HK9=>?_);simp only[QE,QL,QF,QN];go_wp2_with fail;refine (EY wF r B mb A F false 0 ap).mono ?_;rintro e wG ⟨rfl,hSG,hallG⟩;have D:wG.heap[r]?=some (.cells (AF A F mb B false) 51 (0,0)):=hSG;have am:Hid (SFr r G C w9 wG):=QA (be.out.trans (hallG C));have aV:=QA (aN.out.kept (SFr.kept_of (hallG C) av.out hallG));have bM:Hid (Below base w wG):=QA (aq.out.trans (SFr.below_of hallG hrb (QQ hbase aq.out.size)));clear hSG hallG aN be aq ap;go_wp2;refine HK9.out _ _ ⟨λ_=>D,?_⟩;clear HK9;refine TO (i:=10) ?_;refine AB (by decide) (λK10 HK10=>?_);simp only[QE,QL,QF,QN];go_wp2_with fail;refine HK10.out _ _ ⟨λ_=>D,?_⟩;clear HK10;refine AN (by kernel_rfl) ?_ _;have f2:=AE D 2;have y0:=rc0 D;have y1:=rc1 D;have y2:=rc2 D;have y3:=rc3 D;have y4:=rc4 D;go_wp2_with fail;refine bodyPost_ret (v:=.int .i64 0) (by simp[results,Tryz.results13,go_sem]) rfl ?_;have bU:Cu wG (SF r C) w1.heap.size l3:=E.out.map.mv am.out.mv;have Y:SFr r C C wG (wG.setCell ⟨r,2,none⟩ (.map (some w1.heap.size))):=SFr.set wG 2 _;refine⟨by rw[K.out],?_⟩;rw[b3.out];refine⟨_,VF,C,A,w1.heap.size,F,l3,aV.out.kept ((Kept.refl C (·=.other) wG).setCell ⟨r,2,none⟩ av.out _),(E.out.fr.trans am.out).trans Y,bM.out.setCell (p:=⟨r,2,none⟩) hrb _,⟨?_,av.out,?_,bU.mv Y.mv,?_,?_⟩,E.out.disk,E.out.room⟩
        ·exact heap_set (w:=wG) D _
        ·show Dc _ _ _ (Sto.ids _);rw[E.out.ids];exact (E.out.seg.mv am.out.mv).mv Y.mv
        ·show _=Sto.ents _;rw[Sto.ents_put aI.out];exact aR.out
        ·show Sto.Srt (Sto.ents _);rw[Sto.ents_put aI.out];exact bc.out
     ·have bW:(((Sto.fileOf bs).length:Nat):Int)≤4096:=by omega
      have aJ:=QA hbig;clear hbig;have aW:Hid (Cr base B r mb w1.heap.size f own S M k (.slice va ops.length vc) ops l3 w w7 f V own ver sv (Sto.ids (S0++[(a,bs)])) a):=QA (by
       have N:=Cr.of0 (mb:=mb) (B:=B) (r:=r) (base:=base) (own:=own) (w:=w) (v:=.slice va ops.length vc) (mb2:=w1.heap.size) (by rw[HS.out];exact HD.out) (by rw[HS.out];exact aH.out) aJ.out b5.out (by rw[HS.out];have:=bv.out;omega) (H.out.kept (AC aa.out)) (SFr.below aa.out)
        (aa.out.mono hbase) a4.out.root bx.out (by rw[HS.out];exact a4.out.segs) (A9.toF cr.out (λb hb=>hb.1) cu.out) (HO.out.mv (SFr.below aa.out).mv)
       rw[HS.out]at N;rw[HS.out];exact N)
      go_wp2_with fail;obtain⟨g,V9,G,A,F,U,a9,E⟩:∃g V9 G A F U a9,Hid (Cr base B r mb w1.heap.size f own S M k (.slice va ops.length vc) ops l3 w w7 g V9 G A F U a9):=⟨_,_,_,_,_,_,_,aW⟩
      clear aW;have bh:=QA (show ∀o∈Sto.opsOf ops,(0≤o.2.1∧o.2.1≤9)∧o.2.2.length≤8192 from λo ho=>⟨Sto.chk_kinds ae.out o ho,by have N:=Sto.mass_mem ho;have h2:=(Sto.chk_len ae.out).2;omega⟩)
      go_loopg [12,66] ops.length (λdn s12 s66 wr=>∃(j:Nat) (T:List PB),j≤ops.length∧dn=ops.length-j∧s66=.int .i64 (j:Nat)∧CW wr (w7).heap.size s12 T∧T.map (·.1)=((Sto.opsOf ops).take j).map Sto.bytes∧Below (w7).heap.size w7 wr)
      case atStart=>exact⟨0,[],Nat.zero_le _,rfl,rfl,CW.nil _ _,rfl,Below.refl _ _⟩
      case round =>
       obtain⟨j,T,hj,aY,rfl,hP,ar,hB⟩:=hrel;have HK:=QA aY;have HP:=QA hP;have a6:=QA ar;have HB:=QA hB;have bd:Hid (T.length=j):=by
        have N:=congrArg List.length ar;rw[QV,QV,List.length_take,Sto.opsOf_len]at N;exact QA (by omega)
       clear aY hP ar hB;have cC:(0:Int)≤(j:Int):=Int.natCast_nonneg _;by_cases hjn:j<ops.length
       ·have bi:(j:Int)<(ops.length:Int):=by omega
        obtain⟨⟨o,pv⟩,hp⟩:∃p,ops[j]?=some p:=⟨_,ZG hjn⟩
        obtain⟨X,aT,bg,bC,rfl,hg,aF⟩:=(E.out.opv.mv (MV.below HB.out)).at hp;have ad:=aT.1;have aD:=Sto.opsOf_get hp;have bb:=QA (bh.out o (QZ aD));have aU:Hid ((Sto.opsOf ops).take (j+1)=(Sto.opsOf ops).take j++[o]):=by rw[List.take_add_one,aD];exact QA rfl
        obtain⟨pa,pc,a8,bI⟩:=ad.form;simp only at a8 X ad aF aU;subst a8;have aZ:=Al.new wr o (.slice pa o.2.2.length pc);have a0:=QA aZ.range;have aS:=QA ad;have L:=QA X;have HW:Hid (Below wr.heap.size wr (wr.alloc (.cells (AH o (.slice pa o.2.2.length pc)).toArray 43))):=QA ((Below.refl _ _).alloc (QM _) _);clear aZ ad X hp aT aD bI;go_wp2_with (first|(guard_target=wpList _ _ _ ({ dst:=_,op:=.load 43 _,type:=_,pos:=_,after:=_,guard:=none }::_) _ _;refine AR rfl _ rfl bg (bC+j*34) o (.slice pa o.2.2.length pc) L.out rfl aF ?_)|(guard_target=wpList _ _ _ ({ dst:=_,op:=.store 43 _ _,type:=_,pos:=_,after:=_,guard:=none }::_) _ _;refine AW rfl _ _ rfl _ rfl o (.slice pa o.2.2.length pc) L.out aS.out.one rfl rfl ?_)|(guard_target=wpList _ _ _ ({ dst:=_,op:=.load 43 _,type:=_,pos:=_,after:=_,guard:=none }::_) _ _;refine AR rfl _ rfl wr.heap.size 0 o (.slice pa o.2.2.length pc) L.out rfl a0.out ?_)|fail);obtain⟨wA,hA⟩:∃x,wr.alloc (.cells (AH o (.slice pa o.2.2.length pc)).toArray 43)=x:=⟨_,rfl⟩
        rw[hA]at HW a0 ⊢;clear hA aF;refine (ET o (.slice pa o.2.2.length pc) wA L.out bb.out.1 (aS.out.below HW.out) bb.out.2).mono ?_;rintro e wB ⟨v',rfl,ho2,hb2⟩;obtain⟨ca,cc,bK⟩:=ho2.slice;subst bK;have O:=QA (HB.out.trans ((HW.out.trans (hb2.mono HW.out.size)).mono HB.out.size));have bL:=O.out.size;have bG:=QA (HP.out.keep (HW.out.trans (hb2.mono HW.out.size)));have aP:=QA (ho2.mono (QQ HB.out.size HW.out.size));have bO:Hid (∀g2,(Value.slice ca (Sto.bytes o).length cc).ownBlock=some g2→u12.ownBlock≠some g2):=QA λg2 hg2 e=>by
         have N:=(ho2.lt g2 hg2).1;have h2:=(HP.out.row.lt g2 e).2;have h3:=HW.out.size;omega
        have ab:Below wB.heap.size wB (wB.alloc (.cells #[.slice ca (Sto.bytes o).length cc] 41)):=(Below.refl _ _).alloc (QM _) _;have an:=QA (bG.out.keep ab);have bF:=QA (aP.out.keep ab);have al:=QA (O.out.trans (ab.mono bL));have bk:=al.out.size;have bA:Hid (∀(j:Nat) u,[Value.slice ca (Sto.bytes o).length cc][j]?=some u→(wB.alloc (.cells #[.slice ca (Sto.bytes o).length cc] 41)).cell? ((⟨wB.heap.size,0,none⟩:Addr).add j)=some u):=by
         refine QA λj u hj=>?_
         rw[addr_add];exact An wB #[.slice ca (Sto.bytes o).length cc] 41 j u (by simpa using hj)
        obtain⟨i0,hi,bB,bP,bX⟩:=info_parts Hw;have ci:T.length≤1000000000:=by have:=bd.out;omega
        clear ho2 hb2 ab;go_wp2_with (first|(at_builtin;refine wpList_append_own_at _ rfl _ _ 92 rfl (w7).heap.size 41 i0 (.slice none 0 0) 1 24 Tryz.underlying92 hi bB bP bX rfl (by decide) u12 T.length (T.map (·.2)) rfl an.out.row ⟨wB.heap.size,0,none⟩ 1 1 [.slice ca (Sto.bytes o).length cc] rfl rfl bA.out (λu hu=>by simp at hu;subst hu;rfl) (by unfold maxLen;omega) (by omega) bk ?_;intro v5 w5 hrow hgrow hnil hloc;clear hnil;have a5:=QA (CW.more (l:=Sto.bytes o) an.out bF.out bO.out hrow hgrow hloc);have af:=QA (below_grown al.out bk an.out.row hgrow);clear hrow hgrow hloc)|fail);go_roundg (ops.length-(j+1))
        case measure=>rw[HK.out];omega
        case rel=>exact⟨j+1,_,by omega,rfl,by simp,a5.out,by rw[ZQ,a6.out,aU.out,ZQ];rfl,af.out⟩
       ·have bi:(ops.length:Int)≤(j:Int):=by omega
        have ag:Hid (T.map (·.1)=(Sto.opsOf ops).map Sto.bytes):=QA (by rw[a6.out,List.take_of_length_le (by have:=aG.out;omega)]);have aC:Hid ((T.map (·.1)).flatten=Sto.flat (Sto.opsOf ops)):=QA (by rw[ag.out];unfold Sto.flat;rw[List.flatMap_def]);have b0:Hid (∀x∈T.map (·.1),x.length≤1000000000):=QA λx hx=>by
         rw[ag.out]at hx;obtain⟨o,ho,rfl⟩:=List.mem_map.1 hx;obtain⟨p,hp,e⟩:=List.mem_map.1 ho;have N:=bh.out o ho;rw[Sto.bytes_len (by rw[← e];exact hk p hp)];omega
        have aB:w.heap.size≤(w7).heap.size:=E.out.fr.size;go_wp2_with fail;refine AK (λw'=>w'.heap[r]?=some (.cells (AF A F mb B false) 51 (0,0))) 11 (by kernel_rfl) ?_;have P:wr.drew.heap[r]?=some (.cells (AF A F mb B false) 51 (0,0)):=(HB.out.block r (AD E.out.root)).trans E.out.root;have aA:Below wr.heap.size wr wr.drew:=Below.drew (Below.refl _ wr);have ac:=QA (HB.out.trans (aA.mono HB.out.size));have aO:=QA (HP.out.keep aA);change Ad _ _ _ _ _ _ _ _ _ wr.drew;clear aA;obtain⟨wD,ba⟩:∃q:World,wr.drew=q:=⟨_,rfl⟩
        rw[ba]at P ac aO ⊢;clear ba;refine TK (i:=0) (v:=.pointer (some ⟨r,0,none⟩)) rfl (Or.inl ⟨by rfl,λw hSw=>by go_simp⟩) P ?_;simp only[Act.put,QD,QK,QI,QJ,QC,QH,QG];refine TK (i:=1) (v:=.pointer (some ⟨r,0,none⟩)) rfl (Or.inl ⟨by rfl,λw hSw=>by go_simp⟩) P ?_;simp only[Act.put,QD,QK,QI,QJ,QC,QH,QG];refine TK (i:=2) (v:=.pointer (some ⟨r,0,none⟩)) rfl (Or.inl ⟨by rfl,λw hSw=>by go_simp⟩) P ?_;simp only[Act.put,QD,QK,QI,QJ,QC,QH,QG];refine TK (i:=3) (v:=.pointer (some ⟨r,3,none⟩)) rfl (Or.inl ⟨by rfl,λw hSw=>by go_simp⟩) P ?_;simp only[Act.put,QD,QK,QI,QJ,QC,QH,QG];refine TK (i:=4) (v:=.pointer (some ⟨B,0,none⟩)) rfl (Or.inl ⟨by rfl,λw hSw=>by have cN:=rc3 hSw;go_simp⟩) P ?_;simp only[Act.put,QD,QK,QI,QJ,QC,QH,QG];refine TK (i:=5) (v:=.pointer (some ⟨r,0,none⟩)) rfl (Or.inl ⟨by rfl,λw hSw=>by go_simp⟩) P ?_;simp only[Act.put,QD,QK,QI,QJ,QC,QH,QG];refine TK (i:=7) (v:=u12) rfl (Or.inl ⟨by rfl,λw hSw=>by go_simp⟩) P ?_;simp only[Act.put,QD,QK,QI,QJ,QC,QH,QG];refine TO (i:=6) ?_;refine AB (by decide) (λK6 HK6=>?_);simp only[QE,QL,QF,QN];go_wp2_with fail;refine (B3 wD r B mb A F false U P (E.out.seg.1.below ac.out) E.out.ne E.out.few).mono ?_;rintro e wE ⟨rfl,nE,rfl⟩;rw[E.out.act];have ao:Below wD.heap.size wD (wD.drewN nE):=Below.drewN (Below.refl _ wD) nE;have Z:(wD.drewN nE).heap[r]?=some (.cells (AF A F mb B false) 51 (0,0)):=P;have J:=QA (ac.out.trans (ao.mono ac.out.size));have aX:=QA (aO.out.keep ao);clear ao;obtain⟨wE,a7⟩:∃q:World,wD.drewN nE=q:=⟨_,rfl⟩
        rw[a7]at Z J aX ⊢;clear a7;go_wp2;refine HK6.out _ _ ⟨λ_=>Z,?_⟩;clear HK6;refine TO (i:=8) ?_;refine AB (by decide) (λK8 HK8=>?_);simp only[QE,QL,QF,QN];go_wp2_with fail;have ah:(Fs.step g).2.1≤9223372036854775807:=by rw[Fs.step_calm E.out.calm];show (0:Int)≤_;decide
        have a1:base≤wE.heap.size:=QQ hbase (QQ aB J.out.size);refine (Cs base B g V9 G a9 1 u12 (T.map (·.1)) wE (E.out.fs.kept (AC J.out)) (HE.out.below (E.out.bel.trans (J.out.mono (QQ hbase aB)))) a1 E.out.small aX.out.prts (by rw[QV];have:=bd.out;omega) b0.out ah).mono ?_;rw[aC.out,E.out.code];rintro e wF ⟨rfl,hpost⟩;have Q:=AV.below0 (E.out.fs.kept (AC J.out)) hpost a1;obtain⟨VF,C,hF,au,ay⟩:=hpost;have ap:wF.heap[r]?=some (.cells (AF A F mb B false) 51 (0,0)):=(ay.block r (AD Z) (by rw[E.out.mine];simp)).trans Z;have be:Hid (SFr r G C w7 wF):=QA ((SFr.below J.out).trans (SFr.kept au ay));have aN:=QA hF;have av:Hid (C r=.other):=QA ((au r (AD Z)).trans E.out.mine);have aq:Hid (Below base w wF):=QA ((E.out.bel.trans (J.out.mono (QQ hbase aB))).trans Q);clear Q hF au ay ah;go_wp2;refine HK8.out _ _ ⟨λ_=>ap,?_⟩;clear HK8;refine TO (i:=9) ?_;refine AB (by decide) (λK9 HK9=>?_);simp only[QE,QL,QF,QN];go_wp2_with fail;refine (EY wF r B mb A F false 0 ap).mono ?_;rintro e wG ⟨rfl,hSG,hallG⟩;have D:wG.heap[r]?=some (.cells (AF A F mb B false) 51 (0,0)):=hSG;have am:Hid (SFr r G C w7 wG):=QA (be.out.trans (hallG C));have aV:=QA (aN.out.kept (SFr.kept_of (hallG C) av.out hallG));have bM:Hid (Below base w wG):=QA (aq.out.trans (SFr.below_of hallG hrb (QQ hbase aq.out.size)));clear hSG hallG aN be aq ap;go_wp2;refine HK9.out _ _ ⟨λ_=>D,?_⟩;clear HK9;refine TO (i:=10) ?_;refine AB (by decide) (λK10 HK10=>?_);simp only[QE,QL,QF,QN];go_wp2_with fail;refine HK10.out _ _ ⟨λ_=>D,?_⟩;clear HK10;refine AN (by kernel_rfl) ?_ _;have f2:=AE D 2;have y0:=rc0 D;have y1:=rc1 D;have y2:=rc2 D;have y3:=rc3 D;have y4:=rc4 D;go_wp2_with fail;refine bodyPost_ret (v:=.int .i64 0) (by simp[results,Tryz.results13,go_sem]) rfl ?_;have bU:Cu wG (SF r C) w1.heap.size l3:=E.out.map.mv am.out.mv;have Y:SFr r C C wG (wG.setCell ⟨r,2,none⟩ (.map (some w1.heap.size))):=SFr.set wG 2 _;refine⟨by rw[K.out],?_⟩;rw[b3.out];refine⟨_,VF,C,A,w1.heap.size,F,l3,aV.out.kept ((Kept.refl C (·=.other) wG).setCell ⟨r,2,none⟩ av.out _),(E.out.fr.trans am.out).trans Y,bM.out.setCell (p:=⟨r,2,none⟩) hrb _,⟨?_,av.out,?_,bU.mv Y.mv,?_,?_⟩,E.out.disk,E.out.room⟩
        ·exact heap_set (w:=wG) D _
        ·show Dc _ _ _ (Sto.ids _);rw[E.out.ids];exact (E.out.seg.mv am.out.mv).mv Y.mv
        ·show _=Sto.ents _;rw[Sto.ents_put aI.out];exact aR.out
        ·show Sto.Srt (Sto.ents _);rw[Sto.ents_put aI.out];exact bc.out
    ·exact absurd b2.out.1 h0
 ·have cH:(Sto.chk (Sto.opsOf ops) != 0)=true:=by rw[bne_iff_ne];exact hc0
  have K:Hid (Sto.wcode S (Sto.opsOf ops)=Sto.chk (Sto.opsOf ops)):=QA (if_pos hc0);have W:Hid (Sto.wrote S (Sto.opsOf ops)=S):=QA (if_neg λhg=>hc0 hg.1);clear hc0;go_wp2_with fail;refine bodyPost_ret (v:=.int .i64 (Sto.chk (Sto.opsOf ops))) (by simp[results,Tryz.results13,go_sem]) rfl ?_;exact⟨by rw[K.out],by rw[W.out];exact Es.still H.out HA.out HD.out hbase aQ.out⟩
open Go.Maps Go.WideMaps
theorem Fs.keys_nil:Fs.keys []=[]:=List.eq_nil_iff_forall_not_mem.2 λx hx=>by
 have:=Fs.keys_mem.1 hx;cases this
theorem IE (base B r mb:Nat) (rm:Int) (V:FsV) (own:Nat→Tag) (w:World) (h:Ae base B (Fs.new rm) V own w) (hE:A0 base w) (hbase:base≤w.heap.size) (hrb:base≤r)
  (hroot:w.heap[r]?=some (.cells (AF 0 (.slice none 0 0) mb B false) 51 (0,0))) (hr0:own r=.other) (h1:3200≤rm) (h2:rm≤1048576) :
  Calls Tryz.prog 44 #[.pointer (some ⟨r,0,none⟩)] w λe w'=>e=.returned (.tuple #[.pointer (some ⟨r,0,none⟩),.int .i64 0])∧∃V' own' sv',Ae base B (Mf.save (Sg.create (Fs.new rm) 1).1 1 [1]).1 V' own' w'∧SFr r own own' w w'∧Below base w w' ∧
   w'.heap[r]?=some (.cells (AF 1 sv' mb B false) 51 (0,0))∧Dc w' (SF r own') sv' [1]:=by
 obtain⟨d1,d2,d3,d4,d5,d6⟩:=Sto.Disk.begin h1 h2;have H:=QA h;have HE:=QA hE;have HR:=QA hroot;have ag:=QA hr0;have aj:Fs.Sound (Fs.new rm) 1:=Fs.Sound.new ⟨by omega,h2⟩ 1;have av:=QA aj;have au:=AD hroot;have S:=rc0 hroot;have I:=rc1 hroot;have O:=rc2 hroot;have M:=rc3 hroot;have N:=rc4 hroot;clear h hE hroot hr0 aj;go_enter Tryz.func44,Tryz.ntmps44;go_wp2_with fail;refine (Ca base B (Fs.new rm) V own w H.out (by show 0≤_;omega)).mono ?_;rintro e w1 ⟨v1,rfl,hs1,-,hb1⟩;obtain⟨a1,c1,rfl⟩:=hs1.form;have e0:(strsOf (Fs.keys (Fs.new rm).dir)).length=0:=by rw[show Fs.keys (Fs.new rm).dir=[] from Fs.keys_nil];rfl
 rw[e0];have C:=QA hb1;have A:Hid (w1.heap[r]?=some (.cells (AF 0 (.slice none 0 0) mb B false) 51 (0,0))):=QA ((hb1.block r au).trans HR.out);clear hb1 hs1 S I O M N;have S:=rc0 A.out;have I:=rc1 A.out;have O:=rc2 A.out;have M:=rc3 A.out;have N:=rc4 A.out;go_wp2_with fail
 go_loopg [18] 1 (λdn s18 wr=>s18=.int .i64 0∧w1=wr)
 case atStart=>exact⟨rfl,rfl⟩
 case round =>
  obtain⟨rfl,rfl⟩:=hrel;go_wp2_with fail;refine (Cw base B (Fs.new rm) V own 1 w1 (H.out.kept (AC C.out)) (HE.out.below (C.out.mono hbase)) (QQ hbase C.out.size) (av.out.small (by omega))).mono ?_;rintro e w2 ⟨rfl,V2,own2,h2',ho2,hk2⟩;rw[d1];have H2:=QA h2';have ae:Hid (SFr r own own2 w w2):=QA ((SFr.below C.out).trans (SFr.kept ho2 hk2));have ab:Hid (w2.heap[r]?=some (.cells (AF 0 (.slice none 0 0) mb B false) 51 (0,0))):=QA ((hk2.block r (AD A.out) (by rw[ag.out];simp)).trans A.out);have R:own2 r=.other:=(ho2 r (AD A.out)).trans ag.out;have ad:Hid (Below base w w2):=QA ((C.out.mono hbase).trans (AV.below0 (H.out.kept (AC C.out)) ⟨V2,own2,h2',ho2,hk2⟩ (QQ hbase C.out.size)));have L:=ae.out.size;clear S I O M N h2' ho2 hk2;have E:Below w2.heap.size w2 (w2.alloc (.cells #[.int .i64 1] 3)):=(Below.refl _ w2).alloc (QM _) _;have HL:=QA E;have HG:Hid ((w2.alloc (.cells #[.int .i64 1] 3)).heap[w2.heap.size]?=some (.cells #[.int .i64 1] 3 (0,0))):=QA (AJ w2 _);have o:Hid ((w2.alloc (.cells #[.int .i64 1] 3)).heap[r]?=some (.cells (AF 0 (.slice none 0 0) mb B false) 51 (0,0))):=QA ((E.block r (AD ab.out)).trans ab.out);have f0:=AE o.out 0;have f1:=AE o.out 1;have S:=rc0 o.out;have I:=rc1 o.out;have O:=rc2 o.out;have M:=rc3 o.out;have N:=rc4 o.out;clear E;go_wp2_with fail;obtain⟨W,P⟩:∃q,((w2.alloc (.cells #[.int .i64 1] 3)).setCell ⟨r,0,none⟩ (.int .i64 1)).setCell ⟨r,1,none⟩ (.slice (some ⟨w2.heap.size,0,none⟩) 1 1)=q:=⟨_,rfl⟩
  rw[P];have T:w2.heap.size≠r:=by have:=AD ab.out;omega
  have D:Hid (W.heap[r]?=some (.cells (AF 1 (.slice (some ⟨w2.heap.size,0,none⟩) 1 1) mb B false) 51 (0,0))):=QA (by rw[← P];exact heap_set (heap_set o.out _) _);have Q:Hid (W.heap[w2.heap.size]?=some (.cells #[.int .i64 1] 3 (0,0))):=QA (by rw[← P];exact ((Below.heap_setCell _ _ _ _ T).trans (Below.heap_setCell _ _ _ _ T)).trans HG.out);have am:Hid (SFr r own own2 w W):=QA (by rw[← P];exact ((ae.out.trans (SFr.below HL.out)).trans (SFr.set _ 0 _)).trans (SFr.set _ 1 _));have ai:Hid (Ae base B (Sg.create (Fs.new rm) 1).1 V2 own2 W):=QA (by
   rw[← P];exact H2.out.kept (((AC HL.out).setCell ⟨r,0,none⟩ R _).setCell ⟨r,1,none⟩ R _))
  have ak:Hid (Below base w W):=QA (by
   rw[← P];exact ((ad.out.trans (HL.out.mono (QQ hbase L))).setCell (p:=⟨r,0,none⟩) hrb _).setCell (p:=⟨r,1,none⟩) hrb _)
  have J:w2.heap.size≤W.heap.size:=Nat.le_of_lt (AD Q.out);clear P o HG HL S I O M N f0 f1;have S:=rc0 D.out;have I:=rc1 D.out;have O:=rc2 D.out;have M:=rc3 D.out;have N:=rc4 D.out;refine Ab [8] (by kernel_rfl) (by kernel_rfl) ?_;simp only[BZ,QF,QN,QE,QL,Nat.sub_zero,Nat.reduceSub,Nat.reduceAdd]
  repeat (go_big_quiet_step (fail))
  refine wpQuiet_nil ?_;rintro _ ⟨nq,rfl⟩;have aa:Hid ((W.drewN nq).heap[r]?=some (.cells (AF 1 (.slice (some ⟨w2.heap.size,0,none⟩) 1 1) mb B false) 51 (0,0))):=QA D.out;have F:Hid ((W.drewN nq).heap[w2.heap.size]?=some (.cells #[.int .i64 1] 3 (0,0))):=QA Q.out;have G:Below W.heap.size W (W.drewN nq):=Below.drewN (Below.refl _ W) nq;have al:Hid (SFr r own own2 w (W.drewN nq)):=QA (am.out.trans (SFr.below G));have Z:=QA (ai.out.kept (AC G));have U:Hid (Below base w (W.drewN nq)):=QA (ak.out.trans (G.mono (QQ hbase (QQ L J))));have an:w2.heap.size≤(W.drewN nq).heap.size:=J;clear G D Q am ai ak J S I O M N;obtain⟨Y,hY⟩:∃q,W.drewN nq=q:=⟨_,rfl⟩
  rw[hY]at aa F al Z U an ⊢;clear hY;go_wp2_with fail;have ah:=QQ hbase (QQ L an);refine (Gv base B _ V2 own2 1 _ [1] Y Z.out (HE.out.below U.out) ah 3 d3 (by omega) (λz hz=>by rw[d4.2]at hz;cases hz) (BF F.out) (by simp)).mono ?_;rintro e w5 ⟨rfl,V5,own5,h5,ho5,hk5⟩;rw[d2];have aq:=AD aa.out;have af:own2 w2.heap.size=.other:=H2.out.fresh _ (QM _);have ar:Hid (w5.heap[r]?=some (.cells (AF 1 (.slice (some ⟨w2.heap.size,0,none⟩) 1 1) mb B false) 51 (0,0))):=QA ((hk5.block r aq (by rw[R];simp)).trans aa.out);have ax:Hid (w5.heap[w2.heap.size]?=some (.cells #[.int .i64 1] 3 (0,0))):=QA ((hk5.block _ (AD F.out) (by rw[af];simp)).trans F.out);have ac:Hid (SFr r own own5 w w5):=QA (al.out.trans (SFr.kept ho5 hk5));have ap:Hid (Below base w w5):=QA (U.out.trans (AV.below0 Z.out ⟨V5,own5,h5,ho5,hk5⟩ ah));have aw:Hid (own5 w2.heap.size=.other):=QA ((ho5 _ (AD F.out)).trans af);have H5:=QA h5;clear h5 ho5 hk5;go_wp2_with fail
  repeat (go_big_quiet_step (fail))
  refine wpQuiet_nil ?_;rintro _ ⟨n7,rfl⟩;go_wp2_with fail;have K:Below w5.heap.size w5 (w5.drewN n7):=Below.drewN (Below.refl _ w5) n7;refine bodyPost_ret (v:=.tuple #[.pointer (some ⟨r,0,none⟩),.int .i64 0]) (by simp[results,Tryz.results44,go_sem]) rfl ?_;exact⟨rfl,V5,own5,_,H5.out.kept (AC K),ac.out.trans (SFr.below K),ap.out.trans (K.mono (QQ hbase ac.out.size)),ar.out,BF (X:=w5.drewN n7) ax.out,λp n c e _=>by
   simp only[Value.slice.injEq,Option.some.injEq]at e;rw[← e.1];exact⟨aw.out,T⟩⟩
def Ga (base B:Nat) (f':Fs.St) (own:Nat→Tag) (ver:Int) (S:List Sto.Seg) (w:World) (e:Ending) (w':World):Prop :=
 ∃r V' own' sv' mb l,e=.returned (.tuple #[.pointer (some ⟨r,0,none⟩),.int .i64 0])∧w.heap.size≤r∧Ae base B f' V' own' w'∧SFr r own own' w w'∧Below base w w'∧As w' own' B r ⟨ver,Sto.ids S,Sto.ents S,false⟩ mb sv' l
theorem Ex {w:World} {a:Option Addr} {n c:Nat} {ls:List ByteArray} (h:DY w (.slice a n c) ls) (hn:n≤1000000) {d:Fs.Names} (hl:ls=strsOf (Fs.keys d)) :
  Calls Tryz.prog 43 #[.slice a n c,.string ⟨#[109,97,110,105,102,101,115,116]⟩] w λe w'=>e=.returned (.bool (Fs.mhas d Mf.final))∧w'=w:=by
 refine (Cv h hn _).mono ?_;rintro e w' ⟨rfl,rfl⟩;rw[hl];exact⟨congrArg (λb=>Ending.returned (.bool b)) G2,rfl⟩
theorem F3 (base B:Nat) (rm:Int) (V:FsV) (own:Nat→Tag) (w:World) (h:Ae base B (Fs.new rm) V own w) (hE:A0 base w) (hbase:base≤w.heap.size) (h1:3200≤rm) (h2:rm≤1048576) :
  Calls Tryz.prog 21 #[.pointer (some ⟨B,0,none⟩)] w (Ga base B (Mf.save (Sg.create (Fs.new rm) 1).1 1 [1]).1 own 1 [(1,[])] w):=by
 have Z:=@run_makeMap Tryz.prog;obtain⟨I,C⟩:∃x,x=(w.alloc (.map #[] 0)).alloc (.cells #[.int .i64 0,.slice none 0 0,.map (some w.heap.size),.pointer (some ⟨B,0,none⟩),.bool false] 51):=⟨_,rfl⟩
 have G:Below w.heap.size w I:=by rw[C];exact ((Below.refl _ _).alloc (QM _) _).alloc (by simp) _
 have K:I.ownsMap Tryz.prog 40 Sto.elemR w.heap.size 0 (.map []):=by rw[C];exact (World.ownsMap_made w Tryz.prog 40 Sto.elemR).alloc _
 have P:I.heap[w.heap.size+1]?=some (.cells (AF 0 (.slice none 0 0) w.heap.size B false) 51 (0,0)):=by
  rw[C];have:=AJ (w.alloc (.map #[] 0)) (.cells #[.int .i64 0,.slice none 0 0,.map (some w.heap.size),.pointer (some ⟨B,0,none⟩),.bool false] 51);rw[show (w.alloc (.map #[] 0)).heap.size=w.heap.size+1 by simp]at this;exact this
 have S:=QA C.symm;have O:=QA G;have J:=QA K;have F:=QA P;have H:=QA (h.kept (AC G));have X:=QA hE;have N:Hid (own (w.heap.size+1)=.other):=QA (h.fresh _ (by omega));have L:Hid (own w.heap.size=.other):=QA (h.fresh _ (by omega));clear C G K P h hE;go_enter Tryz.func21,Tryz.ntmps21;go_wp2_with fail;rw[S.out];refine (Ca base B (Fs.new rm) V own I H.out (by show 0≤_;omega)).mono ?_;rintro e w2 ⟨v1,rfl,hs1,-,hb2⟩;obtain⟨a1,c1,rfl⟩:=hs1.form;have R:=QA hs1;have D:=QA (O.out.trans (hb2.mono O.out.size));have o:=QA hb2;have U:(strsOf (Fs.keys (Fs.new rm).dir)).length≤1000000:=by rw[show Fs.keys (Fs.new rm).dir=[] from Fs.keys_nil];show 0≤_;omega
 clear hb2 hs1;go_wp2_with fail;refine (Ex R.out U (d:=(Fs.new rm).dir) rfl).mono ?_;rintro e w3 ⟨rfl,rfl⟩;rw[show Fs.mhas (Fs.new rm).dir Mf.final=false from rfl];go_wp2_with fail;refine (IE base B (w.heap.size+1) w.heap.size rm V own w3 (H.out.kept (AC o.out)) (X.out.below (D.out.mono hbase)) (QQ hbase D.out.size) (by omega) ((o.out.block _ (AD F.out)).trans F.out) N.out h1 h2).mono ?_;rintro e w4 ⟨rfl,V4,own4,sv4,h4,hf4,hbb4,hr4,hn4⟩;have Y:=QA h4;have E:=QA hf4;have M:=QA hbb4;have W:=QA hr4;have T:=QA hn4;clear h4 hf4 hbb4 hr4 hn4;go_wp2_with fail;refine bodyPost_ret (v:=.tuple #[.pointer (some ⟨w.heap.size+1,0,none⟩),.int .i64 0]) (by simp[results,Tryz.results21,go_sem]) rfl ?_;have A:w.heap.size<I.heap.size:=J.out.lt;have Q:w4.ownsMap Tryz.prog 40 Sto.elemR w.heap.size 0 (.map []):=ownsMap_at J.out ((E.out.block _ (ZT A o.out.size) L.out (by omega)).trans (o.out.block _ A));refine⟨w.heap.size+1,V4,own4,sv4,w.heap.size,[],rfl,by omega,Y.out,(SFr.below D.out).trans E.out,(D.out.mono hbase).trans M.out,W.out,?_,T.out,⟨Q,⟨?_,by omega⟩,λp hp=>(by cases hp),λp hp=>(by cases hp)⟩,rfl,List.Pairwise.nil⟩
 ·exact (E.out.tags _ (ZT (AD F.out) o.out.size)).trans N.out
 ·exact (E.out.tags _ (ZT A o.out.size)).trans L.out
end Go.Proofs.YtjldahcckmmenaaGreatDoor
