/-
  The store: Write, walked up to where a batch goes to its segment. The store: begin, and Open of a file system that holds nothing, walked.
-/
import Derived.Test.YtjldahcckmmenaaGreatDoorZd14
import Derived.Test.YtjldahcckmmenaaGreatDoorZd15
import Derived.Test.YtjldahcckmmenaaGreatDoorZd16
import Derived.Test.YtjldahcckmmenaaGreatDoorZd12
import Derived.Test.YtjldahcckmmenaaGreatDoorZd11
open Array renaming getInternal_eq_getElem → QD
open Go.Lib renaming hid → QA
open List renaming setIfInBounds_toArray → QC, drop_succ_cons → QE, take_succ_cons → QF, set_cons_succ → QG, set_cons_zero → QH, getElem_cons_zero → QI, getElem_cons_succ → QJ, getElem_toArray → QK, drop_zero → QL, take_zero → QN, length_map → QV, mem_of_getElem? → QZ, getElem?_eq_getElem → ZG, map_cons → ZP, map_append → ZQ
open Nat renaming le_refl → QM, le_trans → QQ, lt_of_lt_of_le → ZT
namespace Go.Proofs.YtjldahcckmmenaaGreatDoor
set_option maxRecDepth 100000
set_option maxHeartbeats 4000000
set_option linter.unusedSimpArgs false
set_option linter.unusedVariables false
open Go Go.RowKit
open Go.Maps Go.WideMaps
namespace Sto
def wcode (S:List Seg) (ops:List Op):Int:=if chk ops≠0 then chk ops else if 50000<live (chgs (ents S) ops) then 8 else 0
def Goes (S:List Seg) (ops:List Op):Prop:=chk ops=0∧live (chgs (ents S) ops)≤50000∧0<ops.length
instance (S : List Seg) (ops : List Op) : Decidable (Goes S ops) := inferInstanceAs (Decidable (_ ∧ _ ∧ _))
def wrote (S:List Seg) (ops:List Op):List Seg:=if Goes S ops then put S ops else S
theorem GN (x:Op):∀l:Ents,live (CQ x l)=live l+(44+x.2.2.length)
 | []=>by simp[live,CQ]
 | y::r=>by
  unfold CQ;split
  ·unfold live;simp only[ZP,List.sum_cons];omega
  ·have:=GN x r;unfold live at this ⊢;simp only[ZP,List.sum_cons];omega
theorem Gc (k:List UInt8):∀l:Ents,live (Cw l k)≤live l
 | []=>QM _
 | y::r=>by
  have:=Gc k r;unfold Cw live at this ⊢;rw[List.filter_cons];split
  ·simp only[ZP,List.sum_cons];omega
  ·simp only[ZP,List.sum_cons];omega
theorem GO (l:Ents) (o:Op):live (chg l o)≤live l+(44+o.2.2.length):=by
 unfold chg;have:=Gc o.1 l;split
 ·omega
 ·rw[GN];omega
theorem live_chgs_le:∀(ops:List Op) (l:Ents),live (chgs l ops)≤live l+(9*ops.length+mass ops)
 | [],l=>Nat.le_add_right _ _
 | o::r,l=>by
  have B:=live_chgs_le r (chg l o);have C:=GO l o;have A:chgs l (o::r)=chgs (chg l o) r:=rfl;rw[A,IX,List.length_cons];omega
theorem live_len (l:Ents):44*l.length≤live l:=by
 induction l with
 | nil=>exact QM _
 | cons x r ih =>
  unfold live at ih ⊢;simp only[ZP,List.sum_cons,List.length_cons];omega
theorem DiskX.live {f:Fs.St} {k:Nat} {ver:Int} {S:List Seg} {M:Nat} (h:DiskX f k ver S M):Sto.live (ents S)≤50000:=by
 have:=h.lv (batches S).length
 rwa [List.take_length]at this
theorem wcode_ok {S:List Seg} {ops:List Op} (h1:chk ops=0) (h2:live (chgs (ents S) ops)≤50000):wcode S ops=0:=by
 unfold wcode;rw[if_neg (by rw[h1];simp),if_neg (by omega)]
theorem chk_len {ops:List Op} (h:chk ops=0):ops.length≤64∧mass ops≤8192:=by
 unfold chk at h;split at h
 ·cases h
 split at h
 ·cases h
 split at h
 ·cases h
 ·omega
end Sto
abbrev PB:=List UInt8×Value
structure Ba (w:World) (base:Nat) (v:Value) (ps:List PB):Prop where
 row:w.ownsRow base 41 1 v ps.length (ps.map (·.2))
 pay:∀p∈ps,Ag w base p.2 p.1
 apart:∀p∈ps,∀g,p.2.ownBlock=some g→v.ownBlock≠some g
theorem Ba.keep {w w':World} {base:Nat} {v:Value} {ps:List PB} (h:Ba w base v ps) (hb:Below w.heap.size w w'):Ba w' base v ps :=
 ⟨AN h.row (λg hg=>hb.block g (h.row.lt g hg).2),λp hp=>(h.pay p hp).keep hb,h.apart⟩
theorem Ba.nil (w:World) (base:Nat):Ba w base (.slice none 0 0) []:=⟨World.ownsRow_nil _ _ _ _,λp h=>by simp at h,λp h=>by simp at h⟩
theorem Ba.more {w w5:World} {base:Nat} {v v' x:Value} {ps:List PB} {l:List UInt8} (h:Ba w base v ps) (hx:Ag w base x l) (hne:∀g,x.ownBlock=some g→v.ownBlock≠some g)
  (hrow:w5.ownsRow base 41 1 v' (ps.length+1) (ps.map (·.2)++[x])) (hg:w.grownBy w5 v.ownBlock) (hloc:v'.ownBlock=v.ownBlock∨v'.ownBlock=some w.heap.size) :
  Ba w5 base v' (ps++[(l,x)]):=by
 have o:∀(y:Value) (l:List UInt8),Ag w base y l→(∀g,y.ownBlock=some g→v.ownBlock≠some g)→Ag w5 base y l∧(∀g,y.ownBlock=some g→v'.ownBlock≠some g):=λy l hy hn =>
  ⟨AN hy (λg hg2=>hg.block g (hy.lt g hg2).2 (λe=>hn g hg2 e.symm)),λg hg2=>by
   rcases hloc with e|e
   ·rw[e];exact hn g hg2
   ·rw[e];intro e2;have:=(hy.lt g hg2).2;simp at e2;omega⟩
 refine⟨?_,λp hp=>?_,λp hp=>?_⟩
 ·rw[List.length_append,ZQ];exact hrow
 ·rcases List.mem_append.1 hp with hp|hp
  ·exact (o p.2 p.1 (h.pay p hp) (h.apart p hp)).1
  ·simp at hp;subst hp;exact (o x l hx hne).1
 ·rcases List.mem_append.1 hp with hp|hp
  ·exact (o p.2 p.1 (h.pay p hp) (h.apart p hp)).2
  ·simp at hp;subst hp;exact (o x l hx hne).2
theorem Ba.form {w:World} {base:Nat} {v:Value} {ps:List PB} (h:Ba w base v ps):∃a c,v=.slice a ps.length c:=by
 rcases h.row.2 with⟨h1,h2⟩|⟨g,cap,cur,h1,_⟩
 ·exact⟨none,0,by rw[h1,h2]⟩
 ·exact⟨_,_,h1⟩
theorem Ba.prts {w:World} {base:Nat} {v:Value} {ps:List PB} (h:Ba w base v ps):CC w v (ps.map (·.1)):=by
 have o:=λg hg=>World.ownsRow.cells (g:=g) h.row hg
 rcases h.row.2 with⟨h1,h2⟩|⟨g,cap,cur,h1,hg,hb,hc,hm,_,_⟩
 ·have B:ps=[]:=List.eq_nil_of_length_eq_zero h2;subst B;exact⟨none,0,h1,QM _,λi x hx=>by simp at hx⟩
 ·refine⟨some ⟨g,0,none⟩,cap,by rw[h1,QV],by rw[QV];exact hc,λi x hx=>?_⟩;rw[List.getElem?_map,Option.map_eq_some_iff]at hx;obtain⟨p,A,rfl⟩:=hx;have:=o g (by rw[h1];rfl) i p.2 (by rw[List.getElem?_map,A];rfl);rw[addr_add]at this;exact⟨g,0,p.2,rfl,AC hb,by rw[Nat.zero_add];exact this,(h.pay p (QZ A)).byts⟩
theorem An.next {w w':World} {own own':Nat→Tag} {B r:Nat} {s:Sto.St} {mb:Nat} {sv:Value} {l:Sto.ME} (h:An w own B r s mb sv l) (hf:SFr r own own' w w') (hr:w'.heap[r]?=w.heap[r]?):An w' own' B r s mb sv l :=
 ⟨hr.trans h.root,(hf.tags r (AC h.root)).trans h.mine,h.segs.mv hf.mv,h.ents.mv hf.mv,h.is,h.srt⟩
theorem An.below {w w':World} {own:Nat→Tag} {B r:Nat} {s:Sto.St} {mb:Nat} {sv:Value} {l:Sto.ME} (h:An w own B r s mb sv l) (hb:Below w.heap.size w w'):An w' own B r s mb sv l :=
 h.next (SFr.below hb) (hb.block r (AC h.root))
theorem SFr.kept_of {r:Nat} {own:Nat→Tag} {w w':World} (h:SFr r own own w w') (hr:own r=.other) (hall:∀o,SFr r o o w w'):Kept own (·=.other) w w' :=
 ⟨h.os,h.tape,h.output,h.size,λb hb hn=>(hall (λ_=>.other)).block b hb rfl λe=>hn (by rw[e];exact hr)⟩
theorem SFr.below_of {r base:Nat} {w w':World} (hall:∀o,SFr r o o w w') (hr:base≤r) (hb:base≤w.heap.size):Below base w w' :=
 ⟨(hall λ_=>.other).os,(hall λ_=>.other).tape,(hall λ_=>.other).output,(hall λ_=>.other).size,λk hk=>(hall (λ_=>.other)).block k (by omega) rfl (by omega)⟩
theorem Bt.below {mb:Nat} {w w':World} (h:Bt mb w w') {n:Nat} (hn:n≤mb) (hs:n≤w.heap.size):Below n w w':=⟨h.os,h.tape,h.output,h.size,λk hk=>h.block k (by omega) rfl (by omega)⟩
def D3 (base B r:Nat) (f:Fs.St) (own:Nat→Tag) (S:List Sto.Seg) (M k:Nat) (w w':World):Prop :=
 ∃f' V' own' ver' mb' sv' l',Aa base B f' V' own' w'∧SFr r own own' w w'∧Below base w w'∧An w' own' B r ⟨ver',Sto.ids S,Sto.ents S,false⟩ mb' sv' l'∧Sto.Disk f' (k+14) ver' S M∧f'.room=f.room
structure Ck (base B r mb mb2:Nat) (f:Fs.St) (own:Nat→Tag) (S:List Sto.Seg) (M k:Nat) (v:Value) (ops l3:Sto.ME) (w x:World) (g:Fs.St) (V8:FsV) (own8:Nat→Tag) (ver8:Int) (sv8:Value) (ids8:List Int) (a8:Int):Prop where
 fs:Aa base B g V8 own8 x
 fr:SFr r own own8 w x
 bel:Below base w x
 root:x.heap[r]?=some (.cells (AF ver8 sv8 mb B false) 51 (0,0))
 mine:own8 r=.other
 seg:CB x (SF r own8) sv8 ids8
 ne:ids8≠[]
 few:ids8.length≤1000000
 act:ids8.getLastD 0=a8
 map:Bh x (SF r own8) mb2 l3
 opv:Al x (SF r own8) v ops
 small:Fs.Small g
 calm:Fs.Calm g
 code:(Sg.append g a8 1 (Sto.flat (Sto.opsOf ops))).2=0
 room:(Sg.append g a8 1 (Sto.flat (Sto.opsOf ops))).1.room=f.room
 disk:Sto.Disk (Sg.append g a8 1 (Sto.flat (Sto.opsOf ops))).1 (k+14) ver8 (Sto.put S (Sto.opsOf ops)) M
 ids:Sto.ids (Sto.put S (Sto.opsOf ops))=ids8
theorem A1.toF {w:World} {G:Nat→Prop} {r mb2:Nat} {own:Nat→Tag} {l:Sto.ME} (h:A1 w G mb2 l) (hG:∀b,G b→SF r own b) (hm:SF r own mb2):Bh w (SF r own) mb2 l :=
 ⟨h.map,hm,h.key,λp hp=>(h.val p hp).mv ⟨QM _,λb _ hb=>⟨hG b hb,rfl⟩⟩⟩
section
variable {base B r mb mb2 : Nat} {f : Fs.St} {V8 : FsV} {own own8 : Nat → Tag} {ver : Int} {sv8 : Value} {S0 : List Sto.Seg} {a : Int} {bs : List (List Sto.Op)} {M k : Nat} {v : Value} {ops l3 : Sto.ME} {w x : World}
theorem Ck.of0 (hD:Sto.Disk f k ver (S0++[(a,bs)]) M) (hC:Sto.Can f k (S0++[(a,bs)]) M (Sto.opsOf ops)) (hb:¬4096<(Sto.fileOf bs).length) (ho:Sto.GoodB (Sto.opsOf ops)) (hl:Sto.live (Sto.chgs (Sto.ents (S0++[(a,bs)])) (Sto.opsOf ops))≤50000)
  (fs:Aa base B f V8 own8 x) (fr:SFr r own own8 w x) (bel:Below base w x) (root:x.heap[r]?=some (.cells (AF ver sv8 mb B false) 51 (0,0))) (mine:own8 r=.other) (seg:CB x (SF r own8) sv8 (Sto.ids (S0++[(a,bs)])))
  (map:Bh x (SF r own8) mb2 l3) (opv:Al x (SF r own8) v ops):Ck base B r mb mb2 f own (S0++[(a,bs)]) M k v ops l3 w x f V8 own8 ver sv8 (Sto.ids (S0++[(a,bs)])) a:=by
 obtain⟨C,D,A⟩:=hD.add0 hC hb ho hl;have o:=Mf.good_out hD.x.good;refine⟨fs,fr,bel,root,mine,seg,λe=>?_,by have:=o.2.1.2;omega,Sto.act_ids hD,map,opv,hD.x.sound.small (by have:=hC.small;omega),hD.x.calm,C,D,A.mono (by omega) (QM _),?_⟩
 ·have:=o.2.1.1;rw[e]at this;simp at this
 ·rw[Sto.put_snoc,if_neg hb,Sto.ids_app,Sto.ids_app];rfl
theorem Ck.of1 (hD:Sto.Disk f k ver (S0++[(a,bs)]) M) (hC:Sto.Can f k (S0++[(a,bs)]) M (Sto.opsOf ops)) (hb:4096<(Sto.fileOf bs).length) (ho:Sto.GoodB (Sto.opsOf ops)) (hl:Sto.live (Sto.chgs (Sto.ents (S0++[(a,bs)])) (Sto.opsOf ops))≤50000)
  (fs:Aa base B (Mf.save (Sg.create f (a+1)).1 (wrap64 (ver+1)) (Sto.ids (S0++[(a,bs)])++[a+1])).1 V8 own8 x) (fr:SFr r own own8 w x) (bel:Below base w x) (root:x.heap[r]?=some (.cells (AF (ver+1) sv8 mb B false) 51 (0,0))) (mine:own8 r=.other)
  (seg:CB x (SF r own8) sv8 (Sto.ids (S0++[(a,bs)])++[a+1]))
  (map:Bh x (SF r own8) mb2 l3) (opv:Al x (SF r own8) v ops):Ck base B r mb mb2 f own (S0++[(a,bs)]) M k v ops l3 w x (Mf.save (Sg.create f (a+1)).1 (wrap64 (ver+1)) (Sto.ids (S0++[(a,bs)])++[a+1])).1 V8 own8 (ver+1) sv8 (Sto.ids (S0++[(a,bs)])++[a+1]) (a+1):=by
 obtain⟨_,_,_,_,_,D,o⟩:=hD.grow hC hb;obtain⟨C,E,A⟩:=o.add1 hC D hb ho hl;have F:=Mf.good_out hD.x.good;refine⟨fs,fr,bel,root,mine,seg,λe=>by simp at e,by have:=F.2.1.2;simp;omega,by simp,map,opv,o.x.sound.small (by have:=hC.small;omega),o.x.calm,C,E,A,?_⟩;rw[Sto.put_snoc,if_pos hb,Sto.ids_app];rfl
end
theorem D3.still {base B r:Nat} {f:Fs.St} {V:FsV} {own:Nat→Tag} {S:List Sto.Seg} {M k mb:Nat} {ver:Int} {sv:Value} {l:Sto.ME} {w w':World} (h:Aa base B f V own w) (hA:An w own B r ⟨ver,Sto.ids S,Sto.ents S,false⟩ mb sv l) (hD:Sto.Disk f k ver S M)
  (hbase:base≤w.heap.size) (hb:Below w.heap.size w w'):D3 base B r f own S M k w w' :=
 ⟨f,V,own,ver,mb,sv,l,h.kept (AB hb),SFr.below hb,hb.mono hbase,hA.below hb,hD.mono (by omega) (QM _),rfl⟩
theorem G3 (base B r mb:Nat) (f:Fs.St) (V:FsV) (own:Nat→Tag) (ver:Int) (sv:Value) (S0:List Sto.Seg) (a:Int) (bs:List (List Sto.Op)) (M k:Nat) (l:Sto.ME) (v:Value) (ops:Sto.ME) (w:World)
  (h:Aa base B f V own w) (hE:Aq base w) (hbase:base≤w.heap.size) (hrb:base≤r) (hA:An w own B r ⟨ver,Sto.ids (S0++[(a,bs)]),Sto.ents (S0++[(a,bs)]),false⟩ mb sv l) (hD:Sto.Disk f k ver (S0++[(a,bs)]) M)
  (ho:Al w (SF r own) v ops) (hol:ops.length≤1000000000) (hbl:∀p∈ops,p.1.2.2.length≤1000000000) (hk:∀p∈ops,p.1.1.length=32) (hC:Sto.Goes (S0++[(a,bs)]) (Sto.opsOf ops)→Sto.Can f k (S0++[(a,bs)]) M (Sto.opsOf ops)) :
  Calls Tryz.prog 13 #[.pointer (some ⟨r,0,none⟩),v] w λe w'=>e=.returned (.int .i64 (Sto.wcode (S0++[(a,bs)]) (Sto.opsOf ops)))∧D3 base B r f own (Sto.wrote (S0++[(a,bs)]) (Sto.opsOf ops)) M k w w':=by
 obtain⟨va,vc,rfl⟩:=ho.form;obtain⟨S,P⟩:∃q,S0++[(a,bs)]=q:=⟨_,rfl⟩
 have HS:=QA P;rw[P]at hA hD hC ⊢;have cJ:=AC hA.root;have J:=hA.root;have cm:=hA.mine;have bt:=Sto.opsOf_len ops;have H:=QA h;have HE:=QA hE;have HA:=QA hA;have HD:=QA hD;have HO:=QA ho;have HC:=QA hC;have bL:=QA cm;have cH:=QA J;have aH:=QA bt;have y0:=rc0 J;have y1:=rc1 J;have y2:=rc2 J;have y3:=rc3 J;have y4:=rc4 J;clear h hE hA hD ho hC P J cm bt;go_enter Tryz.func13,Tryz.ntmps13;go_wp2_with fail;refine (Ct _ ops w _ HO.out hol (λp hp=>by have:=hbl p hp;omega)).mono ?_;rintro e w1 ⟨rfl,hb1⟩;have a3:=QA hb1;clear hb1 y0 y1 y2 y3 y4;by_cases hc0:Sto.chk (Sto.opsOf ops)=0
 ·have ac:=QA hc0;have cF:(Sto.chk (Sto.opsOf ops) != 0)=false:=by rw[hc0];rfl
  have aQ:Hid (w1.heap[r]?=some (.cells (AF ver sv mb B false) 51 (0,0))):=QA ((a3.out.block r cJ).trans cH.out);have y0:=rc0 aQ.out;have y1:=rc1 aQ.out;have y2:=rc2 aQ.out;have y3:=rc3 aQ.out;have y4:=rc4 aQ.out;clear hc0;go_wp2_with fail;refine (JH mb l.length l w1 (ownsMap_at HA.out.ents.map (a3.out.block mb HA.out.ents.map.lt))).mono ?_;rintro e w2 ⟨rfl,hm2,hb2⟩;have bV:=a3.out.size;have O:=QA (a3.out.trans (hb2.mono bV));have cU:=QA hb2;have cV:=hm2.lt;have cL:Hid (A1 w2 (λb=>SF r own b∧b≠w1.heap.size) w1.heap.size l):=QA ⟨Kc.of hm2,HA.out.ents.key,λp hp=>(HA.out.ents.val p hp).mv ⟨O.out.size,λb hb hf=>⟨⟨hf,by omega⟩,O.out.block b hb⟩⟩⟩;have a6:Hid (Al w2 (λb=>SF r own b∧b≠w1.heap.size) (.slice va ops.length vc) ops):=QA (HO.out.mv ⟨O.out.size,λb hb hf=>⟨⟨hf,by omega⟩,O.out.block b hb⟩⟩);have b5:=QA (show l.length=(Sto.ents S).length by have N:=congrArg List.length HA.out.is;rw[QV]at N;exact N);have bq:=QA (Sto.DiskX.live HD.out.x);have cE:Hid (l.length≤1000000000):=QA (by have N:=Sto.live_len (Sto.ents S);have h2:=bq.out;have h3:=b5.out;omega);clear hm2 hb2 y0 y1 y2 y3 y4;go_wp2_with fail;refine (CZ w1.heap.size l _ ops w2 _ (λb hb=>hb.2) (λb hb=>⟨⟨H.out.fresh b (by have:=O.out.size;omega),by omega⟩,by omega⟩) cL.out a6.out hol cE.out hbl).mono ?_;rintro e w3 ⟨rfl,l3,hm3,he3,hbt3,-⟩;have aj:Hid (Below w.heap.size w w3):=QA (O.out.trans (hbt3.below bV O.out.size));have br:l3.map (·.1)=Sto.chgs (Sto.ents S) (Sto.opsOf ops):=by rw[he3,HA.out.is]
  have cu:=QA hm3;have aT:=QA br;have a2:Hid (Sto.Srt (Sto.chgs (Sto.ents S) (Sto.opsOf ops))):=QA (Sto.srt_chgs _ HA.out.srt);have cC:Hid ((l3.map λp=>p.1.1).Nodup):=by
   have N:((Sto.chgs (Sto.ents S) (Sto.opsOf ops)).map (·.1)).Nodup:=by
    rw[List.Nodup,List.pairwise_map];exact List.Pairwise.imp (R:=λa b:Sto.Op=>a.1<b.1) (λ{a b} h e=>by rw[e]at h;exact List.lt_irrefl _ h) a2.out
   rw[← aT.out,List.map_map]at N;exact QA N
  have ct:Hid (Sto.live (l3.map (·.1))≤1000000000000):=QA (by rw[aT.out];have N:=Sto.live_chgs_le (Sto.opsOf ops) (Sto.ents S);have h2:=bq.out;have h3:=Sto.chk_len ac.out;omega);clear hm3 he3 br hbt3;go_wp2_with fail;refine (Cf w1.heap.size l3 w3 _ cu.out cC.out ct.out).mono ?_;rintro e w4 ⟨rfl,hb4⟩;rw[aT.out];have aY:=QA (aj.out.trans (hb4.mono aj.out.size));have cG:=QA (cu.out.below hb4);clear hb4;by_cases hlv:50000<Sto.live (Sto.chgs (Sto.ents S) (Sto.opsOf ops))
  ·have cl:(50000:Int)<(Sto.live (Sto.chgs (Sto.ents S) (Sto.opsOf ops)):Nat):=by omega
   have I:Hid (Sto.wcode S (Sto.opsOf ops)=8):=QA (by unfold Sto.wcode;rw[if_neg (by rw[ac.out];simp),if_pos hlv]);have U:Hid (Sto.wrote S (Sto.opsOf ops)=S):=QA (if_neg λhg=>by have:=hg.2.1;omega);clear hlv;go_wp2_with fail;refine bodyPost_ret (v:=.int .i64 8) (by simp[results,Tryz.results13,go_sem]) rfl ?_;exact⟨by rw[I.out],by rw[U.out];exact D3.still H.out HA.out HD.out hbase aY.out⟩
  ·have cl:((Sto.live (Sto.chgs (Sto.ents S) (Sto.opsOf ops)):Nat):Int)≤50000:=by omega
   have I:Hid (Sto.wcode S (Sto.opsOf ops)=0):=QA (Sto.wcode_ok ac.out (by omega));have bx:=QA hlv;clear hlv;by_cases hn0:ops.length=0
   ·have U:Hid (Sto.wrote S (Sto.opsOf ops)=S):=QA (if_neg λhg=>by have:=hg.2.2;have:=aH.out;omega);have cR:((ops.length:Int)==0)=true:=by rw[beq_iff_eq];omega
    clear hn0;go_wp2_with fail;refine bodyPost_ret (v:=.int .i64 0) (by simp[results,Tryz.results13,go_sem]) rfl ?_;exact⟨by rw[I.out],by rw[U.out];exact D3.still H.out HA.out HD.out hbase aY.out⟩
   ·have cR:((ops.length:Int)==0)=false:=by rw[beq_eq_false_iff_ne];omega
    have bp:Sto.Goes S (Sto.opsOf ops):=⟨ac.out,by have:=bx.out;omega,by have:=aH.out;omega⟩
    have b9:Hid (Sto.wrote S (Sto.opsOf ops)=Sto.put S (Sto.opsOf ops)):=QA (if_pos bp);have aI:=QA (HC.out bp);have cg:Hid (Sto.GoodB (Sto.opsOf ops)):=QA ⟨ac.out,bp.2.2,λo ho=>by
     obtain⟨p,hp,e⟩:=List.mem_map.1 ho;rw[← e];exact hk p hp⟩
    have cb:Hid ((a,bs)∈S):=QA (by rw[← HS.out];exact List.mem_append_right _ (List.mem_singleton.2 rfl));have ch:=QA (Sto.DiskX.at HD.out.x cb.out);have b4:=QA (Mf.good_out HD.out.x.good);have cK:Hid (Sto.ids S≠[]):=QA λe=>by have:=b4.out.2.1.1;rw[e]at this;simp at this
    have b7:Hid ((Sto.ids S).length≤1000000):=QA (by have:=b4.out.2.1.2;omega);have cq:Hid ((Sto.ids S).getLastD 0=a):=QA (by rw[← HS.out];exact Sto.act_snoc S0 (a,bs));have ce:=QA (HA.out.below aY.out);have aG:Hid (S≠[]):=QA (by rw[← HS.out];simp);have cf:Hid (SF r own w1.heap.size):=QA ⟨H.out.fresh _ bV,by omega⟩;clear bp;go_wp2_with fail;refine (A9 w4 r B mb ver sv false (Sto.ids S) ce.out.root ce.out.segs.1 cK.out b7.out).mono ?_;rintro e w5 ⟨rfl,n5,rfl⟩;rw[cq.out];have bI:Below w4.heap.size w4 (w4.drewN n5):=Below.drewN (Below.refl _ w4) n5;have af:=QA (aY.out.trans (bI.mono aY.out.size));have cd:=QA (cG.out.below bI);clear bI;obtain⟨w5,cp⟩:∃x,w4.drewN n5=x:=⟨_,rfl⟩
    rw[cp]at af cd ⊢;clear cp;go_wp2_with fail;refine (Bn a w5 base (HE.out.below (af.out.mono hbase))).mono ?_;rintro e w6 ⟨rfl,hb6⟩;have bn:=QA (af.out.trans (hb6.mono af.out.size));have cP:=QA (cd.out.below hb6);have a0:=QA (HA.out.below bn.out);clear hb6;obtain⟨sn,bo⟩:∃t:ByteArray,t=⟨(Sg.nameB a).toArray⟩:=⟨_,rfl⟩
    rw[← bo];have HN:Hid (sn.data.toList=Sg.nameB a):=by rw[bo];exact QA rfl
    have cZ:sn.size≤25:=by rw[bo];exact D9 a
    clear bo;have y0:=rc0 a0.out.root;have y1:=rc1 a0.out.root;have y2:=rc2 a0.out.root;have y3:=rc3 a0.out.root;have y4:=rc4 a0.out.root;go_wp2_with fail;refine (DI base B f V own sn w6 (H.out.kept (AB bn.out)) (by omega) (λf1 hf=>by have:=((HD.out.x.sound.small (by have:=aI.out.small;omega))).file f1 hf;omega)).mono ?_;rintro e w7 ⟨hb7,hres⟩;rw[HN.out]at hres;rcases hres with⟨h0,f1,v7,hf,rfl,ho7⟩|⟨h0,-⟩
    ·skip
     have co:f1.1=Sto.fileOf bs:=by
      have N:=ch.out.2;unfold Fs.fileAt at N;rw[hf]at N;exact N
     obtain⟨ra,rc,cM⟩:=ho7.slice;subst cM;rw[co];have aa:=QA (bn.out.trans (hb7.mono bn.out.size));have ck:=QA (cP.out.below hb7);have a4:=QA (HA.out.below aa.out);clear hb7 h0 hf ho7 y0 y1 y2 y3 y4 co;by_cases hbig:4096<(Sto.fileOf bs).length
     ·have bH:(4096:Int)<((Sto.fileOf bs).length:Nat):=by omega
      have aJ:=QA hbig;clear hbig;go_wp2_with fail;refine (FH base B r mb f V own ver sv S0 a bs M k (Sto.opsOf ops) false w7 (H.out.kept (AB aa.out)) (HE.out.below (aa.out.mono hbase)) (QQ hbase aa.out.size) a4.out.root bL.out hrb (by rw[HS.out];exact a4.out.segs) (by rw[HS.out];exact HD.out) (by rw[HS.out];exact aI.out) aJ.out).mono ?_;rintro e w8 ⟨rfl,V8,own8,sv8,h8,hf8,hbb8,hr8,hn8⟩;have b6:own8 r=.other:=(hf8.tags r (AC a4.out.root)).trans bL.out;have H8:=QA h8;have aZ:=QA hf8;have bb:Hid (Below base w w8):=QA ((aa.out.mono hbase).trans hbb8);have ci:=QA hr8;have b3:=QA hn8;have b0:=QA b6;clear h8 hf8 hbb8 hr8 hn8 b6;go_wp2_with fail;refine (B6 w8 r B mb (ver+1) sv8 false 0 ci.out).mono ?_;rintro e w9 ⟨rfl,hr9,hall⟩;have bW:Hid (SFr r own own8 w w9):=QA (((SFr.below aa.out).trans aZ.out).trans (hall own8));have aS:Hid (Ck base B r mb w1.heap.size f own S M k (.slice va ops.length vc) ops l3 w w9 _ V8 own8 (ver+1) sv8 (Sto.ids (S0++[(a,bs)])++[a+1]) (a+1)):=QA (by
       have N:=Ck.of1 (mb:=mb) (B:=B) (r:=r) (base:=base) (own:=own) (w:=w) (v:=.slice va ops.length vc) (mb2:=w1.heap.size) (by rw[HS.out];exact HD.out) (by rw[HS.out];exact aI.out) aJ.out cg.out (by rw[HS.out];have:=bx.out;omega) (H8.out.kept (SFr.kept_of (hall own8) b0.out hall)) bW.out
        (bb.out.trans (SFr.below_of hall hrb (QQ hbase bb.out.size))) hr9 b0.out (b3.out.mv (hall own8).mv) (((A1.toF ck.out (λb hb=>hb.1) cf.out).mv aZ.out.mv).mv (hall own8).mv) (HO.out.mv bW.out.mv)
       rw[HS.out]at N;rw[HS.out];exact N)
      clear hr9 hall b0 b3 ci bb aZ H8 bW;go_wp2_with fail;obtain⟨g,V9,G,C,F,Z,a9,E⟩:∃g V9 G C F Z a9,Hid (Ck base B r mb w1.heap.size f own S M k (.slice va ops.length vc) ops l3 w w9 g V9 G C F Z a9):=⟨_,_,_,_,_,_,_,aS⟩
      clear aS;have bl:=QA (show ∀o∈Sto.opsOf ops,(0≤o.2.1∧o.2.1≤9)∧o.2.2.length≤8192 from λo ho=>⟨Sto.chk_kinds ac.out o ho,by have N:=Sto.mass_mem ho;have h2:=(Sto.chk_len ac.out).2;omega⟩)
      go_loopg [12,66] ops.length (λdn s12 s66 wr=>∃(j:Nat) (X:List PB),j≤ops.length∧dn=ops.length-j∧s66=.int .i64 (j:Nat)∧Ba wr (w9).heap.size s12 X∧X.map (·.1)=((Sto.opsOf ops).take j).map Sto.bytes∧Below (w9).heap.size w9 wr)
      case atStart=>exact⟨0,[],Nat.zero_le _,rfl,rfl,Ba.nil _ _,rfl,Below.refl _ _⟩
      case round =>
       obtain⟨j,X,hj,aU,rfl,hP,ao,hB⟩:=hrel;have HK:=QA aU;have HP:=QA hP;have bc:=QA ao;have HB:=QA hB;have bf:Hid (X.length=j):=by
        have N:=congrArg List.length ao;rw[QV,QV,List.length_take,Sto.opsOf_len]at N;exact QA (by omega)
       clear aU hP ao hB;have cI:(0:Int)≤(j:Int):=Int.natCast_nonneg _;by_cases hjn:j<ops.length
       ·have bj:(j:Int)<(ops.length:Int):=by omega
        obtain⟨⟨o,pv⟩,hp⟩:∃p,ops[j]?=some p:=⟨_,ZG hjn⟩
        obtain⟨Q,bi,bg,bX,rfl,hg,aw⟩:=(E.out.opv.mv (MV.below HB.out)).at hp;have ae:=bi.1;have aA:=Sto.opsOf_get hp;have aW:=QA (bl.out o (QZ aA));have a1:Hid ((Sto.opsOf ops).take (j+1)=(Sto.opsOf ops).take j++[o]):=by rw[List.take_add_one,aA];exact QA rfl
        obtain⟨pa,pc,a8,bY⟩:=ae.form;simp only at a8 Q ae aw a1;subst a8;have bk:=Ad.new wr o (.slice pa o.2.2.length pc);have aR:=QA bk.range;have aP:=QA ae;have L:=QA Q;have HW:Hid (Below wr.heap.size wr (wr.alloc (.cells (AG o (.slice pa o.2.2.length pc)).toArray 43))):=QA ((Below.refl _ _).alloc (QM _) _);clear bk ae Q hp bi aA bY;go_wp2_with (first|(guard_target=wpList _ _ _ ({ dst:=_,op:=.load 43 _,type:=_,pos:=_,after:=_,guard:=none }::_) _ _;refine AJ rfl _ rfl bg (bX+j*34) o (.slice pa o.2.2.length pc) L.out rfl aw ?_)|(guard_target=wpList _ _ _ ({ dst:=_,op:=.store 43 _ _,type:=_,pos:=_,after:=_,guard:=none }::_) _ _;refine AL rfl _ _ rfl _ rfl o (.slice pa o.2.2.length pc) L.out aP.out.one rfl rfl ?_)|(guard_target=wpList _ _ _ ({ dst:=_,op:=.load 43 _,type:=_,pos:=_,after:=_,guard:=none }::_) _ _;refine AJ rfl _ rfl wr.heap.size 0 o (.slice pa o.2.2.length pc) L.out rfl aR.out ?_)|fail);obtain⟨wA,hA⟩:∃x,wr.alloc (.cells (AG o (.slice pa o.2.2.length pc)).toArray 43)=x:=⟨_,rfl⟩
        rw[hA]at HW aR ⊢;clear hA aw;refine (CE o (.slice pa o.2.2.length pc) wA L.out aW.out.1 (aP.out.below HW.out) aW.out.2).mono ?_;rintro e wB ⟨v',rfl,ho2,hb2⟩;obtain⟨ca,cc,bC⟩:=ho2.slice;subst bC;have O:=QA (HB.out.trans ((HW.out.trans (hb2.mono HW.out.size)).mono HB.out.size));have bN:=O.out.size;have bB:=QA (HP.out.keep (HW.out.trans (hb2.mono HW.out.size)));have a6:=QA (ho2.mono (QQ HB.out.size HW.out.size));have bM:Hid (∀g2,(Value.slice ca (Sto.bytes o).length cc).ownBlock=some g2→u12.ownBlock≠some g2):=QA λg2 hg2 e=>by
         have N:=(ho2.lt g2 hg2).1;have h2:=(HP.out.row.lt g2 e).2;have h3:=HW.out.size;omega
        have ad:Below wB.heap.size wB (wB.alloc (.cells #[.slice ca (Sto.bytes o).length cc] 41)):=(Below.refl _ _).alloc (QM _) _;have av:=QA (bB.out.keep ad);have bT:=QA (a6.out.keep ad);have aj:=QA (O.out.trans (ad.mono bN));have a7:=aj.out.size;have bZ:Hid (∀(j:Nat) u,[Value.slice ca (Sto.bytes o).length cc][j]?=some u→(wB.alloc (.cells #[.slice ca (Sto.bytes o).length cc] 41)).cell? ((⟨wB.heap.size,0,none⟩:Addr).add j)=some u):=by
         refine QA λj u hj=>?_
         rw[addr_add];exact Ak wB #[.slice ca (Sto.bytes o).length cc] 41 j u (by simpa using hj)
        obtain⟨i0,hi,bu,bP,bF⟩:=info_parts D1;have b2:X.length≤1000000000:=by have:=bf.out;omega
        clear ho2 hb2 ad;go_wp2_with (first|(at_builtin;refine wpList_append_own_at _ rfl _ _ 92 rfl (w9).heap.size 41 i0 (.slice none 0 0) 1 24 Tryz.underlying92 hi bu bP bF rfl (by decide) u12 X.length (X.map (·.2)) rfl av.out.row ⟨wB.heap.size,0,none⟩ 1 1 [.slice ca (Sto.bytes o).length cc] rfl rfl bZ.out (λu hu=>by simp at hu;subst hu;rfl) (by unfold maxLen;omega) (by omega) a7 ?_;intro v5 w5 hrow hgrow hnil hloc;clear hnil;have aX:=QA (Ba.more (l:=Sto.bytes o) av.out bT.out bM.out hrow hgrow hloc);have af:=QA (below_grown aj.out a7 av.out.row hgrow);clear hrow hgrow hloc)|fail);go_roundg (ops.length-(j+1))
        case measure=>rw[HK.out];omega
        case rel=>exact⟨j+1,_,by omega,rfl,by simp,aX.out,by rw[ZQ,bc.out,a1.out,ZQ];rfl,af.out⟩
       ·have bj:(ops.length:Int)≤(j:Int):=by omega
        have ai:Hid (X.map (·.1)=(Sto.opsOf ops).map Sto.bytes):=QA (by rw[bc.out,List.take_of_length_le (by have:=aH.out;omega)]);have aF:Hid ((X.map (·.1)).flatten=Sto.flat (Sto.opsOf ops)):=QA (by rw[ai.out];unfold Sto.flat;rw[List.flatMap_def]);have bS:Hid (∀x∈X.map (·.1),x.length≤1000000000):=QA λx hx=>by
         rw[ai.out]at hx;obtain⟨o,ho,rfl⟩:=List.mem_map.1 hx;obtain⟨p,hp,e⟩:=List.mem_map.1 ho;have N:=bl.out o ho;rw[Sto.bytes_len (by rw[← e];exact hk p hp)];omega
        have aC:w.heap.size≤(w9).heap.size:=E.out.fr.size;go_wp2_with fail;refine AM (λw'=>w'.heap[r]?=some (.cells (AF C F mb B false) 51 (0,0))) 11 (by kernel_rfl) ?_;have P:wr.drew.heap[r]?=some (.cells (AF C F mb B false) 51 (0,0)):=(HB.out.block r (AC E.out.root)).trans E.out.root;have ax:Below wr.heap.size wr wr.drew:=Below.drew (Below.refl _ wr);have ab:=QA (HB.out.trans (ax.mono HB.out.size));have aN:=QA (HP.out.keep ax);change Af _ _ _ _ _ _ _ _ _ wr.drew;clear ax;obtain⟨wD,bh⟩:∃q:World,wr.drew=q:=⟨_,rfl⟩
        rw[bh]at P ab aN ⊢;clear bh;refine TK (i:=0) (v:=.pointer (some ⟨r,0,none⟩)) rfl (Or.inl ⟨by rfl,λw hSw=>by go_simp⟩) P ?_;simp only[Act.put,QD,QK,QI,QJ,QC,QH,QG];refine TK (i:=1) (v:=.pointer (some ⟨r,0,none⟩)) rfl (Or.inl ⟨by rfl,λw hSw=>by go_simp⟩) P ?_;simp only[Act.put,QD,QK,QI,QJ,QC,QH,QG];refine TK (i:=2) (v:=.pointer (some ⟨r,0,none⟩)) rfl (Or.inl ⟨by rfl,λw hSw=>by go_simp⟩) P ?_;simp only[Act.put,QD,QK,QI,QJ,QC,QH,QG];refine TK (i:=3) (v:=.pointer (some ⟨r,3,none⟩)) rfl (Or.inl ⟨by rfl,λw hSw=>by go_simp⟩) P ?_;simp only[Act.put,QD,QK,QI,QJ,QC,QH,QG];refine TK (i:=4) (v:=.pointer (some ⟨B,0,none⟩)) rfl (Or.inl ⟨by rfl,λw hSw=>by have cy:=rc3 hSw;go_simp⟩) P ?_;simp only[Act.put,QD,QK,QI,QJ,QC,QH,QG];refine TK (i:=5) (v:=.pointer (some ⟨r,0,none⟩)) rfl (Or.inl ⟨by rfl,λw hSw=>by go_simp⟩) P ?_;simp only[Act.put,QD,QK,QI,QJ,QC,QH,QG];refine TK (i:=7) (v:=u12) rfl (Or.inl ⟨by rfl,λw hSw=>by go_simp⟩) P ?_;simp only[Act.put,QD,QK,QI,QJ,QC,QH,QG];refine TO (i:=6) ?_;refine AD (by decide) (λK6 HK6=>?_);simp only[QE,QL,QF,QN];go_wp2_with fail;refine (A9 wD r B mb C F false Z P (E.out.seg.1.below ab.out) E.out.ne E.out.few).mono ?_;rintro e wE ⟨rfl,nE,rfl⟩;rw[E.out.act];have aq:Below wD.heap.size wD (wD.drewN nE):=Below.drewN (Below.refl _ wD) nE;have T:(wD.drewN nE).heap[r]?=some (.cells (AF C F mb B false) 51 (0,0)):=P;have K:=QA (ab.out.trans (aq.mono ab.out.size));have a5:=QA (aN.out.keep aq);clear aq;obtain⟨wE,ba⟩:∃q:World,wD.drewN nE=q:=⟨_,rfl⟩
        rw[ba]at T K a5 ⊢;clear ba;go_wp2;refine HK6.out _ _ ⟨λ_=>T,?_⟩;clear HK6;refine TO (i:=8) ?_;refine AD (by decide) (λK8 HK8=>?_);simp only[QE,QL,QF,QN];go_wp2_with fail;have ah:(Fs.step g).2.1≤9223372036854775807:=by rw[Fs.step_calm E.out.calm];show (0:Int)≤_;decide
        have aV:base≤wE.heap.size:=QQ hbase (QQ aC K.out.size);refine (BM base B g V9 G a9 1 u12 (X.map (·.1)) wE (E.out.fs.kept (AB K.out)) (HE.out.below (E.out.bel.trans (K.out.mono (QQ hbase aC)))) aV E.out.small a5.out.prts (by rw[QV];have:=bf.out;omega) bS.out ah).mono ?_;rw[aF.out,E.out.code];rintro e wF ⟨rfl,hpost⟩;have W:=AQ.below0 (E.out.fs.kept (AB K.out)) hpost aV;obtain⟨VF,A,hF,aB,aE⟩:=hpost;have ar:wF.heap[r]?=some (.cells (AF C F mb B false) 51 (0,0)):=(aE.block r (AC T) (by rw[E.out.mine];simp)).trans T;have aO:Hid (SFr r G A w9 wF):=QA ((SFr.below K.out).trans (SFr.kept aB aE));have be:=QA hF;have ay:Hid (A r=.other):=QA ((aB r (AC T)).trans E.out.mine);have an:Hid (Below base w wF):=QA ((E.out.bel.trans (K.out.mono (QQ hbase aC))).trans W);clear W hF aB aE ah;go_wp2;refine HK8.out _ _ ⟨λ_=>ar,?_⟩;clear HK8;refine TO (i:=9) ?_;refine AD (by decide) (λK9 HK9=>?_);simp only[QE,QL,QF,QN];go_wp2_with fail;refine (B6 wF r B mb C F false 0 ar).mono ?_;rintro e wG ⟨rfl,hSG,hallG⟩;have D:wG.heap[r]?=some (.cells (AF C F mb B false) 51 (0,0)):=hSG;have aD:Hid (SFr r G A w9 wG):=QA (aO.out.trans (hallG A));have bd:=QA (be.out.kept (SFr.kept_of (hallG A) ay.out hallG));have b1:Hid (Below base w wG):=QA (an.out.trans (SFr.below_of hallG hrb (QQ hbase an.out.size)));clear hSG hallG be aO an ar;go_wp2;refine HK9.out _ _ ⟨λ_=>D,?_⟩;clear HK9;refine TO (i:=10) ?_;refine AD (by decide) (λK10 HK10=>?_);simp only[QE,QL,QF,QN];go_wp2_with fail;refine HK10.out _ _ ⟨λ_=>D,?_⟩;clear HK10;refine AO (by kernel_rfl) ?_ _;have f2:=AE D 2;have y0:=rc0 D;have y1:=rc1 D;have y2:=rc2 D;have y3:=rc3 D;have y4:=rc4 D;go_wp2_with fail;refine bodyPost_ret (v:=.int .i64 0) (by simp[results,Tryz.results13,go_sem]) rfl ?_;have bv:Bh wG (SF r A) w1.heap.size l3:=E.out.map.mv aD.out.mv;have Y:SFr r A A wG (wG.setCell ⟨r,2,none⟩ (.map (some w1.heap.size))):=SFr.set wG 2 _;refine⟨by rw[I.out],?_⟩;rw[b9.out];refine⟨_,VF,A,C,w1.heap.size,F,l3,bd.out.kept ((Kept.refl A (·=.other) wG).setCell ⟨r,2,none⟩ ay.out _),(E.out.fr.trans aD.out).trans Y,b1.out.setCell (p:=⟨r,2,none⟩) hrb _,⟨?_,ay.out,?_,bv.mv Y.mv,?_,?_⟩,E.out.disk,E.out.room⟩
        ·exact heap_set (w:=wG) D _
        ·show CB _ _ _ (Sto.ids _);rw[E.out.ids];exact (E.out.seg.mv aD.out.mv).mv Y.mv
        ·show _=Sto.ents _;rw[Sto.ents_put aG.out];exact aT.out
        ·show Sto.Srt (Sto.ents _);rw[Sto.ents_put aG.out];exact a2.out
     ·have bH:(((Sto.fileOf bs).length:Nat):Int)≤4096:=by omega
      have aJ:=QA hbig;clear hbig;have aS:Hid (Ck base B r mb w1.heap.size f own S M k (.slice va ops.length vc) ops l3 w w7 f V own ver sv (Sto.ids (S0++[(a,bs)])) a):=QA (by
       have N:=Ck.of0 (mb:=mb) (B:=B) (r:=r) (base:=base) (own:=own) (w:=w) (v:=.slice va ops.length vc) (mb2:=w1.heap.size) (by rw[HS.out];exact HD.out) (by rw[HS.out];exact aI.out) aJ.out cg.out (by rw[HS.out];have:=bx.out;omega) (H.out.kept (AB aa.out)) (SFr.below aa.out)
        (aa.out.mono hbase) a4.out.root bL.out (by rw[HS.out];exact a4.out.segs) (A1.toF ck.out (λb hb=>hb.1) cf.out) (HO.out.mv (SFr.below aa.out).mv)
       rw[HS.out]at N;rw[HS.out];exact N)
      go_wp2_with fail;obtain⟨g,V9,G,C,F,Z,a9,E⟩:∃g V9 G C F Z a9,Hid (Ck base B r mb w1.heap.size f own S M k (.slice va ops.length vc) ops l3 w w7 g V9 G C F Z a9):=⟨_,_,_,_,_,_,_,aS⟩
      clear aS;have bl:=QA (show ∀o∈Sto.opsOf ops,(0≤o.2.1∧o.2.1≤9)∧o.2.2.length≤8192 from λo ho=>⟨Sto.chk_kinds ac.out o ho,by have N:=Sto.mass_mem ho;have h2:=(Sto.chk_len ac.out).2;omega⟩)
      go_loopg [12,66] ops.length (λdn s12 s66 wr=>∃(j:Nat) (X:List PB),j≤ops.length∧dn=ops.length-j∧s66=.int .i64 (j:Nat)∧Ba wr (w7).heap.size s12 X∧X.map (·.1)=((Sto.opsOf ops).take j).map Sto.bytes∧Below (w7).heap.size w7 wr)
      case atStart=>exact⟨0,[],Nat.zero_le _,rfl,rfl,Ba.nil _ _,rfl,Below.refl _ _⟩
      case round =>
       obtain⟨j,X,hj,aU,rfl,hP,ao,hB⟩:=hrel;have HK:=QA aU;have HP:=QA hP;have bc:=QA ao;have HB:=QA hB;have bf:Hid (X.length=j):=by
        have N:=congrArg List.length ao;rw[QV,QV,List.length_take,Sto.opsOf_len]at N;exact QA (by omega)
       clear aU hP ao hB;have cI:(0:Int)≤(j:Int):=Int.natCast_nonneg _;by_cases hjn:j<ops.length
       ·have bj:(j:Int)<(ops.length:Int):=by omega
        obtain⟨⟨o,pv⟩,hp⟩:∃p,ops[j]?=some p:=⟨_,ZG hjn⟩
        obtain⟨Q,bi,bg,bX,rfl,hg,aw⟩:=(E.out.opv.mv (MV.below HB.out)).at hp;have ae:=bi.1;have aA:=Sto.opsOf_get hp;have aW:=QA (bl.out o (QZ aA));have a1:Hid ((Sto.opsOf ops).take (j+1)=(Sto.opsOf ops).take j++[o]):=by rw[List.take_add_one,aA];exact QA rfl
        obtain⟨pa,pc,a8,bY⟩:=ae.form;simp only at a8 Q ae aw a1;subst a8;have bk:=Ad.new wr o (.slice pa o.2.2.length pc);have aR:=QA bk.range;have aP:=QA ae;have L:=QA Q;have HW:Hid (Below wr.heap.size wr (wr.alloc (.cells (AG o (.slice pa o.2.2.length pc)).toArray 43))):=QA ((Below.refl _ _).alloc (QM _) _);clear bk ae Q hp bi aA bY;go_wp2_with (first|(guard_target=wpList _ _ _ ({ dst:=_,op:=.load 43 _,type:=_,pos:=_,after:=_,guard:=none }::_) _ _;refine AJ rfl _ rfl bg (bX+j*34) o (.slice pa o.2.2.length pc) L.out rfl aw ?_)|(guard_target=wpList _ _ _ ({ dst:=_,op:=.store 43 _ _,type:=_,pos:=_,after:=_,guard:=none }::_) _ _;refine AL rfl _ _ rfl _ rfl o (.slice pa o.2.2.length pc) L.out aP.out.one rfl rfl ?_)|(guard_target=wpList _ _ _ ({ dst:=_,op:=.load 43 _,type:=_,pos:=_,after:=_,guard:=none }::_) _ _;refine AJ rfl _ rfl wr.heap.size 0 o (.slice pa o.2.2.length pc) L.out rfl aR.out ?_)|fail);obtain⟨wA,hA⟩:∃x,wr.alloc (.cells (AG o (.slice pa o.2.2.length pc)).toArray 43)=x:=⟨_,rfl⟩
        rw[hA]at HW aR ⊢;clear hA aw;refine (CE o (.slice pa o.2.2.length pc) wA L.out aW.out.1 (aP.out.below HW.out) aW.out.2).mono ?_;rintro e wB ⟨v',rfl,ho2,hb2⟩;obtain⟨ca,cc,bC⟩:=ho2.slice;subst bC;have O:=QA (HB.out.trans ((HW.out.trans (hb2.mono HW.out.size)).mono HB.out.size));have bN:=O.out.size;have bB:=QA (HP.out.keep (HW.out.trans (hb2.mono HW.out.size)));have a6:=QA (ho2.mono (QQ HB.out.size HW.out.size));have bM:Hid (∀g2,(Value.slice ca (Sto.bytes o).length cc).ownBlock=some g2→u12.ownBlock≠some g2):=QA λg2 hg2 e=>by
         have N:=(ho2.lt g2 hg2).1;have h2:=(HP.out.row.lt g2 e).2;have h3:=HW.out.size;omega
        have ad:Below wB.heap.size wB (wB.alloc (.cells #[.slice ca (Sto.bytes o).length cc] 41)):=(Below.refl _ _).alloc (QM _) _;have av:=QA (bB.out.keep ad);have bT:=QA (a6.out.keep ad);have aj:=QA (O.out.trans (ad.mono bN));have a7:=aj.out.size;have bZ:Hid (∀(j:Nat) u,[Value.slice ca (Sto.bytes o).length cc][j]?=some u→(wB.alloc (.cells #[.slice ca (Sto.bytes o).length cc] 41)).cell? ((⟨wB.heap.size,0,none⟩:Addr).add j)=some u):=by
         refine QA λj u hj=>?_
         rw[addr_add];exact Ak wB #[.slice ca (Sto.bytes o).length cc] 41 j u (by simpa using hj)
        obtain⟨i0,hi,bu,bP,bF⟩:=info_parts D1;have b2:X.length≤1000000000:=by have:=bf.out;omega
        clear ho2 hb2 ad;go_wp2_with (first|(at_builtin;refine wpList_append_own_at _ rfl _ _ 92 rfl (w7).heap.size 41 i0 (.slice none 0 0) 1 24 Tryz.underlying92 hi bu bP bF rfl (by decide) u12 X.length (X.map (·.2)) rfl av.out.row ⟨wB.heap.size,0,none⟩ 1 1 [.slice ca (Sto.bytes o).length cc] rfl rfl bZ.out (λu hu=>by simp at hu;subst hu;rfl) (by unfold maxLen;omega) (by omega) a7 ?_;intro v5 w5 hrow hgrow hnil hloc;clear hnil;have aX:=QA (Ba.more (l:=Sto.bytes o) av.out bT.out bM.out hrow hgrow hloc);have af:=QA (below_grown aj.out a7 av.out.row hgrow);clear hrow hgrow hloc)|fail);go_roundg (ops.length-(j+1))
        case measure=>rw[HK.out];omega
        case rel=>exact⟨j+1,_,by omega,rfl,by simp,aX.out,by rw[ZQ,bc.out,a1.out,ZQ];rfl,af.out⟩
       ·have bj:(ops.length:Int)≤(j:Int):=by omega
        have ai:Hid (X.map (·.1)=(Sto.opsOf ops).map Sto.bytes):=QA (by rw[bc.out,List.take_of_length_le (by have:=aH.out;omega)]);have aF:Hid ((X.map (·.1)).flatten=Sto.flat (Sto.opsOf ops)):=QA (by rw[ai.out];unfold Sto.flat;rw[List.flatMap_def]);have bS:Hid (∀x∈X.map (·.1),x.length≤1000000000):=QA λx hx=>by
         rw[ai.out]at hx;obtain⟨o,ho,rfl⟩:=List.mem_map.1 hx;obtain⟨p,hp,e⟩:=List.mem_map.1 ho;have N:=bl.out o ho;rw[Sto.bytes_len (by rw[← e];exact hk p hp)];omega
        have aC:w.heap.size≤(w7).heap.size:=E.out.fr.size;go_wp2_with fail;refine AM (λw'=>w'.heap[r]?=some (.cells (AF C F mb B false) 51 (0,0))) 11 (by kernel_rfl) ?_;have P:wr.drew.heap[r]?=some (.cells (AF C F mb B false) 51 (0,0)):=(HB.out.block r (AC E.out.root)).trans E.out.root;have ax:Below wr.heap.size wr wr.drew:=Below.drew (Below.refl _ wr);have ab:=QA (HB.out.trans (ax.mono HB.out.size));have aN:=QA (HP.out.keep ax);change Af _ _ _ _ _ _ _ _ _ wr.drew;clear ax;obtain⟨wD,bh⟩:∃q:World,wr.drew=q:=⟨_,rfl⟩
        rw[bh]at P ab aN ⊢;clear bh;refine TK (i:=0) (v:=.pointer (some ⟨r,0,none⟩)) rfl (Or.inl ⟨by rfl,λw hSw=>by go_simp⟩) P ?_;simp only[Act.put,QD,QK,QI,QJ,QC,QH,QG];refine TK (i:=1) (v:=.pointer (some ⟨r,0,none⟩)) rfl (Or.inl ⟨by rfl,λw hSw=>by go_simp⟩) P ?_;simp only[Act.put,QD,QK,QI,QJ,QC,QH,QG];refine TK (i:=2) (v:=.pointer (some ⟨r,0,none⟩)) rfl (Or.inl ⟨by rfl,λw hSw=>by go_simp⟩) P ?_;simp only[Act.put,QD,QK,QI,QJ,QC,QH,QG];refine TK (i:=3) (v:=.pointer (some ⟨r,3,none⟩)) rfl (Or.inl ⟨by rfl,λw hSw=>by go_simp⟩) P ?_;simp only[Act.put,QD,QK,QI,QJ,QC,QH,QG];refine TK (i:=4) (v:=.pointer (some ⟨B,0,none⟩)) rfl (Or.inl ⟨by rfl,λw hSw=>by have cy:=rc3 hSw;go_simp⟩) P ?_;simp only[Act.put,QD,QK,QI,QJ,QC,QH,QG];refine TK (i:=5) (v:=.pointer (some ⟨r,0,none⟩)) rfl (Or.inl ⟨by rfl,λw hSw=>by go_simp⟩) P ?_;simp only[Act.put,QD,QK,QI,QJ,QC,QH,QG];refine TK (i:=7) (v:=u12) rfl (Or.inl ⟨by rfl,λw hSw=>by go_simp⟩) P ?_;simp only[Act.put,QD,QK,QI,QJ,QC,QH,QG];refine TO (i:=6) ?_;refine AD (by decide) (λK6 HK6=>?_);simp only[QE,QL,QF,QN];go_wp2_with fail;refine (A9 wD r B mb C F false Z P (E.out.seg.1.below ab.out) E.out.ne E.out.few).mono ?_;rintro e wE ⟨rfl,nE,rfl⟩;rw[E.out.act];have aq:Below wD.heap.size wD (wD.drewN nE):=Below.drewN (Below.refl _ wD) nE;have T:(wD.drewN nE).heap[r]?=some (.cells (AF C F mb B false) 51 (0,0)):=P;have K:=QA (ab.out.trans (aq.mono ab.out.size));have a5:=QA (aN.out.keep aq);clear aq;obtain⟨wE,ba⟩:∃q:World,wD.drewN nE=q:=⟨_,rfl⟩
        rw[ba]at T K a5 ⊢;clear ba;go_wp2;refine HK6.out _ _ ⟨λ_=>T,?_⟩;clear HK6;refine TO (i:=8) ?_;refine AD (by decide) (λK8 HK8=>?_);simp only[QE,QL,QF,QN];go_wp2_with fail;have ah:(Fs.step g).2.1≤9223372036854775807:=by rw[Fs.step_calm E.out.calm];show (0:Int)≤_;decide
        have aV:base≤wE.heap.size:=QQ hbase (QQ aC K.out.size);refine (BM base B g V9 G a9 1 u12 (X.map (·.1)) wE (E.out.fs.kept (AB K.out)) (HE.out.below (E.out.bel.trans (K.out.mono (QQ hbase aC)))) aV E.out.small a5.out.prts (by rw[QV];have:=bf.out;omega) bS.out ah).mono ?_;rw[aF.out,E.out.code];rintro e wF ⟨rfl,hpost⟩;have W:=AQ.below0 (E.out.fs.kept (AB K.out)) hpost aV;obtain⟨VF,A,hF,aB,aE⟩:=hpost;have ar:wF.heap[r]?=some (.cells (AF C F mb B false) 51 (0,0)):=(aE.block r (AC T) (by rw[E.out.mine];simp)).trans T;have aO:Hid (SFr r G A w7 wF):=QA ((SFr.below K.out).trans (SFr.kept aB aE));have be:=QA hF;have ay:Hid (A r=.other):=QA ((aB r (AC T)).trans E.out.mine);have an:Hid (Below base w wF):=QA ((E.out.bel.trans (K.out.mono (QQ hbase aC))).trans W);clear W hF aB aE ah;go_wp2;refine HK8.out _ _ ⟨λ_=>ar,?_⟩;clear HK8;refine TO (i:=9) ?_;refine AD (by decide) (λK9 HK9=>?_);simp only[QE,QL,QF,QN];go_wp2_with fail;refine (B6 wF r B mb C F false 0 ar).mono ?_;rintro e wG ⟨rfl,hSG,hallG⟩;have D:wG.heap[r]?=some (.cells (AF C F mb B false) 51 (0,0)):=hSG;have aD:Hid (SFr r G A w7 wG):=QA (aO.out.trans (hallG A));have bd:=QA (be.out.kept (SFr.kept_of (hallG A) ay.out hallG));have b1:Hid (Below base w wG):=QA (an.out.trans (SFr.below_of hallG hrb (QQ hbase an.out.size)));clear hSG hallG be aO an ar;go_wp2;refine HK9.out _ _ ⟨λ_=>D,?_⟩;clear HK9;refine TO (i:=10) ?_;refine AD (by decide) (λK10 HK10=>?_);simp only[QE,QL,QF,QN];go_wp2_with fail;refine HK10.out _ _ ⟨λ_=>D,?_⟩;clear HK10;refine AO (by kernel_rfl) ?_ _;have f2:=AE D 2;have y0:=rc0 D;have y1:=rc1 D;have y2:=rc2 D;have y3:=rc3 D;have y4:=rc4 D;go_wp2_with fail;refine bodyPost_ret (v:=.int .i64 0) (by simp[results,Tryz.results13,go_sem]) rfl ?_;have bv:Bh wG (SF r A) w1.heap.size l3:=E.out.map.mv aD.out.mv;have Y:SFr r A A wG (wG.setCell ⟨r,2,none⟩ (.map (some w1.heap.size))):=SFr.set wG 2 _;refine⟨by rw[I.out],?_⟩;rw[b9.out];refine⟨_,VF,A,C,w1.heap.size,F,l3,bd.out.kept ((Kept.refl A (·=.other) wG).setCell ⟨r,2,none⟩ ay.out _),(E.out.fr.trans aD.out).trans Y,b1.out.setCell (p:=⟨r,2,none⟩) hrb _,⟨?_,ay.out,?_,bv.mv Y.mv,?_,?_⟩,E.out.disk,E.out.room⟩
        ·exact heap_set (w:=wG) D _
        ·show CB _ _ _ (Sto.ids _);rw[E.out.ids];exact (E.out.seg.mv aD.out.mv).mv Y.mv
        ·show _=Sto.ents _;rw[Sto.ents_put aG.out];exact aT.out
        ·show Sto.Srt (Sto.ents _);rw[Sto.ents_put aG.out];exact a2.out
    ·exact absurd ch.out.1 h0
 ·have cF:(Sto.chk (Sto.opsOf ops) != 0)=true:=by rw[bne_iff_ne];exact hc0
  have I:Hid (Sto.wcode S (Sto.opsOf ops)=Sto.chk (Sto.opsOf ops)):=QA (if_pos hc0);have U:Hid (Sto.wrote S (Sto.opsOf ops)=S):=QA (if_neg λhg=>hc0 hg.1);clear hc0;go_wp2_with fail;refine bodyPost_ret (v:=.int .i64 (Sto.chk (Sto.opsOf ops))) (by simp[results,Tryz.results13,go_sem]) rfl ?_;exact⟨by rw[I.out],by rw[U.out];exact D3.still H.out HA.out HD.out hbase a3.out⟩
open Go.Maps Go.WideMaps
theorem Fs.keys_nil:Fs.keys []=[]:=List.eq_nil_iff_forall_not_mem.2 λx hx=>by
 have:=Fs.keys_mem.1 hx;cases this
theorem Gr (base B r mb:Nat) (rm:Int) (V:FsV) (own:Nat→Tag) (w:World) (h:Aa base B (Fs.new rm) V own w) (hE:Aq base w) (hbase:base≤w.heap.size) (hrb:base≤r)
  (hroot:w.heap[r]?=some (.cells (AF 0 (.slice none 0 0) mb B false) 51 (0,0))) (hr0:own r=.other) (h1:3200≤rm) (h2:rm≤1048576) :
  Calls Tryz.prog 44 #[.pointer (some ⟨r,0,none⟩)] w λe w'=>e=.returned (.tuple #[.pointer (some ⟨r,0,none⟩),.int .i64 0])∧∃V' own' sv',Aa base B (Mf.save (Sg.create (Fs.new rm) 1).1 1 [1]).1 V' own' w'∧SFr r own own' w w'∧Below base w w' ∧
   w'.heap[r]?=some (.cells (AF 1 sv' mb B false) 51 (0,0))∧CB w' (SF r own') sv' [1]:=by
 obtain⟨d1,d2,d3,d4,d5,d6⟩:=Sto.Disk.begin h1 h2;have H:=QA h;have HE:=QA hE;have HR:=QA hroot;have ag:=QA hr0;have af:Fs.Sound (Fs.new rm) 1:=Fs.Sound.new ⟨by omega,h2⟩ 1;have aw:=QA af;have ax:=AC hroot;have I:=rc0 hroot;have P:=rc1 hroot;have J:=rc2 hroot;have y3:=rc3 hroot;have U:=rc4 hroot;clear h hE hroot hr0 af;go_enter Tryz.func44,Tryz.ntmps44;go_wp2_with fail;refine (Bc base B (Fs.new rm) V own w H.out (by show 0≤_;omega)).mono ?_;rintro e w1 ⟨v1,rfl,hs1,-,hb1⟩;obtain⟨a1,c1,rfl⟩:=hs1.form;have e0:(strsOf (Fs.keys (Fs.new rm).dir)).length=0:=by rw[show Fs.keys (Fs.new rm).dir=[] from Fs.keys_nil];rfl
 rw[e0];have C:=QA hb1;have A:Hid (w1.heap[r]?=some (.cells (AF 0 (.slice none 0 0) mb B false) 51 (0,0))):=QA ((hb1.block r ax).trans HR.out);clear hb1 hs1 I P J y3 U;have I:=rc0 A.out;have P:=rc1 A.out;have J:=rc2 A.out;have y3:=rc3 A.out;have U:=rc4 A.out;go_wp2_with fail
 go_loopg [18] 1 (λdn s18 wr=>s18=.int .i64 0∧w1=wr)
 case atStart=>exact⟨rfl,rfl⟩
 case round =>
  obtain⟨rfl,rfl⟩:=hrel;go_wp2_with fail;refine (Bw base B (Fs.new rm) V own 1 w1 (H.out.kept (AB C.out)) (HE.out.below (C.out.mono hbase)) (QQ hbase C.out.size) (aw.out.small (by omega))).mono ?_;rintro e w2 ⟨rfl,V2,own2,h2',ho2,hk2⟩;rw[d1];have H2:=QA h2';have ac:Hid (SFr r own own2 w w2):=QA ((SFr.below C.out).trans (SFr.kept ho2 hk2));have O:Hid (w2.heap[r]?=some (.cells (AF 0 (.slice none 0 0) mb B false) 51 (0,0))):=QA ((hk2.block r (AC A.out) (by rw[ag.out];simp)).trans A.out);have aa:own2 r=.other:=(ho2 r (AC A.out)).trans ag.out;have an:Hid (Below base w w2):=QA ((C.out.mono hbase).trans (AQ.below0 (H.out.kept (AB C.out)) ⟨V2,own2,h2',ho2,hk2⟩ (QQ hbase C.out.size)));have S:=ac.out.size;clear I P J y3 U h2' ho2 hk2;have E:Below w2.heap.size w2 (w2.alloc (.cells #[.int .i64 1] 3)):=(Below.refl _ w2).alloc (QM _) _;have HL:=QA E;have HG:Hid ((w2.alloc (.cells #[.int .i64 1] 3)).heap[w2.heap.size]?=some (.cells #[.int .i64 1] 3 (0,0))):=QA (AK w2 _);have o:Hid ((w2.alloc (.cells #[.int .i64 1] 3)).heap[r]?=some (.cells (AF 0 (.slice none 0 0) mb B false) 51 (0,0))):=QA ((E.block r (AC O.out)).trans O.out);have f0:=AE o.out 0;have f1:=AE o.out 1;have I:=rc0 o.out;have P:=rc1 o.out;have J:=rc2 o.out;have y3:=rc3 o.out;have U:=rc4 o.out;clear E;go_wp2_with fail;obtain⟨W,N⟩:∃q,((w2.alloc (.cells #[.int .i64 1] 3)).setCell ⟨r,0,none⟩ (.int .i64 1)).setCell ⟨r,1,none⟩ (.slice (some ⟨w2.heap.size,0,none⟩) 1 1)=q:=⟨_,rfl⟩
  rw[N];have M:w2.heap.size≠r:=by have:=AC O.out;omega
  have D:Hid (W.heap[r]?=some (.cells (AF 1 (.slice (some ⟨w2.heap.size,0,none⟩) 1 1) mb B false) 51 (0,0))):=QA (by rw[← N];exact heap_set (heap_set o.out _) _);have Q:Hid (W.heap[w2.heap.size]?=some (.cells #[.int .i64 1] 3 (0,0))):=QA (by rw[← N];exact ((Below.heap_setCell _ _ _ _ M).trans (Below.heap_setCell _ _ _ _ M)).trans HG.out);have ae:Hid (SFr r own own2 w W):=QA (by rw[← N];exact ((ac.out.trans (SFr.below HL.out)).trans (SFr.set _ 0 _)).trans (SFr.set _ 1 _));have ad:Hid (Aa base B (Sg.create (Fs.new rm) 1).1 V2 own2 W):=QA (by
   rw[← N];exact H2.out.kept (((AB HL.out).setCell ⟨r,0,none⟩ aa _).setCell ⟨r,1,none⟩ aa _))
  have ai:Hid (Below base w W):=QA (by
   rw[← N];exact ((an.out.trans (HL.out.mono (QQ hbase S))).setCell (p:=⟨r,0,none⟩) hrb _).setCell (p:=⟨r,1,none⟩) hrb _)
  have R:w2.heap.size≤W.heap.size:=Nat.le_of_lt (AC Q.out);clear N o HG HL I P J y3 U f0 f1;have I:=rc0 D.out;have P:=rc1 D.out;have J:=rc2 D.out;have y3:=rc3 D.out;have U:=rc4 D.out;refine Ai [8] (by kernel_rfl) (by kernel_rfl) ?_;simp only[Bo,QF,QN,QE,QL,Nat.sub_zero,Nat.reduceSub,Nat.reduceAdd]
  repeat (go_big_quiet_step (fail))
  refine wpQuiet_nil ?_;rintro _ ⟨nq,rfl⟩;have T:Hid ((W.drewN nq).heap[r]?=some (.cells (AF 1 (.slice (some ⟨w2.heap.size,0,none⟩) 1 1) mb B false) 51 (0,0))):=QA D.out;have F:Hid ((W.drewN nq).heap[w2.heap.size]?=some (.cells #[.int .i64 1] 3 (0,0))):=QA Q.out;have G:Below W.heap.size W (W.drewN nq):=Below.drewN (Below.refl _ W) nq;have aj:Hid (SFr r own own2 w (W.drewN nq)):=QA (ae.out.trans (SFr.below G));have K:=QA (ad.out.kept (AB G));have L:Hid (Below base w (W.drewN nq)):=QA (ai.out.trans (G.mono (QQ hbase (QQ S R))));have al:w2.heap.size≤(W.drewN nq).heap.size:=R;clear G D Q ae ad ai R I P J y3 U;obtain⟨Y,hY⟩:∃q,W.drewN nq=q:=⟨_,rfl⟩
  rw[hY]at T F aj K L al ⊢;clear hY;go_wp2_with fail;have ah:=QQ hbase (QQ S al);refine (EM base B _ V2 own2 1 _ [1] Y K.out (HE.out.below L.out) ah 3 d3 (by omega) (λz hz=>by rw[d4.2]at hz;cases hz) (A3 F.out) (by simp)).mono ?_;rintro e w5 ⟨rfl,V5,own5,h5,ho5,hk5⟩;rw[d2];have aq:=AC T.out;have ak:own2 w2.heap.size=.other:=H2.out.fresh _ (QM _);have ar:Hid (w5.heap[r]?=some (.cells (AF 1 (.slice (some ⟨w2.heap.size,0,none⟩) 1 1) mb B false) 51 (0,0))):=QA ((hk5.block r aq (by rw[aa];simp)).trans T.out);have au:Hid (w5.heap[w2.heap.size]?=some (.cells #[.int .i64 1] 3 (0,0))):=QA ((hk5.block _ (AC F.out) (by rw[ak];simp)).trans F.out);have am:Hid (SFr r own own5 w w5):=QA (aj.out.trans (SFr.kept ho5 hk5));have ap:Hid (Below base w w5):=QA (L.out.trans (AQ.below0 K.out ⟨V5,own5,h5,ho5,hk5⟩ ah));have av:Hid (own5 w2.heap.size=.other):=QA ((ho5 _ (AC F.out)).trans ak);have H5:=QA h5;clear h5 ho5 hk5;go_wp2_with fail
  repeat (go_big_quiet_step (fail))
  refine wpQuiet_nil ?_;rintro _ ⟨n7,rfl⟩;go_wp2_with fail;have Z:Below w5.heap.size w5 (w5.drewN n7):=Below.drewN (Below.refl _ w5) n7;refine bodyPost_ret (v:=.tuple #[.pointer (some ⟨r,0,none⟩),.int .i64 0]) (by simp[results,Tryz.results44,go_sem]) rfl ?_;exact⟨rfl,V5,own5,_,H5.out.kept (AB Z),am.out.trans (SFr.below Z),ap.out.trans (Z.mono (QQ hbase am.out.size)),ar.out,A3 (X:=w5.drewN n7) au.out,λp n c e _=>by
   simp only[Value.slice.injEq,Option.some.injEq]at e;rw[← e.1];exact⟨av.out,M⟩⟩
def F4 (base B:Nat) (f':Fs.St) (own:Nat→Tag) (ver:Int) (S:List Sto.Seg) (w:World) (e:Ending) (w':World):Prop :=
 ∃r V' own' sv' mb l,e=.returned (.tuple #[.pointer (some ⟨r,0,none⟩),.int .i64 0])∧w.heap.size≤r∧Aa base B f' V' own' w'∧SFr r own own' w w'∧Below base w w'∧An w' own' B r ⟨ver,Sto.ids S,Sto.ents S,false⟩ mb sv' l
theorem Cm {w:World} {a:Option Addr} {n c:Nat} {ls:List ByteArray} (h:DG w (.slice a n c) ls) (hn:n≤1000000) {d:Fs.Names} (hl:ls=strsOf (Fs.keys d)) :
  Calls Tryz.prog 43 #[.slice a n c,.string ⟨#[109,97,110,105,102,101,115,116]⟩] w λe w'=>e=.returned (.bool (Fs.mhas d Mf.final))∧w'=w:=by
 refine (Ci h hn _).mono ?_;rintro e w' ⟨rfl,rfl⟩;rw[hl];exact⟨congrArg (λb=>Ending.returned (.bool b)) GZ,rfl⟩
theorem FU (base B:Nat) (rm:Int) (V:FsV) (own:Nat→Tag) (w:World) (h:Aa base B (Fs.new rm) V own w) (hE:Aq base w) (hbase:base≤w.heap.size) (h1:3200≤rm) (h2:rm≤1048576) :
  Calls Tryz.prog 21 #[.pointer (some ⟨B,0,none⟩)] w (F4 base B (Mf.save (Sg.create (Fs.new rm) 1).1 1 [1]).1 own 1 [(1,[])] w):=by
 have Y:=@run_makeMap Tryz.prog;obtain⟨O,C⟩:∃x,x=(w.alloc (.map #[] 0)).alloc (.cells #[.int .i64 0,.slice none 0 0,.map (some w.heap.size),.pointer (some ⟨B,0,none⟩),.bool false] 51):=⟨_,rfl⟩
 have G:Below w.heap.size w O:=by rw[C];exact ((Below.refl _ _).alloc (QM _) _).alloc (by simp) _
 have J:O.ownsMap Tryz.prog 40 Sto.elemR w.heap.size 0 (.map []):=by rw[C];exact (World.ownsMap_made w Tryz.prog 40 Sto.elemR).alloc _
 have N:O.heap[w.heap.size+1]?=some (.cells (AF 0 (.slice none 0 0) w.heap.size B false) 51 (0,0)):=by
  rw[C];have:=AK (w.alloc (.map #[] 0)) (.cells #[.int .i64 0,.slice none 0 0,.map (some w.heap.size),.pointer (some ⟨B,0,none⟩),.bool false] 51);rw[show (w.alloc (.map #[] 0)).heap.size=w.heap.size+1 by simp]at this;exact this
 have Q:=QA C.symm;have I:=QA G;have P:=QA J;have F:=QA N;have H:=QA (h.kept (AB G));have X:=QA hE;have L:Hid (own (w.heap.size+1)=.other):=QA (h.fresh _ (by omega));have M:Hid (own w.heap.size=.other):=QA (h.fresh _ (by omega));clear C G J N h hE;go_enter Tryz.func21,Tryz.ntmps21;go_wp2_with fail;rw[Q.out];refine (Bc base B (Fs.new rm) V own O H.out (by show 0≤_;omega)).mono ?_;rintro e w2 ⟨v1,rfl,hs1,-,hb2⟩;obtain⟨a1,c1,rfl⟩:=hs1.form;have R:=QA hs1;have E:=QA (I.out.trans (hb2.mono I.out.size));have o:=QA hb2;have S:(strsOf (Fs.keys (Fs.new rm).dir)).length≤1000000:=by rw[show Fs.keys (Fs.new rm).dir=[] from Fs.keys_nil];show 0≤_;omega
 clear hb2 hs1;go_wp2_with fail;refine (Cm R.out S (d:=(Fs.new rm).dir) rfl).mono ?_;rintro e w3 ⟨rfl,rfl⟩;rw[show Fs.mhas (Fs.new rm).dir Mf.final=false from rfl];go_wp2_with fail;refine (Gr base B (w.heap.size+1) w.heap.size rm V own w3 (H.out.kept (AB o.out)) (X.out.below (E.out.mono hbase)) (QQ hbase E.out.size) (by omega) ((o.out.block _ (AC F.out)).trans F.out) L.out h1 h2).mono ?_;rintro e w4 ⟨rfl,V4,own4,sv4,h4,hf4,hbb4,hr4,hn4⟩;have Z:=QA h4;have D:=QA hf4;have K:=QA hbb4;have U:=QA hr4;have T:=QA hn4;clear h4 hf4 hbb4 hr4 hn4;go_wp2_with fail;refine bodyPost_ret (v:=.tuple #[.pointer (some ⟨w.heap.size+1,0,none⟩),.int .i64 0]) (by simp[results,Tryz.results21,go_sem]) rfl ?_;have A:w.heap.size<O.heap.size:=P.out.lt;have W:w4.ownsMap Tryz.prog 40 Sto.elemR w.heap.size 0 (.map []):=ownsMap_at P.out ((D.out.block _ (ZT A o.out.size) M.out (by omega)).trans (o.out.block _ A));refine⟨w.heap.size+1,V4,own4,sv4,w.heap.size,[],rfl,by omega,Z.out,(SFr.below E.out).trans D.out,(E.out.mono hbase).trans K.out,U.out,?_,T.out,⟨W,⟨?_,by omega⟩,λp hp=>(by cases hp),λp hp=>(by cases hp)⟩,rfl,List.Pairwise.nil⟩
 ·exact (D.out.tags _ (ZT (AC F.out) o.out.size)).trans L.out
 ·exact (D.out.tags _ (ZT A o.out.size)).trans M.out
end Go.Proofs.YtjldahcckmmenaaGreatDoor
