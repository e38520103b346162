/-
  A compact, whatever the weather (plain): what is opened behind it is what was; where it went well there are no more bytes than the live ones, and few. Manifests: Decode, walked. Manifests: Load; the law's own words (ref, same); the fixed fact (awake), walked. A change in memory: 34 cells; a slice of changes; entries in memory. A store in memory: what its blocks hold, and what moves it.
-/
import Derived.Test.YtjldahcckmmenaaGreatDoorZc11
import Derived.Test.YtjldahcckmmenaaGreatDoorZc10
import Derived.Lib.SplitLaws
import Derived.Test.YtjldahcckmmenaaGreatDoorZc4
import Derived.Deep.MidRow
import Derived.Deep.WholeRow
open Go.Lib renaming hid → QA
open List renaming mem_singleton → QB, length_append → QS, mem_cons_of_mem → QT, length_map → QV, mem_of_getElem? → QZ, getElem?_eq_getElem → ZG, nil_append → ZN, map_cons → ZP, mem_cons → ZX
open Nat renaming le_refl → QM, le_trans → QQ, lt_of_lt_of_le → ZT
namespace Go.Proofs.YtjldahcckmmenaaGreatDoor
set_option maxRecDepth 100000
set_option maxHeartbeats 4000000
set_option linter.unusedSimpArgs false
set_option linter.unusedVariables false
open Go Go.RowKit
namespace Fs
theorem Inv.len {st:St} (hi:Inv st) {p:List UInt8×Int} (hp:p∈st.dir):lenAt st p.2=(fileAt st p.1).length:=by
 have A:mhas st.dir p.1=true:=mhas_mem.2 ⟨p,hp,rfl⟩;obtain⟨f,o,B,C⟩:=hi.idx A;have e:mget st.dir p.1=p.2:=Fp (λa ha b hb e=>by
  by_cases hab:a=b
  ·rw[hab]
  ·have:=hi.nd;rcases List.mem_iff_getElem.1 ha with⟨i,hi1,rfl⟩
   rcases List.mem_iff_getElem.1 hb with⟨j,hj1,rfl⟩
   rw[List.pairwise_iff_getElem]at this;rcases Nat.lt_trichotomy i j with h|h|h
   ·exact absurd e (this i j hi1 hj1 h)
   ·subst h;rfl
   ·exact absurd e.symm (this j i hj1 hi1 h)) (show (p.1,p.2)∈st.dir from hp)
 unfold Fs.idx at o;rw[e]at o;rw[B];unfold lenAt;rw[o]
theorem Hg {st:St} (hi:Inv st):used st=((st.dir.map (·.1)).map λn=>(fileAt st n).length).sum:=by
 unfold used usedL;rw[List.map_map]
 congr 1
 exact List.map_congr_left λp hp=>hi.len hp
theorem used_two {st:St} (hi:Inv st) {a b x y:List UInt8} (hne:a≠b) (ha:look st a=some x) (hb:look st b=some y) (hno:∀m,m≠a→m≠b→look st m=none):used st=x.length+y.length∧st.dir.length=2:=by
 have o:(st.dir.map (·.1)).Nodup:=by
  rw[List.Nodup,List.pairwise_map];exact hi.nd
 have B:∀m,m∈st.dir.map (·.1)↔m∈[a,b]:=λm=>by
  have C:m∈st.dir.map (·.1)↔mhas st.dir m=true:=by
   rw[mhas_mem,List.mem_map]
  rw[C,has_look];constructor
  ·intro h;by_cases h2:m=a
   ·simp[h2]
   by_cases h3:m=b
   ·simp[h3]
   rw[hno m h2 h3]at h;cases h
  ·intro h;simp at h;rcases h with rfl|rfl
   ·rw[ha];rfl
   ·rw[hb];rfl
 have A:(st.dir.map (·.1)).Perm [a,b]:=(List.perm_ext_iff_of_nodup o (by simp[hne])).2 B;refine⟨?_,?_⟩
 ·rw[Hg hi,(A.map _).sum_nat];simp[(look_some ha).2,(look_some hb).2]
 ·have:=A.length_eq
  rwa [QV]at this
end Fs
namespace Sto
section
variable {f : Fs.St} {k : Nat} {ver : Int} {S : List Seg} {M : Nat}
theorem DiskX.entGood (h:DiskX f k ver S M) {e:Op} (he:e∈ents S):GoodB [e]:=by
 have C:∀(ops:List Op) (E:Ents),e∈chgs E ops→e∈E∨e∈ops:=by
  intro ops
  induction ops with
  | nil=>intro E h;exact .inl h
  | cons o r ih =>
   intro E A;have A:e∈chgs (chg E o) r:=A;rcases ih _ A with h2|h2
   ·unfold chg at h2;split at h2
    ·exact .inl (CQ.1 h2).1
    ·rcases DG.1 h2 with rfl|h2
     ·exact .inr List.mem_cons_self
     ·exact .inl (CQ.1 h2).1
   ·exact .inr (QT _ h2)
 rcases C _ _ he with A|A
 ·cases A
 obtain⟨b,H,F⟩:=List.mem_flatten.1 A;have D:=h.bat b H;have J:=D.mass_le;have K:35+e.2.2.length≤mass b:=by
  unfold mass;exact le_sum (List.mem_map.2 ⟨e,F,rfl⟩)
 have B:=D.chk;unfold chk at B;split at B
 ·cases B
 split at B
 ·cases B
 rename_i hbad;have I:badK e=false:=by
  cases h2:badK e
  ·rfl
  ·exact absurd (List.any_eq_true.2 ⟨e,F,h2⟩) hbad
 refine⟨?_,Nat.zero_lt_one,λo ho=>by rw[QB.1 ho];exact D.key e F⟩;unfold chk;have G:mass [e]=35+e.2.2.length:=by simp[mass]
 rw[if_neg (by simp),if_neg (by simp[I]),if_neg (by rw[G];omega)]
theorem Ct (E:Ents):(A9 E).flatten=E:=by
 unfold A9
 induction E with
 | nil=>rfl
 | cons e r ih=>rw[ZP,List.flatten_cons,ih];rfl
theorem Hr (E:Ents) (j:Nat):((A9 E).take j).flatten=E.take j:=by
 have:(A9 E).take j=A9 (E.take j):=by unfold A9;rw[List.map_take]
 rw[this,Ct]
theorem I3 (E:Ents) (j:Nat):live (E.take j)≤live E:=by
 have o:live E=live (E.take j)+live (E.drop j):=by
  conv=>lhs;rw[← List.take_append_drop j E]
  unfold live;rw[List.map_append,List.sum_append]
 omega
theorem DO {E:Ents} (h:∀e∈E,e.1.length=32):(fileOf (A9 E)).length=live E:=by
 unfold fileOf EX A9
 induction E with
 | nil=>rfl
 | cons e r ih =>
  have o:Fr.flat (List.map (λops=>((1:Int),flat ops)) (List.map (λe=>[e]) (e::r)))=Fr.bytes 1 (bytes e)++Fr.flat (List.map (λops=>((1:Int),flat ops)) (List.map (λe=>[e]) r)):=by
   rw[ZP,ZP,flat_one];rfl
  rw[o,QS,ih λx hx=>h x (QT _ hx),Fr.bytes_len,bytes_len (h e List.mem_cons_self)];unfold live;rw[ZP,List.sum_cons];omega
theorem He (id:Int) {E:Ents} (hs:Srt E) (hl:Live E):ents [(id,A9 E)]=E:=by
 have o:batches [(id,A9 E)]=A9 E:=by unfold batches;simp
 unfold ents;rw[o,Ct];have:=Dg E [] (by rw[ZN];exact hs) hl
 rwa [ZN]at this
theorem DiskX.keeps (h:DiskX f k ver S M) {g:Fs.St} {K:Nat} (ha:Fs.Any f g) (hs:Fs.Sound g K) (hk:k≤K) (hf:Fs.look g Mf.final=Fs.look f Mf.final) (hl:∀s∈S,Fs.look g (Sg.nameB s.1)=Fs.look f (Sg.nameB s.1)) :
  DiskX { g with plan:=[] } K ver S M :=
 ⟨⟨ha.left h.calm.1,rfl⟩,(Fs.Like.mk rfl rfl:Fs.Like { g with plan:=[] } g).inv ha.inv,hs.power _ _ _,h.good,⟨by have:=h.small.1;omega,λs hs=>by have:=h.small.2 s hs;omega⟩,
  by rw[(Fs.Like.mk rfl rfl:Fs.Like { g with plan:=[] } g).look,hf];exact h.man,λs hs=>by rw[(Fs.Like.mk rfl rfl:Fs.Like { g with plan:=[] } g).look,hl s hs];exact h.seg s hs,h.bat,h.lv,h.len⟩
theorem DiskX.news (h:DiskX f k ver S M) {g:Fs.St} {K:Nat} (ha:Fs.Any f g) (hs:Fs.Sound g K) (hk:k+1≤K) (hK:K≤1000000) (hf:Fs.look g Mf.final=some (Mf.enc (ver+1) [act S+1])) (hl:Fs.look g (Sg.nameB (act S+1))=some (fileOf (A9 (ents S)))) (hgood:Mf.good (ver+1) [act S+1]=true) :
  DiskX { g with plan:=[] } K (ver+1) [(act S+1,A9 (ents S))] 60000:=by
 have D:Fs.Like { g with plan:=[] } g:=⟨rfl,rfl⟩
 obtain⟨I,E,G⟩:=EA h;have C:=h.small;have H:=C.2 I E;have F:live (ents S)≤50000:=by have:=h.lv (batches S).length;rwa [List.take_length]at this
 have B:∀e∈ents S,e.1.length=32:=λe A=>(h.entGood A).key e (QB.2 rfl)
 have o:batches [(act S+1,A9 (ents S))]=A9 (ents S):=by unfold batches;simp
 refine⟨⟨ha.left h.calm.1,rfl⟩,D.inv ha.inv,hs.power _ _ _,hgood,⟨by omega,λs hs=>?_⟩,by rw[D.look,hf];rfl,λs hs=>?_,λb hb=>?_,λj=>?_,⟨by omega,λs hs=>?_⟩⟩
 ·rw[QB.1 hs];show act S+1≤_;omega
 ·rw[QB.1 hs,D.look,hl]
 ·rw[o]at hb;obtain⟨e,A,rfl⟩:=List.mem_map.1 hb;exact h.entGood A
 ·rw[o,Hr];have J:chgs [] ((ents S).take j)=(ents S).take j:=by
   have:=Dg ((ents S).take j) [] (by rw[ZN];exact List.Pairwise.sublist (List.take_sublist _ _) (srt_chgs _ List.Pairwise.nil)) (λe A=>Dj _ (λe A=>by cases A) e (List.mem_of_mem_take A))
   rwa [ZN]at this
  rw[J];have:=I3 (ents S) j;omega
 ·rw[QB.1 hs];show (fileOf (A9 (ents S))).length≤60000;rw[DO B];omega
end
structure Is (f:Fs.St) (K:Nat) (S:List Seg) (g:Fs.St) (s':St) (e:Int):Prop where
 any:Fs.Any f g
 sound:Fs.Sound g K
 plan:Fs.PlanOK g
 disk:∃ver' S' M',DiskX { g with plan:=[] } K ver' S' M'∧ents S'=ents S∧(e=0→s'.segs=ids S'∧S'.length=1∧Fs.used g≤live (ents S)+40∧g.dir.length=2)
 same:s'.E=ents S∧s'.dead=false
theorem E4:∀(j u:Nat),u<10 ^ (j+1)→(Lib.decDigits u).length≤j+1
 | 0,u,h=>by
  unfold Lib.decDigits;rw[dif_pos (by omega)];exact QM _
 | j+1,u,h=>by
  unfold Lib.decDigits;split
  ·simp
  ·have:=E4 j (u / 10) (by rw[Nat.div_lt_iff_lt_mul (by omega)];rw[Nat.pow_succ]at h;exact h);rw[QS,List.length_singleton];omega
theorem IF {n:Int} (h0:1≤n) (h:n≤2147483647):(Lib.itoa n).length≤10:=by
 unfold Lib.itoa;rw[if_neg (by omega)];exact E4 9 _ (by omega)
theorem J9 {v id:Int} (h:Mf.good v [id]=true):(Mf.enc v [id]).length≤40:=by
 have B:=Mf.good_all h;have o:=B v (by simp);have A:=B id (by simp);have C:=IF o.1 o.2;have D:=IF A.1 A.2;unfold Mf.enc Mf.pay;rw[Fr.bytes_len];simp;omega
theorem CS (id:Int):∀(E:Ents) {st:Fs.St} {k:Nat},Fs.Sound st k→Fs.PlanOK st→Fs.Sound (compactGo id E st).1 k∧Fs.PlanOK (compactGo id E st).1
 | [],st,k,hs,hp=>⟨hs,hp⟩
 | e::r,st,k,hs,hp=>by
  rw[compactGo];have o:Fs.Sound (Sg.append st id 1 (bytes e)).1 k∧Fs.PlanOK (Sg.append st id 1 (bytes e)).1:=by
   unfold Sg.append;split
   ·exact⟨hs,hp⟩
   split
   ·exact⟨hs,hp⟩
   split
   ·exact⟨hs.append _ _,hp.of (Fs.plan_append _ _ _)⟩
   ·exact⟨(hs.append _ _).sync _,(hp.of (Fs.plan_append _ _ _)).of (Fs.plan_sync _ _)⟩
  split
  ·exact o
  ·exact CS id r o.1 o.2
theorem compact_law {f:Fs.St} {k:Nat} {ver:Int} {S:List Seg} {M:Nat} (h:Disk f k ver S M) (hk:k≤100000) (p:List Int) (hp:∀z∈p,z≤9223372036854775807) :
  Is f (3*k+42) S (compact { f with plan:=p } ⟨ver,ids S,ents S,false⟩).1 (compact { f with plan:=p } ⟨ver,ids S,ents S,false⟩).2.1 (compact { f with plan:=p } ⟨ver,ids S,ents S,false⟩).2.2:=by
 obtain⟨sa,X,ea⟩:=EA h.x;have aJ:=h.x.small.2 sa X;have aI:=h.x.small.1;have hg:=Mf.good_out h.x.good;have aG:1≤act S:=by
  have:=Mf.incr_pos (Int.le_refl 0) hg.2.2 sa.1 (List.mem_map.2 ⟨sa,X,rfl⟩);omega
 have hw:wrap64 (ver+1)=ver+1:=by unfold wrap64;omega
 have B:Sg.nameE (act S+1)=0:=by unfold Sg.nameE;rw[if_neg (by omega)]
 have o:Mf.good (ver+1) [act S+1]=true:=by
  have h1:=hg.1;unfold Mf.good;simp[Mf.incr];omega
 have aP:Fs.look f (Sg.nameB (act S+1))=none:=h.no _ (λe=>BK _ e.symm) λs hs e=>Disk.nodup h.x (by omega) s hs (Sg.name_inj (h.x.name hs) B e.symm)
 have D:∀s∈S,Sg.nameB s.1≠Sg.nameB (act S+1):=λs hs e=>Disk.nodup h.x (by omega) s hs (Sg.name_inj (h.x.name hs) B e)
 have ai:∀s∈S,Sg.nameB s.1≠Mf.final:=λs _ e=>BK _ e.symm
 have ag:∀s∈S,Sg.nameB s.1≠Mf.draft:=λs _ e=>Cj _ e.symm
 have A:=BK (act S+1);have ao:=Cj (act S+1);have Y:∀e∈ents S,e.1.length=32:=λe he=>(h.x.entGood he).key e (QB.2 rfl)
 have C:ents [(act S+1,A9 (ents S))]=ents S:=He _ (srt_chgs _ List.Pairwise.nil) (Dj _ (λe he=>by cases he));have H:Fs.Like { f with plan:=p } f:=⟨rfl,rfl⟩
 have I:=H.inv h.x.inv;have P:Fs.Any f { f with plan:=p }:=⟨I,λe=>e,rfl⟩
 have F:Fs.Sound { f with plan:=p } k:=h.x.sound.power _ _ _;have E:Fs.PlanOK { f with plan:=p }:=hp;have V:=H.look;obtain⟨f1,T⟩:∃g,({ f with plan:=p }:Fs.St)=g:=⟨_,rfl⟩
 rw[T]at I P F E V ⊢;clear T H;unfold compact active;simp only;rw[show (ids S).getLastD 0=act S from rfl];obtain⟨a1,a2,a3⟩:=Sg.create_w I (act S+1);have N:Fs.Sound (Sg.create f1 (act S+1)).1 (k+2)∧Fs.PlanOK (Sg.create f1 (act S+1)).1:=by
  unfold Sg.create;rw[if_neg (by rw[B];simp)];split
  ·exact⟨F.create _,E.of (Fs.plan_create _ _)⟩
  ·exact⟨(F.create _).syncDir,(E.of (Fs.plan_create _ _)).of (Fs.plan_syncDir _)⟩
 have Q:=P.trans a1;have W:=λm (hm:m≠Sg.nameB (act S+1))=>(a2 m hm).trans (V m)
 split
 ·rename_i he;exact⟨Q,N.1.mono (by omega),N.2,⟨ver,S,M,h.x.keeps Q (N.1.mono (by omega)) (by omega) (W _ A) (λs hs=>W _ (D s hs)),rfl,λe=>absurd e he⟩,rfl,rfl⟩
 rename_i he;have l3:=(a3 (by simpa using he)).2;clear he a1 a2 a3;obtain⟨f2,ab⟩:∃g,(Sg.create f1 (act S+1)).1=g:=⟨_,rfl⟩
 rw[ab]at N Q W l3 ⊢;clear ab;obtain⟨b1,b2,b3⟩:=Du (act S+1) (ents S) Q.inv;have K:=CS (act S+1) (ents S) N.1 N.2;have U:=Q.trans b1;have L:=λm (hm:m≠Sg.nameB (act S+1))=>(b2 m hm).trans (W m hm)
 split
 ·rename_i he;exact⟨U,K.1.mono (by omega),K.2,⟨ver,S,M,h.x.keeps U (K.1.mono (by omega)) (by omega) (L _ A) (λs hs=>L _ (D s hs)),rfl,λe=>absurd e he⟩,rfl,rfl⟩
 rename_i he;have m3:=b3 (by simpa using he) _ l3;rw[ZN]at m3;clear he b1 b2 b3 W l3;obtain⟨f3,R⟩:∃g,(compactGo (act S+1) (ents S) f2).1=g:=⟨_,rfl⟩
 rw[R]at K U L m3 ⊢;clear R;rw[hw];obtain⟨c1,c2,O,c4⟩:=Mf.save_w U.inv o;have G:=Bs K.1 K.2 (ver+1) [act S+1];have J:=U.trans c1;have n3:=(c2 _ (λe=>A e.symm) (λe=>ao e.symm)).trans m3;have n2:∀s∈S,Fs.look (Mf.save f3 (ver+1) [act S+1]).1 (Sg.nameB s.1)=Fs.look f (Sg.nameB s.1):=λs hs=>(c2 _ (ai s hs) (ag s hs)).trans (L _ (D s hs))
 split
 ·rename_i he;refine⟨J,G.1.mono (by omega),G.2,?_,rfl,rfl⟩;rcases O with O|O
  ·exact⟨ver,S,M,h.x.keeps J (G.1.mono (by omega)) (by omega) (O.trans (L _ A)) n2,rfl,λe=>absurd e he⟩
  ·exact⟨ver+1,_,60000,h.x.news J (G.1.mono (by omega)) (by omega) (by omega) O n3 o,C,λe=>absurd e he⟩
 rename_i he;obtain⟨n4,n5⟩:=c4 (by simpa using he);clear he c1 c2 O c4 n2 L m3;obtain⟨f4,Z⟩:∃g,(Mf.save f3 (ver+1) [act S+1]).1=g:=⟨_,rfl⟩
 rw[Z]at G J n3 n4 n5 ⊢;clear Z;obtain⟨d1,d2,d3⟩:=Fs.clean_w J.inv o;have sD:=Fs.clean_sound G.1 G.2 (ver+1) [act S+1];have A5:=J.trans d1;have ak:Fs.keepN [act S+1] Mf.final=true:=by unfold Fs.keepN;simp
 have am:Fs.keepN [act S+1] (Sg.nameB (act S+1))=true:=by
  unfold Fs.keepN;rw[(Sg.id_name B).1];simp
 have o3:=(d2 _ am).trans n3;have o4:=(d2 _ ak).trans n4;have hX:=h.x.news A5 (sD.1.mono (show _≤3*k+42 by omega)) (by omega) (by omega) o4 o3 o;refine⟨A5,sD.1.mono (by omega),sD.2,⟨ver+1,_,60000,hX,C,λe=>⟨rfl,rfl,?_⟩⟩,rfl,rfl⟩;have aa:∀m,m≠Mf.final→m≠Sg.nameB (act S+1)→Fs.look (Fs.clean f4 (ver+1) [act S+1]).1 m=none:=λm h1 h2=>by
  refine d3 e m ?_;cases hx:Fs.keepN [act S+1] m
  ·rfl
  ·rcases FP hX hx with h3|⟨s,hs,h3⟩
   ·exact absurd h3 h1
   ·rw[QB.1 hs]at h3;exact absurd h3 h2
 obtain⟨u1,u2⟩:=Fs.used_two A5.inv A o4 o3 aa;refine⟨?_,u2⟩;rw[u1,DO Y];have:=J9 o;omega
end Sto
open Go.Maps Go.WideMaps
structure Dl (B:Nat) (w:World):Prop where
 sg:Ay B w
 ml:∃m,w.cell? ⟨0,0,none⟩=some (.int .i64 m)
 low:0<B
theorem Dl.below {B:Nat} {w w':World} (h:Dl B w) (hb:Below B w w'):Dl B w':=by
 obtain⟨m,o⟩:=h.ml;exact⟨h.sg.below hb,⟨m,by rw[hb.cell h.low];exact o⟩,h.low⟩
theorem Dl.mono {B B':Nat} {w:World} (h:Dl B w) (hb:B≤B'):Dl B' w:=⟨h.sg.mono hb,h.ml,ZT h.low hb⟩
theorem Ey (a b:Value) (l m:List UInt8) (w:World) (ha:AZ w a l) (hb:AZ w b m) (hl:l.length≤1000000000) (hm:m.length≤1000000000) :
  Calls Tryz.prog 104 #[a,b] w λe w'=>e=.returned (.bool (l==m))∧w'=w:=by
 obtain⟨D,B,rfl,_⟩:=ha.form;obtain⟨C,A,rfl,_⟩:=hb.form;have E:=Gy ha;have o:=Gy hb;go_enter Tryz.func104,Tryz.ntmps104;go_wp2_with fail;go_ret;exact⟨rfl,rfl⟩
def J1 (b:List UInt8) (w:World) (e:Ending) (w':World):Prop :=
 Below w.heap.size w w'∧((∃v l sv,Mf.read b=some (v,l)∧e=.returned (.tuple #[.agg #[.int .i64 v,sv],.int .i64 0])∧Ah w' w.heap.size sv l) ∨
  (Mf.read b=none∧e=.returned (.tuple #[.agg #[.int .i64 0,.slice none 0 0],.int .i64 2])))
theorem Ih {L:List (List UInt8)} {j:Nat} {x:List UInt8} (h:L[j]?=some x):Mf.nums (L.drop j)=match Lib.atoiAll x with|.ok n=>(Mf.nums (L.drop (j+1))).map (n::·)|_=>none:=by
 obtain⟨o,A⟩:=List.getElem?_eq_some_iff.1 h;rw[List.drop_eq_getElem_cons o,A,Mf.nums];cases Lib.atoiAll x<;>rfl
theorem But.grown2 {X:Nat→Prop} {a w w':World} {r:Option Nat} (h:But X a w) (hg:w.grownBy w' r) (hr:∀k,r=some k→X k∨a.heap.size≤k):But X a w' :=
 ⟨hg.os.trans h.os,hg.tape.trans h.tape,hg.output.trans h.output,QQ h.size hg.size,λk hk hx=>by
  rw[hg.block k (ZT hk h.size) (λe=>by rcases hr k e.symm with h1|h1;exact hx h1;omega)];exact h.block k hk hx⟩
theorem Eo:∀(k:Nat) (l:List UInt8),k=l.count 10→(Lib.splitK [10] 0 k l).length=k+1
 | 0,l,_=>rfl
 | k+1,l,h=>by
  obtain⟨x,r,o,e⟩:∃x r,(10:UInt8) ∉ x∧l=x++10::r:=by
   have A:(10:UInt8)∈l:=List.count_pos_iff.1 (by omega);clear h
   induction l with
   | nil=>cases A
   | cons c l ih =>
    by_cases hc:c=10
    ·exact⟨[],l,by simp,by rw[hc];rfl⟩
    ·obtain⟨x,r,C,B⟩:=ih (by rcases ZX.1 A with h|h;exact absurd h.symm hc;exact h);exact⟨c::x,r,by simp[C];exact λh=>hc h.symm,by rw[B];rfl⟩
  subst e;rw[Lib.splitK,Mf.index_line x r o,if_neg (by simp),List.length_cons];have D:(x++10::r).drop (((x.length:Nat):Int).toNat+([10]:List UInt8).length)=r:=by
   rw[Int.toNat_natCast,← List.drop_drop,List.drop_left];rfl
  rw[D,Eo k r (by rw[List.count_append,List.count_eq_zero_of_not_mem o,List.count_cons_self]at h;omega)]
theorem Dt:∀(k:Nat) (l x:List UInt8),x∈Lib.splitK [10] 0 k l→x.length≤l.length
 | 0,l,x,h=>by
  rw[Lib.splitK]at h;simp at h;rw[h];exact QM _
 | k+1,l,x,h=>by
  rw[Lib.splitK]at h;split at h
  ·simp at h;rw[h];exact QM _
  ·rcases ZX.1 h with h|h
   ·rw[h];simp;omega
   ·have:=Dt k _ x h;simp at this;omega
theorem Bn {Q:Ending→World→Prop} {a:Act} {W:World} (g:Nat) (ver c:Int) (sv:Value) (h2:a.tmps[2]?=some (.pointer (some ⟨g,0,none⟩))) (h3:a.tmps[3]?=some (.int .i64 c)) (hd:a.defers=[])
  (hW:W.heap[g]?=some (.cells #[.int .i64 ver,sv] 47 (0,0))) (hQ:Q (.returned (.tuple #[.agg #[.int .i64 ver,sv],.int .i64 c])) W):bodyPost Tryz.prog Tryz.f71 Q .ret a W:=by
 have o:W.cell? ⟨g,0,none⟩=some (.int .i64 ver):=AA hW 0 _ rfl;have A:W.cell? ⟨g,1,none⟩=some sv:=AA hW 1 _ rfl;exact bodyPost_ret (v:=.tuple #[.agg #[.int .i64 ver,sv],.int .i64 c]) (by simp[results,Tryz.results71,go_sem,h2,h3,o,A]) hd hQ
theorem Ah.mono2 {w:World} {base base':Nat} {v:Value} {l:List Int} (h:Ah w base v l) (hb:base'≤base):Ah w base' v l:=by
 refine⟨h.1,?_⟩;rcases h.2 with h2|⟨g,cap,cur,hv,hg,hc⟩
 ·exact .inl h2
 ·exact .inr ⟨g,cap,cur,hv,QQ hb hg,hc⟩
theorem Gi (v:Value) (b:List UInt8) (w:World) (B:Nat) (hE:Dl B w) (hBw:B≤w.heap.size) (hV:AZ w v b) (hl:b.length≤1000000000) :
  Calls Tryz.prog 71 #[v] w (J1 b w):=by
 obtain⟨va,vc,rfl,_⟩:=hV.form;have aG:Below w.heap.size w (w.alloc (.cells #[.int .i64 0,.slice none 0 0] 47)):=(Below.refl _ _).alloc (QM _) _;have aN:=AJ w (.cells #[.int .i64 0,.slice none 0 0] 47);have HV:=QA hV;have HE:=QA hE;have aq:=QA aG;have a2:=QA aN;clear hV hE aG aN;go_enter Tryz.func71,Tryz.ntmps71;go_wp2_with fail;refine (EJ _ b _ (HV.out.below aq.out) hl).mono ?_;rintro e w1 ⟨hb1,hres⟩;have J:=QA (aq.out.trans (hb1.mono aq.out.size));have ar:w1.heap[w.heap.size]?=some (.cells #[.int .i64 0,.slice none 0 0] 47 (0,0)):=by rw[hb1.block _ (AC a2.out)];exact a2.out
 have H:=QA ar;have av:w.heap.size<w1.heap.size:=AC ar;clear hb1 ar;rcases hres with⟨h0,pv,rfl,ho⟩|⟨h0,rfl⟩
 ·obtain⟨pa,pn,pc,bf,b5⟩:=Ae.form3 ho;subst bf;have HO:=QA ho;have p0:w1.frozen? ⟨w.heap.size,0,none⟩=false:=AE H.out 0;have p1:w1.frozen? ⟨w.heap.size,1,none⟩=false:=AE H.out 1;have q0:w1.cell? ⟨w.heap.size,0,none⟩=some (.int .i64 0):=AA H.out 0 _ rfl;have q1:w1.cell? ⟨w.heap.size,1,none⟩=some (.slice none 0 0):=AA H.out 1 _ rfl;have am:=J.out.alloc J.out.size (.cells #[.int .i64 (Fr.kind b),.slice pa pn pc] 112);obtain⟨K,hK⟩:∃K,K=Fr.kind b:=⟨_,rfl⟩
  rw[← hK]at am ⊢;have b9:=QA am;have HK:=QA hK;have H0:=QA h0;clear ho am hK h0;by_cases hk9:K=9
  ·subst hk9;have ax:Below w1.heap.size w1 ((w1.alloc (.cells #[.int .i64 9,.slice pa pn pc] 112)).alloc (.cells #[.int .i64 0,.slice none 0 0] 47)):=((Below.refl _ _).alloc (QM _) _).alloc (by simp) _;have bu:=Gy (HO.out.byts.below ax);have e1:(w1.alloc (.cells #[.int .i64 9,.slice pa pn pc] 112)).heap.size=w1.heap.size+1:=by simp
   have al:=AJ (w1.alloc (.cells #[.int .i64 9,.slice pa pn pc] 112)) (.cells #[.int .i64 0,.slice none 0 0] 47);rw[e1]at al;have bC:=QA al;have aM:=QA ax;have aT:(Fr.pay b).length≤1000000000:=by unfold Fr.pay;simp;omega
   have az:=QA aT;clear al ax e1 p0 p1 q0 q1 aT;go_wp2_with fail;refine (Tryz.strings_TrimSuffix ⟨(Fr.pay b).toArray⟩ ⟨#[10]⟩ _ (by have:=az.out;show (Fr.pay b).toArray.size≤_;simp;omega)).mono ?_;rintro e w2 ⟨rfl,rfl⟩;obtain⟨T,hT⟩:∃T:ByteArray,T=⟨(Lib.trimSuffix (⟨(Fr.pay b).toArray⟩:ByteArray).data.toList (⟨#[10]⟩:ByteArray).data.toList).toArray⟩:=⟨_,rfl⟩
   rw[← hT];have HT:Hid (T.data.toList=Lib.trimSuffix (Fr.pay b) [10]):=by rw[hT];exact QA rfl
   have bZ:T.size≤1000000000:=by
    rw[hT];show (Lib.trimSuffix _ _).toArray.size≤_;have:=az.out;unfold Lib.trimSuffix;split<;>simp<;>omega
   clear hT bu;obtain⟨ml,a5⟩:=(HE.out.below (J.out.trans (aM.out.mono J.out.size) |>.mono hBw)).ml;go_wp2_with fail;refine (Tryz.strings_Split T ⟨#[10]⟩ ml _ (by omega) a5 (by decide)).mono ?_;rintro e w3 ⟨rfl,hw3⟩;have e2:((w1.alloc (.cells #[.int .i64 9,.slice pa pn pc] 112)).alloc (.cells #[.int .i64 0,.slice none 0 0] 47)).heap.size=w1.heap.size+2:=by simp
   rw[e2];have aJ:Hid (w3.heap.size=w1.heap.size+3):=by rw[hw3];exact QA (by simp)
   have ac:Hid (Below w1.heap.size w1 w3):=by rw[hw3];exact QA (aM.out.alloc (by simp;omega) _)
   have bh:Hid (w3.heap[w1.heap.size+1]?=some (.cells #[.int .i64 0,.slice none 0 0] 47 (0,0))):=by
    rw[hw3,Lib.alloc_old _ _ _ (by simp)];exact bC
   obtain⟨W,ay⟩:∃W,W=Lib.splitB ⟨#[10]⟩ 0 (Lib.countB T ⟨#[10]⟩) T:=⟨_,rfl⟩
   have aw:Hid (W.map (·.data.toList)=Mf.lines (Lib.trimSuffix (Fr.pay b) [10])):=by
    refine QA ?_;rw[ay,Lib.splitB_data,HT.out];unfold Mf.lines;rw[show Lib.countB T ⟨#[10]⟩=Lib.count T.data.toList [10] from rfl,HT.out,Lib.count_one]
   have a6:W.length=Lib.countB T ⟨#[10]⟩+1:=by
    have:=congrArg List.length aw.out;rw[QV]at this;rw[this];unfold Mf.lines;rw[show Lib.countB T ⟨#[10]⟩=Lib.count T.data.toList [10] from rfl,HT.out,Lib.count_one];exact Eo _ _ rfl
   obtain⟨n,hn⟩:∃n,n=Lib.countB T ⟨#[10]⟩+1:=⟨_,rfl⟩
   rw[← hn]at a6 ⊢;have bi:Hid (DX w3 (.slice (some ⟨w1.heap.size+2,0,none⟩) n n) W):=by
    refine QA ⟨some ⟨w1.heap.size+2,0,none⟩,n,by rw[a6],λi s hi=>⟨w1.heap.size+2,0,rfl,by have:=aJ.out;omega,?_⟩⟩;rw[hw3,← e2,Nat.zero_add];exact Al _ _ _ i _ (by rw[← ay];simp[hi])
   have b1:n≤1000000001:=by
    rw[hn];have:=Lib.countB_mul_le ⟨#[10]⟩ (by decide) T.size T (QM _);rw[show (⟨#[10]⟩:ByteArray).size=1 from rfl]at this;omega
   have bQ:1≤n:=by omega
   have bt:Hid (∀s∈W,s.size≤1000000000):=by
    refine QA λs hs=>?_
    have h1:s.data.toList∈W.map (·.data.toList):=List.mem_map.2 ⟨s,hs,rfl⟩;rw[aw.out]at h1;have:=Dt _ _ _ h1;have h2:(Lib.trimSuffix (Fr.pay b) [10]).length≤(Fr.pay b).length:=by unfold Lib.trimSuffix;split<;>simp
    have h3:=az.out;have h4:s.size=s.data.toList.length:=by simp
    omega
   have R:Hid (Mf.read b=(Mf.nums (W.map (·.data.toList))).bind (Mf.fit b)):=by
    unfold Mf.read;rw[if_neg (by rw[H0.out,← HK.out];simp),aw.out];exact QA rfl
   have bP:=QA (HE.out.below ((J.out.trans (ac.out.mono J.out.size)).mono hBw));have aL:Hid (w3.heap[w.heap.size]?=some (.cells #[.int .i64 0,.slice none 0 0] 47 (0,0))):=by rw[ac.out.block _ av];exact H
   clear hw3 e2 hn ay a5;go_wp2_with fail
   go_loopg [32] n (λk s32 wr=>∃(j:Nat) (A:List Int) (sv:Value),j≤n∧k=n-j∧s32=.int .i64 (j:Nat)∧A.length=j∧wr.heap[w1.heap.size+1]?=some (.cells #[.int .i64 (A.headD 0),sv] 47 (0,0))∧Ah wr w3.heap.size sv A.tail ∧
    But (λk=>k=w1.heap.size+1) w3 wr∧(Mf.nums (W.map (·.data.toList))=(Mf.nums ((W.map (·.data.toList)).drop j)).map (A++·)))
   case atStart=>exact⟨0,[],.slice none 0 0,Nat.zero_le _,rfl,rfl,rfl,bh.out,World.ownsRow_nil _ _ _ _,But.refl _ _,by rw[List.drop_zero];simp⟩
   case round =>
    obtain⟨j,A,sv,hj,hk,rfl,a3,hM,aS,P,af⟩:=hrel;have aP:=QA hk;have X:=QA a3;have HM:=QA hM;have S:=QA aS;have au:=QA P;have V:=QA af;have b6:(0:Int)≤(j:Int):=Int.natCast_nonneg _;have bY:w3.heap.size≤wr.heap.size:=P.size;have bU:=aJ.out;have a4:w1.heap.size+1<wr.heap.size:=AC hM;have M:Hid (Below w.heap.size w wr):=by
     refine QA ?_;have h1:=J.out.trans (ac.out.mono J.out.size);exact⟨P.os.trans h1.os,P.tape.trans h1.tape,P.output.trans h1.output,QQ h1.size P.size,λk hk=>by
      rw[P.block k (ZT hk h1.size) (by show k≠_;omega)];exact h1.block k hk⟩
    have ag:wr.heap[w.heap.size]?=some (.cells #[.int .i64 0,.slice none 0 0] 47 (0,0)):=by rw[P.block _ (AC aL.out) (by show w.heap.size≠_;omega)];exact aL.out
    have O:=QA ag;clear hk a3 hM aS P af ag;by_cases hjn:j<n
    ·have aW:(j:Int)<(n:Int):=by omega
     obtain⟨s,hs⟩:∃s,W[j]?=some s:=⟨_,ZG (by omega)⟩
     have bW:=bt.out s (QZ hs);have bw:wr.cell? ⟨w1.heap.size+2,j,none⟩=some (.string s):=by
      obtain⟨bb,bV,e1,e2⟩:=bi.out.at hs;simp only[Option.some.injEq,Addr.mk.injEq,and_true]at e1;obtain⟨rfl,rfl⟩:=e1;rw[Nat.zero_add]at e2;rw[World.cell?_of_block (au.out.block _ (by show w1.heap.size+2<w3.heap.size;omega) (by show w1.heap.size+2≠w1.heap.size+1;omega))];exact e2
     have HD:=QA (Ih (L:=W.map (·.data.toList)) (j:=j) (x:=s.data.toList) (by rw[List.getElem?_map,hs];rfl));clear hs;cases hat:Lib.atoiAll s.data.toList with
     | ok v =>
      rw[hat]at HD;go_wp2_with fail;refine (Tryz.strconv_Atoi_ok s (by omega) v hat wr).mono ?_;rintro e w4 ⟨rfl,hw4⟩;have C:Below wr.heap.size wr w4:=by
       rcases hw4 with rfl|⟨t,rfl⟩
       ·exact Below.refl _ _
       ·exact Joins.below_bytesWorld wr.heap.size wr 5 t (QM _)
      have Y:=QA C;have U:w4.heap[w1.heap.size+1]?=some (.cells #[.int .i64 (A.headD 0),sv] 47 (0,0)):=by rw[C.block _ a4];exact HM.out
      have bg:=C.size;have aH:Hid (Mf.nums (W.map (·.data.toList))=(Mf.nums ((W.map (·.data.toList)).drop (j+1))).map ((A++[v])++·)):=by
       rw[V.out,HD.out];show Hid (((Mf.nums _).map _).map _=_);rw[Option.map_map];refine QA (congrArg (λf=>Option.map f _) (funext λx=>?_));show A++v::x=(A++[v])++x;simp
      have Z:=QA U;clear hw4 C hat U bw;by_cases hj0':j=0
      ·subst hj0';have aa:A=[]:=List.length_eq_zero_iff.1 X.out;subst aa;have q0:w4.cell? ⟨w1.heap.size+1,0,none⟩=some (.int .i64 0):=AA Z.out 0 _ rfl;have p0:w4.frozen? ⟨w1.heap.size+1,0,none⟩=false:=AE Z.out 0;go_wp2_with fail;go_roundg (n-(0+1))
       case measure=>rw[aP.out];omega
       case rel =>
        refine⟨1,[v],sv,by omega,rfl,by simp,rfl,heap_set Z.out _,?_,?_,aH.out⟩
        ·refine AN (S.out.keep Y.out) (λg hg=>Below.heap_setCell _ _ _ _ ?_);have:=(World.ownsRow.lt S.out g hg).1;show g≠w1.heap.size+1;omega
        ·exact ((au.out.trans (But.of_below Y.out)).setCell (p:=⟨w1.heap.size+1,0,none⟩) (.inl rfl) _)
      ·obtain⟨F,G,E,ak,aX⟩:=Ah.form3 S.out;subst ak;have q1:w4.cell? ⟨w1.heap.size+1,1,none⟩=some (.slice F G E):=AA Z.out 1 _ rfl;have bR:(w4.alloc (.cells #[.int .i64 v] 3)).cell? ⟨w1.heap.size+1,1,none⟩=some (.slice F G E):=by
        rw[World.cell?_of_block (Lib.alloc_old _ _ _ (show w1.heap.size+1<w4.heap.size by omega))];exact q1
       have an:=QA (S.out.keep Y.out);have bq:Hid (Ah (w4.alloc (.cells #[.int .i64 v] 3)) w3.heap.size (.slice F G E) A.tail):=QA (an.out.keep ((Below.refl _ _).alloc (QM _) _));have be:=QA (Ah.one w4 v w4.heap.size (QM _)).nums;have bX:((j:Int)==0)=false:=by rw[beq_eq_false_iff_ne];omega
       have bK:(j==0)=false:=by rw[beq_eq_false_iff_ne];exact hj0'
       have aV:A.tail.length≤1000000001:=by have:=X.out;simp;omega
       have bm:=QA aV;have bd:∀w5,(w4.alloc (.cells #[.int .i64 v] 3)).grownBy w5 (Value.slice F G E).ownBlock→w5.heap[w1.heap.size+1]?=some (.cells #[.int .i64 (A.headD 0),.slice F G E] 47 (0,0)):=λw5 hg5=>by
        rw[hg5.block _ (by simp;omega) (λe=>by have:=(World.ownsRow.lt an.out _ e.symm).1;omega),Lib.alloc_old _ _ _ (by omega)];exact Z.out
       clear aV;go_wp2_with (first|(at_builtin;refine AX rfl _ _ rfl w3.heap.size (.slice F G E) A.tail rfl bq.out (.slice (some ⟨w4.heap.size,0,none⟩) 1 1) [v] rfl be.out (by simp) (by have:=bm.out;rw[List.length_singleton];omega) (by simp;omega) ?_;intro d' w5 hown hgrow hloc;clear hloc;obtain⟨dA,dN,dC,bv,bF⟩:=Ah.form3 hown;subst bv;have aj:=QA (bd _ hgrow);have q5:w5.cell? ⟨w1.heap.size+1,1,none⟩=some (.slice F G E):=AA aj.out 1 _ rfl;have p5:w5.frozen? ⟨w1.heap.size+1,1,none⟩=false:=AE aj.out 1;have ah:=QA hown;have bj:=QA hgrow;clear hown hgrow)|fail);go_roundg (n-(j+1))
       case measure=>rw[aP.out];omega
       case rel =>
        obtain⟨a0,r0,aa⟩:∃a0 r0,A=a0::r0:=by
         cases hacc:A with
         | nil=>have:=X.out;rw[hacc]at this;simp at this;omega
         | cons a r=>exact⟨a,r,rfl⟩
        refine⟨j+1,A++[v],.slice dA dN dC,by omega,rfl,by simp,by rw[QS,X.out];rfl,?_,?_,?_,aH.out⟩
        ·have h5:=aj.out;rw[aa]at h5 ⊢;exact heap_set h5 _
        ·have h6:(A++[v]).tail=A.tail++[v]:=by rw[aa];rfl
         rw[h6];refine AN ah.out (λg hg=>Below.heap_setCell _ _ _ _ ?_);have:=(World.ownsRow.lt ah.out g hg).1;show g≠w1.heap.size+1;omega
        ·exact (((au.out.trans (But.of_below Y.out)).alloc _).grown2 bj.out (λk hk=>.inr (World.ownsRow.lt an.out k hk).1)).setCell (p:=⟨w1.heap.size+1,1,none⟩) (.inl rfl) _
     | range =>
      rw[hat]at HD;obtain⟨tp,p,hv⟩:=(HE.out.sg.below (M.out.mono hBw)).rng;have ao:Hid (Mf.read b=none):=by rw[R.out,V.out,HD.out];exact QA rfl
      go_wp2_with fail;refine (Tryz.strconv_Atoi_range_var s (by omega) hat tp p wr hv).mono ?_;rintro e w4 ⟨N,rfl,hN,_,C⟩;clear hat hv;have o:w4.heap[w.heap.size]?=some (.cells #[.int .i64 0,.slice none 0 0] 47 (0,0)):=by rw[C.block _ (AC O.out)];exact O.out
      have I:=QA o;have p0:w4.frozen? ⟨w.heap.size,0,none⟩=false:=AE o 0;have p1:w4.frozen? ⟨w.heap.size,1,none⟩=false:=AE o 1;have z0:w4.cell? ⟨w.heap.size,0,none⟩=some (.int .i64 0):=AA o 0 _ rfl;have z1:w4.cell? ⟨w.heap.size,1,none⟩=some (.slice none 0 0):=AA o 1 _ rfl;have D:=QA (M.out.trans (C.mono M.out.size));clear o C;go_wp2_with fail;refine Bn w.heap.size 0 2 _ rfl rfl rfl (heap_set (heap_set I.out _) _) ?_;exact⟨((D.out.setCell (p:=⟨w.heap.size,0,none⟩) (QM _) _).setCell (p:=⟨w.heap.size,1,none⟩) (QM _) _),.inr ⟨ao.out,rfl⟩⟩
     | _ =>
      rw[hat]at HD;obtain⟨tp,p,hv⟩:=(HE.out.sg.below (M.out.mono hBw)).syn;have ao:Hid (Mf.read b=none):=by rw[R.out,V.out,HD.out];exact QA rfl
      go_wp2_with fail;refine (Tryz.strconv_Atoi_syntax_var s (by omega) hat tp p wr hv).mono ?_;rintro e w4 ⟨N,rfl,hN,_,C⟩;clear hat hv;have o:w4.heap[w.heap.size]?=some (.cells #[.int .i64 0,.slice none 0 0] 47 (0,0)):=by rw[C.block _ (AC O.out)];exact O.out
      have I:=QA o;have p0:w4.frozen? ⟨w.heap.size,0,none⟩=false:=AE o 0;have p1:w4.frozen? ⟨w.heap.size,1,none⟩=false:=AE o 1;have z0:w4.cell? ⟨w.heap.size,0,none⟩=some (.int .i64 0):=AA o 0 _ rfl;have z1:w4.cell? ⟨w.heap.size,1,none⟩=some (.slice none 0 0):=AA o 1 _ rfl;have D:=QA (M.out.trans (C.mono M.out.size));clear o C;go_wp2_with fail;refine Bn w.heap.size 0 2 _ rfl rfl rfl (heap_set (heap_set I.out _) _) ?_;exact⟨((D.out.setCell (p:=⟨w.heap.size,0,none⟩) (QM _) _).setCell (p:=⟨w.heap.size,1,none⟩) (QM _) _),.inr ⟨ao.out,rfl⟩⟩
    ·have aW:(n:Int)≤(j:Int):=by omega
     have bI:j=n:=by omega
     obtain⟨Q,l0,aa⟩:∃Q l0,A=Q::l0:=by
      cases hacc:A with
      | nil=>have:=X.out;rw[hacc]at this;simp at this;omega
      | cons a r=>exact⟨a,r,rfl⟩
     subst aa;have ap:Hid (Mf.read b=Mf.fit b (Q::l0)):=by
      rw[R.out,V.out,List.drop_of_length_le (by rw[QV];omega)];show Hid (((some []).map _).bind _=_);refine QA ?_;simp only[Option.map_some,Option.bind_some,List.append_nil]
     obtain⟨F,G,E,ak,aX⟩:=Ah.form3 S.out;subst ak;have q0:wr.cell? ⟨w1.heap.size+1,0,none⟩=some (.int .i64 Q):=AA HM.out 0 _ rfl;have q1:wr.cell? ⟨w1.heap.size+1,1,none⟩=some (.slice F G E):=AA HM.out 1 _ rfl;have bx:Hid (l0.length≤1000000000):=by have:=X.out;simp at this;exact QA (by omega)
     go_wp2_with fail;refine (D4 Q _ l0 wr B (HE.out.sg.below (M.out.mono hBw)) (QQ hBw M.out.size) S.out.nums bx.out).mono ?_;rintro e w4 ⟨C,hres⟩;have Y:=QA C;have U:w4.heap[w1.heap.size+1]?=some (.cells #[.int .i64 Q,.slice F G E] 47 (0,0)):=by rw[C.block _ a4];exact HM.out
     have o:w4.heap[w.heap.size]?=some (.cells #[.int .i64 0,.slice none 0 0] 47 (0,0)):=by rw[C.block _ (AC O.out)];exact O.out
     have I:=QA o;have Z:=QA U;have x0:w4.cell? ⟨w1.heap.size+1,0,none⟩=some (.int .i64 Q):=AA U 0 _ rfl;have x1:w4.cell? ⟨w1.heap.size+1,1,none⟩=some (.slice F G E):=AA U 1 _ rfl;have p0:w4.frozen? ⟨w.heap.size,0,none⟩=false:=AE o 0;have p1:w4.frozen? ⟨w.heap.size,1,none⟩=false:=AE o 1;have z0:w4.cell? ⟨w.heap.size,0,none⟩=some (.int .i64 0):=AA o 0 _ rfl;have z1:w4.cell? ⟨w.heap.size,1,none⟩=some (.slice none 0 0):=AA o 1 _ rfl;have D:=QA (M.out.trans (C.mono M.out.size));have bg:=C.size;clear C U o q0 q1;rcases hres with⟨hg,bb,rfl,hob⟩|⟨hg,rfl⟩
     ·obtain⟨ba,bn,bc,bp,b3⟩:=Ae.form3 hob;subst bp;have bl:=QA hob;have br:(Mf.enc Q l0).length≤1000000000:=by have:=Mf.enc_len hg;omega
      have bB:=QA (HV.out.below D.out);have HG:=QA hg;clear hob hg;go_wp2_with fail;refine (Ey _ _ (Mf.enc Q l0) b w4 bl.out.byts bB.out br hl).mono ?_;rintro e w5 ⟨rfl,hw5⟩;subst hw5;by_cases heq:Mf.enc Q l0=b
      ·have ad:Hid (Mf.read b=some (Q,l0)):=by rw[ap.out,Mf.fit,if_pos ⟨HG.out,heq⟩];exact QA rfl
       have hb:(Mf.enc Q l0==b)=true:=by rw[beq_iff_eq];exact heq
       rw[hb];clear heq hb;go_wp2_with fail;refine Bn w.heap.size Q 0 (.slice F G E) rfl rfl rfl (heap_set (heap_set I.out _) _) ?_;refine⟨((D.out.setCell (p:=⟨w.heap.size,0,none⟩) (QM _) _).setCell (p:=⟨w.heap.size,1,none⟩) (QM _) _),.inl ⟨Q,l0,_,ad.out,rfl,?_⟩⟩;have ho:=S.out.keep Y.out;refine AN (ho.mono2 (by omega)) (λg hg=>?_);have:=(World.ownsRow.lt ho g hg).1;rw[Below.heap_setCell _ _ _ _ (by show g≠w.heap.size;omega),Below.heap_setCell _ _ _ _ (by show g≠w.heap.size;omega)]
      ·have ad:Hid (Mf.read b=none):=by rw[ap.out,Mf.fit,if_neg (λh=>heq h.2)];exact QA rfl
       have hb:(Mf.enc Q l0==b)=false:=by rw[beq_eq_false_iff_ne];exact heq
       rw[hb];clear heq hb;go_wp2_with fail;refine Bn w.heap.size 0 2 _ rfl rfl rfl (heap_set (heap_set I.out _) _) ?_;exact⟨((D.out.setCell (p:=⟨w.heap.size,0,none⟩) (QM _) _).setCell (p:=⟨w.heap.size,1,none⟩) (QM _) _),.inr ⟨ad.out,rfl⟩⟩
     ·have ad:Hid (Mf.read b=none):=by rw[ap.out,Mf.fit,if_neg (λh=>by rw[hg]at h;cases h.1)];exact QA rfl
      clear hg;go_wp2_with fail;refine Bn w.heap.size 0 2 _ rfl rfl rfl (heap_set (heap_set I.out _) _) ?_;exact⟨((D.out.setCell (p:=⟨w.heap.size,0,none⟩) (QM _) _).setCell (p:=⟨w.heap.size,1,none⟩) (QM _) _),.inr ⟨ad.out,rfl⟩⟩
  ·have R:Hid (Mf.read b=none):=by unfold Mf.read;rw[if_pos (.inr (by rw[← HK.out];exact hk9))];exact QA rfl
   have ht:(K != 9)=true:=by rw[bne_iff_ne];exact hk9
   clear hk9;go_wp2_with fail;refine Bn w.heap.size 0 2 _ rfl rfl rfl (by rw[Lib.alloc_old _ _ _ (by simp[World.setCell];exact av)];exact heap_set (heap_set H.out _) _) ?_;exact⟨((J.out.setCell (p:=⟨w.heap.size,0,none⟩) (QM _) _).setCell (p:=⟨w.heap.size,1,none⟩) (QM _) _).alloc (by simp[World.setCell];omega) _,.inr ⟨R.out,rfl⟩⟩
 ·have R:Hid (Mf.read b=none):=by unfold Mf.read;rw[if_pos (.inl h0)];exact QA rfl
  have p0:w1.frozen? ⟨w.heap.size,0,none⟩=false:=AE H.out 0;have p1:w1.frozen? ⟨w.heap.size,1,none⟩=false:=AE H.out 1;have q0:w1.cell? ⟨w.heap.size,0,none⟩=some (.int .i64 0):=AA H.out 0 _ rfl;have q1:w1.cell? ⟨w.heap.size,1,none⟩=some (.slice none 0 0):=AA H.out 1 _ rfl;have ht:(Fr.decE b != 0)=true:=by rw[bne_iff_ne];exact h0
  go_wp2_with fail;refine Bn w.heap.size 0 2 _ rfl rfl rfl (by rw[Lib.alloc_old _ _ _ (by simp[World.setCell];exact av)];exact heap_set (heap_set H.out _) _) ?_;exact⟨((J.out.setCell (p:=⟨w.heap.size,0,none⟩) (QM _) _).setCell (p:=⟨w.heap.size,1,none⟩) (QM _) _).alloc (by simp[World.setCell];omega) _,.inr ⟨R.out,rfl⟩⟩
open Go.Maps Go.WideMaps
theorem Dk {Q:Ending→World→Prop} {a:Act} {W:World} (g:Nat) (ver c:Int) (sv:Value) (h2:a.tmps[2]?=some (.pointer (some ⟨g,0,none⟩))) (h3:a.tmps[3]?=some (.int .i64 c)) (hd:a.defers=[])
  (hW:W.heap[g]?=some (.cells #[.int .i64 ver,sv] 47 (0,0))) (hQ:Q (.returned (.tuple #[.agg #[.int .i64 ver,sv],.int .i64 c])) W):bodyPost Tryz.prog Tryz.f45 Q .ret a W:=by
 have o:W.cell? ⟨g,0,none⟩=some (.int .i64 ver):=AA hW 0 _ rfl;have A:W.cell? ⟨g,1,none⟩=some sv:=AA hW 1 _ rfl;exact bodyPost_ret (v:=.tuple #[.agg #[.int .i64 ver,sv],.int .i64 c]) (by simp[results,Tryz.results45,go_sem,h2,h3,o,A]) hd hQ
def Iv (st:Fs.St) (w:World) (e:Ending) (w':World):Prop :=
 Below w.heap.size w w'∧∃sv,e=.returned (.tuple #[.agg #[.int .i64 (Mf.load st).1.1,sv],.int .i64 (Mf.load st).2])∧Ah w' w.heap.size sv (Mf.load st).1.2
theorem I9 (base B:Nat) (st:Fs.St) (V:FsV) (own:Nat→Tag) (w:World) (h:Aa base B st V own w) (hE:Dl base w) (hbase:base≤w.heap.size) (k:Nat) (hS:Fs.Sound st k) :
  Calls Tryz.prog 45 #[.pointer (some ⟨B,0,none⟩)] w (Iv st w):=by
 have J:Below w.heap.size w (w.alloc (.cells #[.int .i64 0,.slice none 0 0] 47)):=(Below.refl _ _).alloc (QM _) _;have U:=AJ w (.cells #[.int .i64 0,.slice none 0 0] 47);have H:=QA h;have HE:=QA hE;have G:=QA J;have P:=QA U;have C:=hS.full;have I:=QA C;clear h hE J U C;go_enter Tryz.func45,Tryz.ntmps45;go_wp2_with fail;refine (EN base B st V own Hb _ (H.out.kept (AB G.out)) (by decide) (λf hf=>by have:=(I.out f hf).2;omega)).mono ?_;rintro e w1 ⟨hb1,hres⟩;have D:=QA (G.out.trans (hb1.mono G.out.size));have o:w1.heap[w.heap.size]?=some (.cells #[.int .i64 0,.slice none 0 0] 47 (0,0)):=by rw[hb1.block _ (AC P.out)];exact P.out
 have O:=QA o;have R:w.heap.size<w1.heap.size:=AC o;have aa:w.heap.size+1≤w1.heap.size:=R;rw[show Hb.data.toList=Mf.final from rfl]at hres;clear hb1;rcases hres with⟨h0,f,v2,hf,rfl,ho2⟩|⟨h0,rfl⟩
 ·have Q:Fs.fileAt st Mf.final=f.1:=by unfold Fs.fileAt;rw[hf]
  have aj:=(I.out f (QZ hf)).2;obtain⟨da,dn,dc,X,ai⟩:=Ae.form3 ho2;subst X;have Z:=QA ho2;have F:Hid (Mf.load st=match Mf.read f.1 with|some m=>(m,0)|none=>((0,[]),2)):=by
   unfold Mf.load;rw[if_neg (by simp[h0]),Q];exact QA rfl
  clear hf h0 ho2 Q o;go_wp2_with fail;refine (Gi _ f.1 w1 base (HE.out.below (D.out.mono hbase)) (QQ hbase D.out.size) Z.out.byts (by omega)).mono ?_;rintro e w2 ⟨hb2,hres⟩;have T:=QA (D.out.trans (hb2.mono D.out.size));have A:w2.heap[w.heap.size]?=some (.cells #[.int .i64 0,.slice none 0 0] 47 (0,0)):=by rw[hb2.block _ R];exact O.out
  have K:=QA A;have p0:w2.frozen? ⟨w.heap.size,0,none⟩=false:=AE A 0;have p1:w2.frozen? ⟨w.heap.size,1,none⟩=false:=AE A 1;have z0:w2.cell? ⟨w.heap.size,0,none⟩=some (.int .i64 0):=AA A 0 _ rfl;have z1:w2.cell? ⟨w.heap.size,1,none⟩=some (.slice none 0 0):=AA A 1 _ rfl;clear hb2 A;rcases hres with⟨v,l,sv,hrd,rfl,hoi⟩|⟨hrd,rfl⟩
  ·rw[hrd]at F;obtain⟨M,N,W,Y,ab⟩:=Ah.form3 hoi;subst Y;have S:=QA hoi;clear hoi hrd;go_wp2_with fail;refine Dk w.heap.size v 0 (.slice M N W) rfl rfl rfl (heap_set (heap_set K.out _) _) ?_;refine⟨((T.out.setCell (p:=⟨w.heap.size,0,none⟩) (QM _) _).setCell (p:=⟨w.heap.size,1,none⟩) (QM _) _),.slice M N W,by rw[F.out],?_⟩;rw[F.out];refine AN (S.out.mono2 (by omega)) (λg hg=>?_);have:=(World.ownsRow.lt S.out g hg).1;rw[Below.heap_setCell _ _ _ _ (by show g≠w.heap.size;omega),Below.heap_setCell _ _ _ _ (by show g≠w.heap.size;omega)]
  ·rw[hrd]at F;clear hrd;go_wp2_with fail;refine Dk w.heap.size 0 2 _ rfl rfl rfl (heap_set (heap_set K.out _) _) ?_;exact⟨((T.out.setCell (p:=⟨w.heap.size,0,none⟩) (QM _) _).setCell (p:=⟨w.heap.size,1,none⟩) (QM _) _),.slice none 0 0,by rw[F.out],by rw[F.out];exact World.ownsRow_nil _ _ _ _⟩
 ·have F:Hid (Mf.load st=((0,[]),Fs.openE st Mf.final)):=by unfold Mf.load;rw[if_pos h0];exact QA rfl
  have p0:w1.frozen? ⟨w.heap.size,0,none⟩=false:=AE o 0;have p1:w1.frozen? ⟨w.heap.size,1,none⟩=false:=AE o 1;have z0:w1.cell? ⟨w.heap.size,0,none⟩=some (.int .i64 0):=AA o 0 _ rfl;have z1:w1.cell? ⟨w.heap.size,1,none⟩=some (.slice none 0 0):=AA o 1 _ rfl;obtain⟨E,L⟩:∃E,E=Fs.openE st Mf.final:=⟨_,rfl⟩
  rw[← L]at h0 F ⊢;have ac:(E != 0)=true:=by rw[bne_iff_ne];exact h0
  clear o h0 L;go_wp2_with fail;refine Dk w.heap.size 0 E _ rfl rfl rfl (heap_set (heap_set O.out _) _) ?_;exact⟨((D.out.setCell (p:=⟨w.heap.size,0,none⟩) (QM _) _).setCell (p:=⟨w.heap.size,1,none⟩) (QM _) _),.slice none 0 0,by rw[F.out],by rw[F.out];exact World.ownsRow_nil _ _ _ _⟩
open Go.Maps Go.WideMaps
def AG (o:Sto.Op) (v:Value):List Value:=AH o.1++[.int .i64 o.2.1,v]
theorem AP (k:List UInt8):(AH k).length=k.length:=by simp[AH]
theorem Ac {o:Sto.Op} (h:o.1.length=32) (v:Value):(AG o v).length=34:=by simp[AG,AP,h]
theorem Bl {o:Sto.Op} (h:o.1.length=32) (v:Value):(AG o v)[32]?=some (.int .i64 o.2.1):=by
 unfold AG;rw[List.getElem?_append_right (by rw[AP];omega),AP,h];rfl
theorem Ao {o:Sto.Op} (h:o.1.length=32) (v:Value):(AG o v)[33]?=some v:=by
 unfold AG;rw[List.getElem?_append_right (by rw[AP];omega),AP,h];rfl
theorem GE {o:Sto.Op} (v:Value) {j:Nat} {u:Value} (hj:(AH o.1)[j]?=some u):(AG o v)[j]?=some u:=by
 unfold AG;rw[List.getElem?_append_left (List.getElem?_eq_some_iff.1 hj).1];exact hj
theorem BZ {o:Sto.Op} {v:Value} (hv:v.oneCell'=true):∀u∈AG o v,u.oneCell'=true:=λu hu=>by
 unfold AG AH at hu;rcases List.mem_append.1 hu with h|h
 ·obtain⟨c,_,rfl⟩:=List.mem_map.1 h;rfl
 ·simp only[ZX,List.not_mem_nil,or_false]at h;rcases h with rfl|rfl
  ·rfl
  ·exact hv
def Aj (w:World) (g:Nat) (o:Sto.Op) (v:Value):Prop:=w.heap[g]?=some (.cells (AG o v).toArray 43 (0,0))
theorem Aj.cell {w:World} {g:Nat} {o:Sto.Op} {v:Value} (h:Aj w g o v) {j:Nat} {u:Value} (hj:(AG o v)[j]?=some u):w.cell? ⟨g,j,none⟩=some u:=AA h j u (by simpa using hj)
theorem Aj.key {w:World} {g:Nat} {o:Sto.Op} {v:Value} (h:Aj w g o v):w.rangeAt g 0 (AH o.1):=λj u hj=>by
 rw[Nat.zero_add];exact h.cell (GE v hj)
theorem Aj.new (w:World) (o:Sto.Op) (v:Value):Aj (w.alloc (.cells (AG o v).toArray 43)) w.heap.size o v:=AJ w _
theorem Aj.keep {w w':World} {g:Nat} {o:Sto.Op} {v:Value} (h:Aj w g o v) (hb:Below w.heap.size w w'):Aj w' g o v:=(hb.block g (AC h)).trans h
theorem Af {ops:Array Oper} {rest:List Oper} {op:Oper} {a:Act} {w:World} {Q:Exit→Act→World→Prop} (hgd:op.guard=none) (x:Operand) (ho:op.op=.load 40 x) (g off:Nat) (k:List UInt8) (hk:k.length=32)
  (hx:a.eval x=.pointer (some ⟨g,off,none⟩)) (hW:w.rangeAt g off (AH k)) (h:wpList Tryz.prog ops Q rest (a.put op.dst (Ag k)) w):wpList Tryz.prog ops Q (op::rest) a w :=
 wpList_load_mid hgd _ x ho g off hx (AH k) _ hW Tryz.underlying40 rfl (by rw[AP,hk];kernel_rfl) h
theorem AO {ops:Array Oper} {rest:List Oper} {op:Oper} {a:Act} {w:World} {Q:Exit→Act→World→Prop} (hgd:op.guard=none) (x:Operand) (ho:op.op=.load 43 x) (g off:Nat) (o:Sto.Op) (v:Value) (hk:o.1.length=32)
  (hx:a.eval x=.pointer (some ⟨g,off,none⟩)) (hW:w.rangeAt g off (AG o v)) (h:wpList Tryz.prog ops Q rest (a.put op.dst (.agg (AG o v).toArray)) w):wpList Tryz.prog ops Q (op::rest) a w :=
 wpList_load_mid hgd _ x ho g off hx (AG o v) _ hW Tryz.underlying43 rfl (by rw[Ac hk];kernel_rfl) h
theorem AV {ops:Array Oper} {rest:List Oper} {op:Oper} {a:Act} {w:World} {Q:Exit→Act→World→Prop} (hgd:op.guard=none) (x y:Operand) (ho:op.op=.store 43 x y) (c:Array Value) (hc:c.size=34) (o:Sto.Op) (v:Value) (hk:o.1.length=32) (hv:v.oneCell'=true)
  (hx:a.eval x=.pointer (some ⟨w.heap.size,0,none⟩)) (hy:a.eval y=.agg (AG o v).toArray) (h:wpList Tryz.prog ops Q rest (a.put op.dst undef) (w.alloc (.cells (AG o v).toArray 43))) :
  wpList Tryz.prog ops Q (op::rest) a (w.alloc (.cells c 43)) :=
 wpList_plain hgd λ_ hK=>by
  unfold Oper.wp execOp;simp only[ho,hx,hy,Instr.storeAt,Instr.sureAddr,Sem.run_bind,Sem.run_pure,Result.andThen_ok,run_storeVar_new (P:=Tryz.prog) w 43 c (AG o v).toArray (by rw[List.size_toArray,Ac hk];kernel_rfl) (by rw[hc,List.size_toArray,Ac hk]) (all_oneCell_toArray (BZ hv))];exact hK _ _ h
def LN (own:Nat→Tag) (v:Value) (l:List UInt8):Prop:=∀g o n c,v=.slice (some ⟨g,o,none⟩) n c→l≠[]→own g=.other
def EW (w:World) (v:Value) (l:Sto.ME):Prop :=
 ∃a cap,v=.slice a l.length cap∧∀(i:Nat) p,l[i]?=some p→p.1.1.length=32∧AZ w p.2 p.1.2.2∧∃g off,a=some ⟨g,off,none⟩∧g<w.heap.size∧w.rangeAt g (off+i*34) (AG p.1 p.2)
theorem EW.form {w:World} {v:Value} {l:Sto.ME} (h:EW w v l):∃a cap,v=.slice a l.length cap:=by
 obtain⟨a,cap,o,_⟩:=h;exact⟨a,cap,o⟩
theorem EW.at {w:World} {a:Option Addr} {n cap:Nat} {l:Sto.ME} (h:EW w (.slice a n cap) l) {i:Nat} {p:Sto.Op×Value} (hi:l[i]?=some p) :
  p.1.1.length=32∧AZ w p.2 p.1.2.2∧∃g off,a=some ⟨g,off,none⟩∧g<w.heap.size∧w.rangeAt g (off+i*34) (AG p.1 p.2):=by
 obtain⟨C,o,A,B⟩:=h;simp only[Value.slice.injEq]at A;rw[A.1];exact B i p hi
theorem AQ {w w':World} {g off:Nat} {cs:List Value} (h:w.rangeAt g off cs) (he:w'.heap[g]?=w.heap[g]?):w'.rangeAt g off cs:=λj v hj=>by
 rw[World.cell?_of_block he];exact h j v hj
theorem EW.below {w w':World} {v:Value} {l:Sto.ME} (h:EW w v l) (hb:Below w.heap.size w w'):EW w' v l:=by
 obtain⟨a,cap,F,C⟩:=h;refine⟨a,cap,F,λi p hi=>?_⟩;obtain⟨D,G,g,o,B,A,E⟩:=C i p hi;exact⟨D,G.below hb,g,o,B,ZT A hb.size,AQ E (hb.block g A)⟩
structure LM (w:World) (own:Nat→Tag) (mb:Nat) (l:Sto.ME):Prop where
 map:w.ownsMap Tryz.prog 40 Sto.elemR mb l.length (Sto.datum l)
 mine:own mb=.other
 key:∀p∈l,p.1.1.length=32
 val:∀p∈l,AZ w p.2 p.1.2.2
 free:∀p∈l,LN own p.2 p.1.2.2
open Go.Maps Go.WideMaps
def MV (F F':Nat→Prop) (w w':World):Prop:=w.heap.size≤w'.heap.size∧∀b,b<w.heap.size→F b→F' b∧w'.heap[b]?=w.heap[b]?
theorem MV.refl (F:Nat→Prop) (w:World):MV F F w w:=⟨QM _,λ_ _ h=>⟨h,rfl⟩⟩
theorem MV.trans {F G H:Nat→Prop} {a b c:World} (h:MV F G a b) (g:MV G H b c):MV F H a c :=
 ⟨QQ h.1 g.1,λk hk hf=>by
  obtain⟨o,C⟩:=h.2 k hk hf;obtain⟨A,B⟩:=g.2 k (ZT hk h.1) o;exact⟨A,B.trans C⟩⟩
theorem MV.below {F:Nat→Prop} {w w':World} (h:Below w.heap.size w w'):MV F F w w':=⟨h.size,λb hb hf=>⟨hf,h.block b hb⟩⟩
structure SFr (r:Nat) (own own':Nat→Tag) (w w':World):Prop where
 os:w'.os=w.os
 tape:w'.tape=w.tape
 output:w'.output=w.output
 size:w.heap.size≤w'.heap.size
 tags:∀b,b<w.heap.size→own' b=own b
 block:∀b,b<w.heap.size→own b=.other→b≠r→w'.heap[b]?=w.heap[b]?
theorem SFr.refl (r:Nat) (own:Nat→Tag) (w:World):SFr r own own w w:=⟨rfl,rfl,rfl,QM _,λ_ _=>rfl,λ_ _ _ _=>rfl⟩
theorem SFr.trans {r:Nat} {o1 o2 o3:Nat→Tag} {a b c:World} (h:SFr r o1 o2 a b) (g:SFr r o2 o3 b c):SFr r o1 o3 a c :=
 ⟨g.os.trans h.os,g.tape.trans h.tape,g.output.trans h.output,QQ h.size g.size,λk hk=>(g.tags k (ZT hk h.size)).trans (h.tags k hk),
  λk hk ho hr=>(g.block k (ZT hk h.size) ((h.tags k hk).trans ho) hr).trans (h.block k hk ho hr)⟩
theorem SFr.below {r:Nat} {own:Nat→Tag} {w w':World} (h:Below w.heap.size w w'):SFr r own own w w':=by
 have o:=AB (own:=own) (T:=λ_=>False) h;exact⟨o.os,o.tape,o.output,h.size,λ_ _=>rfl,λb hb _ _=>h.block b hb⟩
theorem SFr.kept {r:Nat} {own own':Nat→Tag} {w w':World} (ho:∀b,b<w.heap.size→own' b=own b) (hk:Kept own (·≠.other) w w'):SFr r own own' w w' :=
 ⟨hk.os,hk.tape,hk.output,hk.size,ho,λb hb h1 _=>hk.block b hb (by rw[h1];simp)⟩
theorem SFr.set {r:Nat} {own:Nat→Tag} (w:World) (i:Nat) (v:Value):SFr r own own w (w.setCell ⟨r,i,none⟩ v):=by
 have o:=(Kept.refl (λ_=>Tag.root) (λ_=>True) w).setCell ⟨r,i,none⟩ trivial v;exact⟨o.os,o.tape,o.output,o.size,λ_ _=>rfl,λb hb _ hne=>Below.heap_setCell _ _ _ b hne⟩
def SF (r:Nat) (own:Nat→Tag):Nat→Prop:=λb=>own b=.other∧b≠r
theorem SFr.mv {r:Nat} {own own':Nat→Tag} {w w':World} (h:SFr r own own' w w'):MV (SF r own) (SF r own') w w' :=
 ⟨h.size,λb hb hf=>⟨⟨(h.tags b hb).trans hf.1,hf.2⟩,h.block b hb hf.1 hf.2⟩⟩
def BA (w:World) (F:Nat→Prop) (v:Value) (l:List UInt8):Prop:=AZ w v l∧∀p n c,v=.slice (some p) n c→0<l.length→F p.block
theorem BA.mv {F F':Nat→Prop} {w w':World} {v:Value} {l:List UInt8} (h:BA w F v l) (m:MV F F' w w'):BA w' F' v l:=by
 obtain⟨⟨a,cap,rfl,H,J,E⟩,I⟩:=h;have G:∀b o,a=some ⟨b,o,none⟩→b<w.heap.size→0<l.length→F' b∧w'.heap[b]?=w.heap[b]?:=λb o e hlt A=>m.2 b hlt (I ⟨b,o,none⟩ _ _ (by rw[e]) A)
 refine⟨⟨a,cap,rfl,H,J,λi x hi=>?_⟩,λp n c e A=>?_⟩
 ·obtain⟨b,o,e,B,K⟩:=E i x hi;have A:0<l.length:=by have:=(List.getElem?_eq_some_iff.1 hi).1;omega
  exact⟨b,o,e,ZT B m.1,by rw[World.cell?_of_block (G b o e B A).2];exact K⟩
 ·obtain⟨b,o,C,B,_⟩:=E 0 l[0] (ZG A);have D:a=some p:=by simp only[Value.slice.injEq]at e;exact e.1
  have:=(G b o C B A).1;rw[C]at D;rw[← Option.some.inj D];exact this
theorem BA.any {w:World} {v:Value} {l:List UInt8} (h:AZ w v l):BA w (λ_=>True) v l:=⟨h,λ_ _ _ _ _=>trivial⟩
theorem AZ.one {w:World} {v:Value} {l:List UInt8} (h:AZ w v l):v.oneCell'=true:=by
 obtain⟨a,c,rfl,_⟩:=h.form;rfl
def BQ (w:World) (F:Nat→Prop) (v:Value) (l:Sto.ME):Prop :=
 ∃a cap,v=.slice a l.length cap∧l.length≤cap∧∀(i:Nat) p,l[i]?=some p→p.1.1.length=32∧BA w F p.2 p.1.2.2∧∃g off,a=some ⟨g,off,none⟩∧g<w.heap.size∧F g∧w.rangeAt g (off+i*34) (AG p.1 p.2)
theorem BQ.form {w:World} {F:Nat→Prop} {v:Value} {l:Sto.ME} (h:BQ w F v l):∃a cap,v=.slice a l.length cap:=by
 obtain⟨a,cap,o,_⟩:=h;exact⟨a,cap,o⟩
theorem BQ.at {w:World} {F:Nat→Prop} {a:Option Addr} {n cap:Nat} {l:Sto.ME} (h:BQ w F (.slice a n cap) l) {i:Nat} {p:Sto.Op×Value} (hi:l[i]?=some p) :
  p.1.1.length=32∧BA w F p.2 p.1.2.2∧∃g off,a=some ⟨g,off,none⟩∧g<w.heap.size∧w.rangeAt g (off+i*34) (AG p.1 p.2):=by
 obtain⟨I,o,A,_,C⟩:=h;simp only[Value.slice.injEq]at A;rw[A.1];obtain⟨D,H,g,off,B,G,_,E⟩:=C i p hi;exact⟨D,H,g,off,B,G,E⟩
theorem BQ.mv {F F':Nat→Prop} {w w':World} {v:Value} {l:Sto.ME} (h:BQ w F v l) (m:MV F F' w w'):BQ w' F' v l:=by
 obtain⟨a,cap,K,G,C⟩:=h;refine⟨a,cap,K,G,λi p hi=>?_⟩;obtain⟨D,L,g,o,B,A,E,H⟩:=C i p hi;obtain⟨I,J⟩:=m.2 g A E;exact⟨D,L.mv m,g,o,B,ZT A m.1,I,AQ H J⟩
structure CU (w:World) (F:Nat→Prop) (mb:Nat) (l:Sto.ME):Prop where
 map:w.ownsMap Tryz.prog 40 Sto.elemR mb l.length (Sto.datum l)
 mine:F mb
 key:∀p∈l,p.1.1.length=32
 val:∀p∈l,BA w F p.2 p.1.2.2
theorem ownsMap_at {w w':World} {b n:Nat} {D:DataW Value} {k:TypeId} {R:Value→Option (DataW Value×List MemPlace)} (h:w.ownsMap Tryz.prog k R b n D) (he:w'.heap[b]?=w.heap[b]?):w'.ownsMap Tryz.prog k R b n D:=by
 obtain⟨B,o,A,r⟩:=h;exact⟨B,o,by rw[he];exact A,r⟩
theorem CU.mv {F F':Nat→Prop} {w w':World} {mb:Nat} {l:Sto.ME} (h:CU w F mb l) (m:MV F F' w w'):CU w' F' mb l:=by
 obtain⟨o,A⟩:=m.2 mb h.map.lt h.mine;exact⟨ownsMap_at h.map A,o,h.key,λp hp=>(h.val p hp).mv m⟩
def Ca (w:World) (F:Nat→Prop) (v:Value) (l:List Int):Prop:=D9 w v l∧∀p n c,v=.slice (some p) n c→0<l.length→F p.block
def AF (ver:Int) (sv:Value) (mb B:Nat) (dead:Bool):Array Value:=#[.int .i64 ver,sv,.map (some mb),.pointer (some ⟨B,0,none⟩),.bool dead]
structure A6 (w:World) (own:Nat→Tag) (B r:Nat) (s:Sto.St) (mb:Nat) (sv:Value) (l:Sto.ME):Prop where
 root:w.heap[r]?=some (.cells (AF s.ver sv mb B s.dead) 51 (0,0))
 mine:own r=.other
 segs:Ca w (SF r own) sv s.segs
 ents:CU w (SF r own) mb l
 is:l.map (·.1)=s.E
 srt:Sto.Srt s.E
end Go.Proofs.YtjldahcckmmenaaGreatDoor
