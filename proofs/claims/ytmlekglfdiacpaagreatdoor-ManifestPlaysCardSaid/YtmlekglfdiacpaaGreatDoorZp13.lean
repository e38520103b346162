/-
  Saving a manifest, in any weather, and a crash behind it (plain). The file system: List, by the library's contracts on sorted keys. The file system: List, walked. Manifests: numbers in memory; Check, walked. Manifests: Encode, walked.
-/
import Derived.Test.YtmlekglfdiacpaaGreatDoorZp12
import Derived.Test.YtmlekglfdiacpaaGreatDoorZp11
import Derived.Shelf.SlIter.Nil
import Derived.Shelf.SortM.Plain
import Derived.Shelf.SortM.SortNone
import Derived.Sort.KeysCollected
open Go.Lib renaming hid → QA
open List renaming mem_cons_self → QP, mem_cons_of_mem → QT, length_map → QV, mem_of_getElem? → QZ, getElem?_eq_getElem → ZG, mem_append → ZI
open Nat renaming le_refl → QM
namespace Go.Proofs.YtmlekglfdiacpaaGreatDoor
set_option maxRecDepth 100000
set_option maxHeartbeats 4000000
set_option linter.unusedSimpArgs false
set_option linter.unusedVariables false
open Go Go.RowKit
namespace Mf
open Fs
structure Round (st:St) (cur:Option (List UInt8)):Prop where
 sound:Sound st 2
 sure:st.sure=st.dir
 chg:st.changes=[]
 full:∀f∈st.files,f.2=f.1.length
 two:∀p∈st.dir,p.1=final∨p.1=draft
 cur:(mhas st.dir final=false→cur=none)∧(mhas st.dir final=true→∃b,st.files[(mget st.dir final).toNat]?=some (b,b.length)∧cur=some b)
def Sw (st:St) (cur:Option (List UInt8)) (new:List UInt8) (sure:Prop):Prop :=
 ∀j,(∀p∈crashDir st j,p.1=final∨p.1=draft)∧(mhas (crashDir st j) final=false→cur=none∧¬sure) ∧
  (mhas (crashDir st j) final=true→∃b,st.files[(mget (crashDir st j) final).toNat]?=some (b,b.length)∧((cur=some b∧¬sure)∨new=b))
structure Mid (s0 st:St):Prop where
 files:∃ex,st.files=s0.files++ex
 sure:st.sure=s0.dir
 chg:∀l∈st.changes,∀p∈l,p.1=draft
theorem Df {n:List UInt8}:∀(l d:Names),(∀p∈l,p.1≠n)→mhas (doAll d l) n=mhas d n∧mget (doAll d l) n=mget d n
 | [],d,_=>⟨rfl,rfl⟩
 | c::l,d,h=>by
  have o:=h c QP;obtain⟨B,A⟩:=Df l (doOne d c) (λp hp=>h p (QT _ hp));have e:doAll d (c::l)=doAll (doOne d c) l:=rfl;rw[e,B,A];unfold doOne;split
  ·rw[mhas_mdel,DN _ _ _ (λx=>o x.symm),decide_eq_false (λx=>o x.symm)];exact⟨rfl,rfl⟩
  ·rw[BC,BD,if_neg o,decide_eq_false o];exact⟨rfl,rfl⟩
theorem EQ {S:List UInt8→Prop}:∀(l d:Names),(∀p∈l,S p.1)→(∀p∈d,S p.1)→∀p∈doAll d l,S p.1
 | [],d,_,h=>h
 | c::l,d,hl,h=>by
  refine EQ l (doOne d c) (λp hp=>hl p (QT _ hp)) ?_;unfold doOne;split
  ·exact λp hp=>h p (Av.1 hp).1
  ·intro p hp;rcases mput_mem.1 hp with rfl|⟨hp,_⟩
   ·exact hl c QP
   ·exact h p hp
theorem Ck {n:List UInt8}:∀(L:List Names) (d:Names),(∀l∈L,∀p∈l,p.1≠n)→mhas (L.foldl doAll d) n=mhas d n∧mget (L.foldl doAll d) n=mget d n
 | [],d,_=>⟨rfl,rfl⟩
 | l::L,d,h=>by
  obtain⟨A,o⟩:=Ck L (doAll d l) (λx hx=>h x (QT _ hx));obtain⟨B,C⟩:=Df l d (h l QP);exact⟨A.trans B,o.trans C⟩
theorem Dp {S:List UInt8→Prop}:∀(L:List Names) (d:Names),(∀l∈L,∀p∈l,S p.1)→(∀p∈d,S p.1)→∀p∈L.foldl doAll d,S p.1
 | [],d,_,h=>h
 | l::L,d,hL,h=>Dp L (doAll d l) (λx hx=>hL x (QT _ hx)) (EQ l d (hL l QP) h)
theorem Dc {s0:St} {cur:Option (List UInt8)} (hr:Round s0 cur) {st:St} (hf:∃ex,st.files=s0.files++ex) (hh:mhas s0.dir final=true):∃b,st.files[(mget s0.dir final).toNat]?=some (b,b.length)∧cur=some b:=by
 obtain⟨b,o,A⟩:=hr.cur.2 hh;obtain⟨ex,e⟩:=hf;refine⟨b,?_,A⟩;rw[e,List.getElem?_append_left (List.getElem?_eq_some_iff.1 o).1,o]
theorem Mid.sw {s0 st:St} {cur:Option (List UInt8)} (hr:Round s0 cur) (h:Mid s0 st) (new:List UInt8):Sw st cur new False:=by
 intro j;have o:∀l∈st.changes.take j,∀p∈l,p.1≠final:=λl hl p hp e=>by
  have:=h.chg l (List.mem_of_mem_take hl) p hp;rw[e]at this;exact absurd this (by decide)
 unfold crashDir;rw[h.sure];obtain⟨A,B⟩:=Ck (st.changes.take j) s0.dir o;rw[A,B];refine⟨Dp (S:=λn=>n=final∨n=draft) _ _ (λl hl p hp=>.inr (h.chg l (List.mem_of_mem_take hl) p hp)) hr.two,λhh=>⟨hr.cur.1 hh,id⟩,λhh=>?_⟩;obtain⟨b,C,D⟩:=Dc hr h.files hh;exact⟨b,C,.inl ⟨D,id⟩⟩
theorem Mid.alike {s0 st st':St} (h:Mid s0 st) (e1:st'.files=st.files) (e2:st'.sure=st.sure) (e3:st'.changes=st.changes):Mid s0 st' :=
 ⟨by rw[e1];exact h.files,by rw[e2];exact h.sure,by rw[e3];exact h.chg⟩
theorem Mid.step {s0 st:St} (h:Mid s0 st):Mid s0 (Fs.step st).1:=by
 obtain⟨s,l,p,e⟩:=An st;exact h.alike (by rw[e]) (by rw[e]) (by rw[e])
theorem Mid.set {s0 st:St} (h:Mid s0 st) {i:Nat} (hi:s0.files.length≤i) (f:List UInt8×Nat):Mid s0 { st with files:=st.files.set i f }:=by
 obtain⟨o,e⟩:=h.files;refine⟨⟨o.set (i-s0.files.length) f,?_⟩,h.sure,h.chg⟩;show st.files.set i f=_;rw[e,List.set_append_right _ _ hi]
theorem Mid.turned {s0 st:St} (h:Mid s0 st) {l:Names} (hl:∀p∈l,p.1=draft):Mid s0 (turned st l):=by
 refine⟨h.files,h.sure,λx hx=>?_⟩;rcases ZI.1 hx with hx|hx
 ·exact h.chg x hx
 ·simp at hx;subst hx;exact hl
theorem Mid.clear {s0 st:St} (h:Mid s0 st):Mid s0 (clear st).1:=by
 unfold Mf.clear;split
 ·unfold Fs.remove;split
  ·exact h
  split
  ·exact h.step
  ·exact h.step.turned (λp hp=>by simp at hp;rw[hp])
 ·exact h
structure Aw (s0 st:St) (N:Nat):Prop extends Mid s0 st where
 new:s0.files.length≤N∧N<st.files.length
 there:mhas st.dir draft=true∧mget st.dir draft=(N:Int)
 two:∀p∈st.dir,p.1=final∨p.1=draft
theorem F7 {s0 st:St} (h:Mid s0 st) (h2:∀p∈st.dir,p.1=final∨p.1=draft):Mid s0 (create st draft).1∧((create st draft).2=0→∃N,Aw s0 (create st draft).1 N):=by
 unfold Fs.create;split
 ·exact⟨h,λe=>by cases e⟩
 split
 ·exact⟨h,λe=>by cases e⟩
 split
 ·exact⟨h,λe=>by cases e⟩
 split
 ·rename_i hx;exact⟨h.step,λe=>absurd e hx⟩
 ·obtain⟨s,l,p,e⟩:=An st;rw[e];obtain⟨A,o⟩:=h.files;have hM:Mid s0 { st with steps:=s,left:=l,plan:=p,files:=st.files++[([],0)],dir:=mput st.dir draft st.files.length,changes:=st.changes++[[(draft,(st.files.length:Int))]] }:=by
   refine⟨⟨A++[([],0)],by show st.files++_=_;rw[o,List.append_assoc]⟩,h.sure,λx hx=>?_⟩;rcases ZI.1 hx with hx|hx
   ·exact h.chg x hx
   ·simp at hx;subst hx;intro p hp;simp at hp;rw[hp]
  refine⟨hM,λ_=>⟨st.files.length,hM,?_,?_,?_⟩⟩
  ·show s0.files.length≤st.files.length∧st.files.length<(st.files++[_]).length;rw[o];simp
  ·show mhas (mput st.dir draft st.files.length) draft=true∧mget (mput st.dir draft st.files.length) draft=_;rw[BC,BD,if_pos rfl,decide_eq_true rfl];exact⟨rfl,rfl⟩
  ·intro p hp;rcases mput_mem.1 hp with rfl|⟨hp,_⟩
   ·exact .inr rfl
   ·exact h2 p hp
theorem Aw.idx {s0 st:St} {N:Nat} (h:Aw s0 st N):Fs.idx st draft=N:=by unfold Fs.idx;rw[h.there.2];rfl
theorem Aw.open {s0 st:St} {N:Nat} (h:Aw s0 st N):openE st draft=0:=openE_of BB h.there.1
theorem Aw.step {s0 st:St} {N:Nat} (h:Aw s0 st N):Aw s0 (Fs.step st).1 N:=by
 have o:=h.toMid.step;obtain⟨s,l,p,e⟩:=An st;refine⟨o,?_,?_,?_⟩<;>rw[e]
 ·exact h.new
 ·exact h.there
 ·exact h.two
theorem Aw.set {s0 st:St} {N:Nat} (h:Aw s0 st N) (f:List UInt8×Nat):Aw s0 { st with files:=st.files.set N f } N :=
 ⟨h.toMid.set h.new.1 f,⟨h.new.1,by show N<(st.files.set N f).length;rw[List.length_set];exact h.new.2⟩,h.there,h.two⟩
theorem Aw.grow {s0 st:St} {N:Nat} (h:Aw s0 st N) (b:List UInt8):∃f,st.files[N]?=some f∧grow st.files N b=st.files.set N (f.1++b,f.2):=by
 obtain⟨f,o⟩:∃f,st.files[N]?=some f:=⟨_,ZG h.new.2⟩
 exact⟨f,o,by unfold Fs.grow;rw[o]⟩
theorem GI {s0 st:St} {N:Nat} (h:Aw s0 st N) (b:List UInt8):Aw s0 (append st draft b).1 N∧((append st draft b).2=0→(append st draft b).1.files[N]?.map (·.1)=(st.files[N]?).map λf=>f.1++b):=by
 unfold Fs.append;rw[h.open,h.idx,if_neg (by simp)];split
 ·exact⟨h,λe=>by cases e⟩
 obtain⟨s,l,p,e⟩:=An st;split
 ·rename_i hx;refine⟨?_,λe=>absurd ?_ hx⟩
  ·split
   ·have o:=h.step;obtain⟨f,_,hg⟩:=h.grow (b.take (min (min ((Fs.step st).2.1-3) b.length) (max 0 (st.room-used st))).toNat);rw[hg];have:=o.set (f.1++b.take (min (min ((Fs.step st).2.1-3) b.length) (max 0 (st.room-used st))).toNat,f.2);rw[step_files]at this;exact this
   ·exact h.step
  ·split at e<;>exact e
 split
 ·exact⟨h.step,λe=>by cases e⟩
 ·obtain⟨f,A,hg⟩:=h.grow b;rw[hg];have:=h.step.set (f.1++b,f.2);rw[step_files]at this;refine⟨this,λ_=>?_⟩;show ((st.files.set N (f.1++b,f.2))[N]?).map _=_;rw[List.getElem?_set_self h.new.2,A];rfl
theorem IM {s0 st:St} {N:Nat} (h:Aw s0 st N):Aw s0 (sync st draft).1 N∧((sync st draft).2=0→(sync st draft).1.files[N]?=(st.files[N]?).map λf=>(f.1,f.1.length)):=by
 unfold Fs.sync;rw[h.open,h.idx,if_neg (by simp)];split
 ·rename_i hx;exact⟨h.step,λe=>absurd e hx⟩
 ·obtain⟨f,o⟩:∃f,st.files[N]?=some f:=⟨_,ZG h.new.2⟩
  have hg:flush st.files N=st.files.set N (f.1,f.1.length):=by unfold flush;rw[o]
  rw[hg];have:=h.step.set (f.1,f.1.length);rw[step_files]at this;refine⟨this,λ_=>?_⟩;show (st.files.set N (f.1,f.1.length))[N]?=_;rw[List.getElem?_set_self h.new.2,o];rfl
structure Ff (s0 st:St) (new:List UInt8) (N:Nat):Prop where
 files:∃ex,st.files=s0.files++ex
 file:st.files[N]?=some (new,new.length)
 sure:st.sure=s0.dir
 chg:∃ch,st.changes=ch++[[(draft,-1),(final,(N:Int))]]∧∀l∈ch,∀p∈l,p.1=draft
 dir:mhas st.dir final=true∧mget st.dir final=(N:Int)
 two:∀p∈st.dir,p.1=final∨p.1=draft
theorem F1 {s0 st:St} {N:Nat} (h:Aw s0 st N) {new:List UInt8} (hf:st.files[N]?=some (new,new.length)) :
  ((rename st draft final).2≠0→Mid s0 (rename st draft final).1)∧((rename st draft final).2=0→Ff s0 (rename st draft final).1 new N):=by
 unfold Fs.rename;rw[BB,Bo,h.there.1,if_neg (by simp),if_neg (by simp)];split
 ·rename_i hx;exact⟨λ_=>h.toMid.step,λe=>absurd e hx⟩
 ·refine⟨λe=>absurd rfl e,λ_=>?_⟩;obtain⟨s,l,p,e⟩:=An st;rw[e];have o:doAll st.dir [(draft,-1),(final,mget st.dir draft)]=mput (mdel st.dir draft) final N:=by
   show doOne (doOne st.dir (draft,-1)) (final,mget st.dir draft)=_;have A:doOne st.dir (draft,-1)=mdel st.dir draft:=by unfold doOne;exact if_pos (show (-1:Int)<0 by decide)
   rw[A,h.there.2];unfold doOne;rw[if_neg (show ¬((N:Nat):Int)<0 by omega)]
  refine⟨h.files,hf,h.sure,⟨st.changes,?_,h.chg⟩,?_,?_⟩
  ·show st.changes++[[(draft,-1),(final,mget st.dir draft)]]=_;rw[h.there.2]
  ·show mhas (doAll st.dir _) final=true∧mget (doAll st.dir _) final=_;rw[o,BC,BD,if_pos rfl,decide_eq_true rfl];exact⟨rfl,rfl⟩
  ·show ∀p∈doAll st.dir _,_;rw[o];intro p hp;rcases mput_mem.1 hp with rfl|⟨hp,_⟩
   ·exact .inl rfl
   ·exact h.two p (Av.1 hp).1
theorem Ff.sw {s0 st:St} {cur:Option (List UInt8)} (hr:Round s0 cur) {new:List UInt8} {N:Nat} (h:Ff s0 st new N):Sw st cur new False:=by
 intro j;obtain⟨A,C,B⟩:=h.chg;have E:∀l∈A,∀p∈l,p.1≠final:=λl hl p hp e=>by
  have:=B l hl p hp;rw[e]at this;exact absurd this (by decide)
 unfold crashDir;rw[h.sure,C];by_cases hj:j≤A.length
 ·rw[List.take_append_of_le_length hj];obtain⟨F,G⟩:=Ck (A.take j) s0.dir (λl hl=>E l (List.mem_of_mem_take hl));rw[F,G];refine⟨Dp (S:=λn=>n=final∨n=draft) _ _ (λl hl p hp=>.inr (B l (List.mem_of_mem_take hl) p hp)) hr.two,λhh=>⟨hr.cur.1 hh,id⟩,λhh=>?_⟩;obtain⟨b,I,J⟩:=Dc hr h.files hh;exact⟨b,I,.inl ⟨J,id⟩⟩
 ·rw[List.take_of_length_le (by simp;omega),List.foldl_append];have o:=Dp (S:=λn=>n=final∨n=draft) A s0.dir (λl hl p hp=>.inr (B l hl p hp)) hr.two
  generalize List.foldl doAll s0.dir A=D at o
  have e:List.foldl doAll D [[(draft,-1),(final,(N:Int))]]=mput (mdel D draft) final N:=by
   show doOne (doOne D (draft,-1)) (final,(N:Int))=_;have H:doOne D (draft,-1)=mdel D draft:=by unfold doOne;exact if_pos (show (-1:Int)<0 by decide)
   rw[H];unfold doOne;rw[if_neg (show ¬((N:Nat):Int)<0 by omega)]
  rw[e,BC,BD,if_pos rfl,decide_eq_true rfl];refine⟨λp hp=>?_,λhh=>(by cases hh),λ_=>⟨new,h.file,.inr rfl⟩⟩;rcases mput_mem.1 hp with rfl|⟨hp,_⟩
  ·exact .inl rfl
  ·exact o p (Av.1 hp).1
theorem D1 {s0 st:St} {cur:Option (List UInt8)} (hr:Round s0 cur) {new:List UInt8} {N:Nat} (h:Ff s0 st new N):Sw (syncDir st).1 cur new ((syncDir st).2=0):=by
 unfold Fs.syncDir;obtain⟨s,l,p,e⟩:=An st;split
 ·rename_i hx;have A:Ff s0 (Fs.step st).1 new N:=by
   rw[e];exact⟨h.files,h.file,h.sure,h.chg,h.dir,h.two⟩
  have:=A.sw hr;intro j;obtain⟨a,b,c⟩:=this j;exact⟨a,λhh=>⟨(b hh).1,hx⟩,λhh=>by obtain⟨b,B,C⟩:=c hh;exact⟨b,B,C.imp (λq=>⟨q.1,hx⟩) id⟩⟩
 ·intro j;rw[e];have o:crashDir { st with steps:=s,left:=l,plan:=p,sure:=st.dir,changes:=[] } j=st.dir:=by unfold crashDir;simp
  rw[o,h.dir.1,h.dir.2];exact⟨h.two,λhh=>(by cases hh),λ_=>⟨new,h.file,.inr rfl⟩⟩
theorem Sw.fail {st:St} {cur:Option (List UInt8)} {new:List UInt8} {A:Prop} (h:Sw st cur new False) (hA:¬A):Sw st cur new A:=λj=>by
 obtain⟨a,b,c⟩:=h j;exact⟨a,λhh=>⟨(b hh).1,hA⟩,λhh=>by obtain⟨b,o,B⟩:=c hh;exact⟨b,o,B.imp (λq=>⟨q.1,hA⟩) id⟩⟩
theorem save_sw {s0:St} {cur:Option (List UInt8)} (hr:Round s0 cur) {v:Int} {l:List Int} (hg:good v l=true) (s1:St) (hs1:∃a b c,s1={ s0 with steps:=a,left:=b,plan:=c }) :
  Sw (save s1 v l).1 cur (enc v l) ((save s1 v l).2=0):=by
 have U:save s1 v l=Fs.first (steps (enc v l)) s1:=by unfold save;rw[if_neg (by rw[hg];simp)]
 rw[U];clear U;have G:Mid s0 s1:=by
  obtain⟨a,b,c,e⟩:=hs1;rw[e];exact⟨⟨[],by simp⟩,hr.sure,λl hl=>by rw[hr.chg]at hl;cases hl⟩
 have B:∀p∈s1.dir,p.1=final∨p.1=draft:=by
  obtain⟨a,b,c,e⟩:=hs1;rw[e];exact hr.two
 unfold steps;rw[first];by_cases h1:(clear s1).2=0;rotate_left
 ·rw[if_pos h1];exact (G.clear.sw hr _).fail h1
 rw[if_neg (by simp[h1])];have I:=G.clear;have H:∀p∈(clear s1).1.dir,p.1=final∨p.1=draft:=by
  unfold clear;split
  ·unfold Fs.remove;split
   ·exact B
   obtain⟨a,b,c,e⟩:=An s1;split
   ·rw[e];exact B
   ·rw[e];show ∀p∈doAll s1.dir [(draft,-1)],_;exact EQ (S:=λn=>n=final∨n=draft) _ _ (λp hp=>by simp at hp;rw[hp];exact .inr rfl) B
  ·exact B
 generalize (clear s1).1=s2 at *
 rw[first];obtain⟨O,K⟩:=F7 I H;by_cases h2:(create s2 draft).2=0;rotate_left
 ·rw[if_pos h2];exact (O.sw hr _).fail h2
 rw[if_neg (by simp[h2])];have E:(create s2 draft).1.files[s2.files.length]?=some ([],0)∧Aw s0 (create s2 draft).1 s2.files.length:=by
  obtain⟨N,R⟩:=K h2;have T:(create s2 draft).1.files=s2.files++[([],0)]∧(create s2 draft).1.dir=mput s2.dir draft s2.files.length:=by
   unfold Fs.create at h2 ⊢;split at h2
   ·cases h2
   split at h2
   ·cases h2
   split at h2
   ·cases h2
   split at h2
   ·rename_i hx;exact absurd h2 hx
   rename_i a b c d;rw[if_neg a,if_neg b,if_neg c,if_neg d];exact⟨rfl,rfl⟩
  have P:N=s2.files.length:=by
   have:=R.there.2;rw[T.2,BD,if_pos rfl]at this;omega
  subst P;exact⟨by rw[T.1];simp,R⟩
 generalize hs3:(create s2 draft).1=s3 at *
 generalize s2.files.length=N at *
 obtain⟨M,Q⟩:=E;rw[first];obtain⟨D,o⟩:=GI Q (enc v l);by_cases h3:(append s3 draft (enc v l)).2=0;rotate_left
 ·rw[if_pos h3];exact (D.toMid.sw hr _).fail h3
 rw[if_neg (by simp[h3])];have o:=o h3
 generalize (append s3 draft (enc v l)).1=s4 at *
 rw[M]at o;rw[first];obtain⟨F,C⟩:=IM D;by_cases h4:(sync s4 draft).2=0;rotate_left
 ·rw[if_pos h4];exact (F.toMid.sw hr _).fail h4
 rw[if_neg (by simp[h4])];have C:=C h4
 generalize (sync s4 draft).1=s5 at *
 have L:s5.files[N]?=some (enc v l,(enc v l).length):=by
  rw[C];cases hx:s4.files[N]? with
  | none=>rw[hx]at o;cases o
  | some f =>
   rw[hx]at o;have e:f.1=enc v l:=by simpa using o
   show some (f.1,f.1.length)=_;rw[e]
 rw[first];obtain⟨J,A⟩:=F1 F L;by_cases h5:(rename s5 draft final).2=0;rotate_left
 ·rw[if_pos h5];exact ((J h5).sw hr _).fail h5
 rw[if_neg (by simp[h5])];have A:=A h5
 generalize (rename s5 draft final).1=s6 at *
 rw[first];by_cases h6:(syncDir s6).2=0;rotate_left
 ·rw[if_pos h6];exact D1 hr A
 rw[if_neg (by simp[h6]),first];have:=D1 hr A;rw[h6]at this;exact this
theorem crash_round {st:St} {k:Nat} (hs:Sound st k) {cur:Option (List UInt8)} {new:List UInt8} {A:Prop} (h:Sw st cur new A) (dirs:Int) (tails:List Int) :
  ∃cur',Round (crash st dirs tails) cur'∧((cur'=cur∧¬A)∨cur'=some new):=by
 obtain⟨M,Y,V⟩:=h (dirsOf st dirs);obtain⟨R,P,_⟩:=hs.crashDir (dirsOf st dirs);obtain⟨c1,T,c3,c4,J,Z,K⟩:=Du (st:=st) (dirs:=dirs) (tails:=tails) P (λp hp=>(R p hp).2);have H:=hs.crash dirs tails;have B:(crashDir st (dirsOf st dirs)).length≤2:=by
  have I:∀(D:Names),(∀p∈D,p.1=final∨p.1=draft)→D.Pairwise (λp q=>p.1≠q.1)→D.length≤2:=by
   intro D hD hP
   match D,hP with
   | [],_=>simp
   | [a],_=>simp
   | [a,b],_=>simp
   | a::b::c::r,hP =>
    exfalso;simp only[List.pairwise_cons,List.mem_cons]at hP;have F:=hP.1 b (.inl rfl);have L:=hP.1 c (.inr (.inl rfl));have h3:=hP.2.1 c (.inl rfl);rcases hD a (by simp) with E|E<;>rcases hD b (by simp) with o|o<;>rcases hD c (by simp) with e3|e3<;>simp_all
  exact I _ M P
 have G:∀n,mhas (crash st dirs tails).dir n=mhas (crashDir st (dirsOf st dirs)) n:=λn=>by
  have:=K n;cases F:mhas (crash st dirs tails).dir n<;>cases L:mhas (crashDir st (dirsOf st dirs)) n<;>rw[L]at this<;>unfold Fs.look at this<;>rw[F]at this<;>simp at this<;>rfl
 have C:∀p∈(crash st dirs tails).dir,p.1=final∨p.1=draft:=λp hp=>by
  have F:=G p.1;rw[mhas_mem.2 ⟨p,hp,rfl⟩]at F;obtain⟨q,X,e⟩:=mhas_mem.1 F.symm;rw[← e];exact M q X
 generalize hD:crashDir st (dirsOf st dirs)=D at *
 cases hh:mhas D final
 ·obtain⟨E,o⟩:=Y hh;exact⟨none,⟨H.mono B,rfl,rfl,J,C,λ_=>rfl,λx=>(by rw[G,hh]at x;cases x)⟩,.inl ⟨E.symm,o⟩⟩
 ·obtain⟨b,E,o⟩:=V hh;have Q:=K final;rw[hh,if_pos rfl]at Q;obtain⟨O,U⟩:=look_some Q;obtain⟨f,N,S,_⟩:=T.idx O;have hb:cutOf st D tails final=b:=by
   unfold cutOf;rw[E];exact IO rfl _
  have W:f=(b,b.length):=by
   have:=J f (QZ N);have e:f.1=b:=by rw[← S,U,hb]
   exact Prod.ext e (by rw[this,e])
  refine⟨some b,⟨H.mono B,rfl,rfl,J,C,λx=>(by rw[O]at x;cases x),λ_=>⟨b,?_,rfl⟩⟩,?_⟩
  ·rw[← W];exact N
  ·rcases o with⟨o,e3⟩|o
   ·exact .inl ⟨o.symm,e3⟩
   ·exact .inr (by rw[o])
theorem Round.new {room:Int} (h:0≤room∧room≤1048576):Round (Fs.new room) none :=
 ⟨Sound.new h 2,rfl,rfl,λf hf=>by (cases hf),λp hp=>by (cases hp),λ_=>rfl,λx=>(by cases x)⟩
theorem Round.load {st:St} {cur:Option (List UInt8)} (h:Round st cur):(cur=none→load st=((0,[]),3))∧(∀v l,good v l=true→cur=some (enc v l)→load st=((v,l),0)):=by
 constructor
 ·intro hc;have o:mhas st.dir final=false:=by
   cases hx:mhas st.dir final
   ·rfl
   ·obtain⟨b,_,e⟩:=h.cur.2 hx;rw[hc]at e;cases e
  exact load_none (by unfold Fs.look;rw[o];rfl)
 ·intro v l hg hc;have o:mhas st.dir final=true:=by
   cases hx:mhas st.dir final
   ·have:=h.cur.1 hx;rw[hc]at this;cases this
   ·rfl
  obtain⟨b,B,A⟩:=h.cur.2 o;refine load_look hg ?_;have hb:b=enc v l:=by rw[hc]at A;exact (Option.some.inj A).symm
  unfold Fs.look;rw[if_pos o];unfold fileAt Fs.idx;rw[B,hb]
end Mf
open Go.Maps Go.Sort Go.Shelf
def E2:Go.Shelf.Ren:=⟨fun|7=>74|10=>93|n=>n,fun|23=>66|26=>9|3=>3|28=>131|0=>0|27=>130|33=>117|4=>4|n=>n,λn=>n⟩
theorem ED:Go.Proofs.SlLaysZ.n7 Tryz.prog E2:={
 mixed:=by kernel_rfl
 f7:=⟨Tryz.f74.name,by decide,Tryz.func74.trans (congrArg some (by kernel_rfl))⟩
 f10:=⟨Tryz.f93.name,by decide,Tryz.func93.trans (congrArg some (by kernel_rfl))⟩
 t0:=Tryz.underlying0
 a0:=Tryz.isAgg0
 z0:=Tryz.sizeOf0
 v0:=Tryz.zeroValue0
 t4:=Tryz.underlying4
 a4:=Tryz.isAgg4
 z4:=Tryz.sizeOf4
 v4:=Tryz.zeroValue4
 t23:=Tryz.underlying66
 a23:=Tryz.isAgg66
 z23:=Tryz.sizeOf66
 v23:=Tryz.zeroValue66
 t26:=Tryz.underlying9
 a26:=Tryz.isAgg9
 z26:=Tryz.sizeOf9
 v26:=Tryz.zeroValue9
 t27:=Tryz.underlying130
 a27:=Tryz.isAgg130
 z27:=Tryz.sizeOf130
 v27:=Tryz.zeroValue130
 t28:=Tryz.underlying131
 a28:=Tryz.isAgg131
 z28:=Tryz.sizeOf131
 v28:=Tryz.zeroValue131
 t33:=Tryz.underlying117
 a33:=Tryz.isAgg117
 z33:=Tryz.sizeOf117
 v33:=Tryz.zeroValue117 }
def Dd:Go.Shelf.Ren:=⟨fun|6=>73|8=>91|9=>92|11=>107|13=>109|12=>108|23=>132|24=>133|14=>123|15=>124|16=>125|17=>126|18=>127|19=>128|20=>129|21=>130|22=>131|25=>145|26=>146|27=>147|28=>148|29=>149|30=>150|31=>162|n=>n,fun|26=>9|28=>131|24=>86|0=>0|3=>3|37=>175|48=>164|50=>198|4=>4|40=>191|39=>190|45=>91|5=>5|9=>9|51=>212|55=>216|57=>228|58=>121|33=>117|n=>n,λn=>n⟩
theorem E7:Go.Proofs.SlLaysZ.n6 Tryz.prog Dd:={
 mixed:=by kernel_rfl
 f6:=⟨Tryz.f73.name,by decide,Tryz.func73.trans (congrArg some (by kernel_rfl))⟩
 f8:=⟨Tryz.f91.name,by decide,Tryz.func91.trans (congrArg some (by kernel_rfl))⟩
 f11:=⟨Tryz.f107.name,by decide,Tryz.func107.trans (congrArg some (by kernel_rfl))⟩
 t0:=Tryz.underlying0
 a0:=Tryz.isAgg0
 z0:=Tryz.sizeOf0
 v0:=Tryz.zeroValue0
 t24:=Tryz.underlying86
 a24:=Tryz.isAgg86
 z24:=Tryz.sizeOf86
 v24:=Tryz.zeroValue86
 t26:=Tryz.underlying9
 a26:=Tryz.isAgg9
 z26:=Tryz.sizeOf9
 v26:=Tryz.zeroValue9
 t28:=Tryz.underlying131
 a28:=Tryz.isAgg131
 z28:=Tryz.sizeOf131
 v28:=Tryz.zeroValue131
 i26:=by kernel_rfl }
def Gw:Go.Shelf.Ren:=⟨fun|6=>92|8=>109|9=>108|19=>132|20=>133|21=>123|22=>124|23=>125|24=>126|25=>127|26=>128|27=>129|28=>130|29=>131|36=>145|31=>146|32=>147|37=>148|38=>149|39=>150|41=>162|n=>n,fun|27=>86|29=>9|3=>3|32=>175|26=>86|0=>0|44=>164|46=>198|4=>4|36=>191|35=>190|41=>91|5=>5|9=>9|53=>212|57=>216|63=>228|64=>121|n=>n,λn=>n⟩
theorem Dz:Go.Proofs.SlLaysM.n6 Tryz.prog Gw:={
 mixed:=by kernel_rfl
 f6:=⟨Tryz.f92.name,by decide,Tryz.func92.trans (congrArg some (by kernel_rfl))⟩
 f8:=Tryz.func109.trans (congrArg some (by kernel_rfl))
 f9:=⟨Tryz.f108.name,by decide,Tryz.func108.trans (congrArg some (by kernel_rfl))⟩
 f19:=Tryz.func132.trans (congrArg some (by kernel_rfl))
 f20:=Tryz.func133.trans (congrArg some (by kernel_rfl))
 f21:=⟨Tryz.f123.name,by decide,Tryz.func123.trans (congrArg some (by kernel_rfl))⟩
 f22:=⟨Tryz.f124.name,by decide,Tryz.func124.trans (congrArg some (by kernel_rfl))⟩
 f23:=⟨Tryz.f125.name,by decide,Tryz.func125.trans (congrArg some (by kernel_rfl))⟩
 f24:=⟨Tryz.f126.name,by decide,Tryz.func126.trans (congrArg some (by kernel_rfl))⟩
 f25:=⟨Tryz.f127.name,by decide,Tryz.func127.trans (congrArg some (by kernel_rfl))⟩
 f26:=⟨Tryz.f128.name,by decide,Tryz.func128.trans (congrArg some (by kernel_rfl))⟩
 f27:=⟨Tryz.f129.name,by decide,Tryz.func129.trans (congrArg some (by kernel_rfl))⟩
 f28:=⟨Tryz.f130.name,by decide,Tryz.func130.trans (congrArg some (by kernel_rfl))⟩
 f29:=⟨Tryz.f131.name,by decide,Tryz.func131.trans (congrArg some (by kernel_rfl))⟩
 f31:=Tryz.func146.trans (congrArg some (by kernel_rfl))
 f32:=Tryz.func147.trans (congrArg some (by kernel_rfl))
 f36:=⟨Tryz.f145.name,by decide,Tryz.func145.trans (congrArg some (by kernel_rfl))⟩
 f37:=⟨Tryz.f148.name,by decide,Tryz.func148.trans (congrArg some (by kernel_rfl))⟩
 f38:=⟨Tryz.f149.name,by decide,Tryz.func149.trans (congrArg some (by kernel_rfl))⟩
 f39:=⟨Tryz.f150.name,by decide,Tryz.func150.trans (congrArg some (by kernel_rfl))⟩
 f41:=⟨Tryz.f162.name,by decide,Tryz.func162.trans (congrArg some (by kernel_rfl))⟩
 t0:=Tryz.underlying0
 a0:=Tryz.isAgg0
 z0:=Tryz.sizeOf0
 v0:=Tryz.zeroValue0
 t3:=Tryz.underlying3
 a3:=Tryz.isAgg3
 z3:=Tryz.sizeOf3
 v3:=Tryz.zeroValue3
 t4:=Tryz.underlying4
 a4:=Tryz.isAgg4
 z4:=Tryz.sizeOf4
 v4:=Tryz.zeroValue4
 t5:=Tryz.underlying5
 a5:=Tryz.isAgg5
 z5:=Tryz.sizeOf5
 v5:=Tryz.zeroValue5
 t9:=Tryz.underlying9
 a9:=Tryz.isAgg9
 z9:=Tryz.sizeOf9
 v9:=Tryz.zeroValue9
 t26:=Tryz.underlying86
 a26:=Tryz.isAgg86
 z26:=Tryz.sizeOf86
 v26:=Tryz.zeroValue86
 t27:=Tryz.underlying86
 a27:=Tryz.isAgg86
 z27:=Tryz.sizeOf86
 v27:=Tryz.zeroValue86
 t29:=Tryz.underlying9
 a29:=Tryz.isAgg9
 z29:=Tryz.sizeOf9
 v29:=Tryz.zeroValue9
 t32:=Tryz.underlying175
 a32:=Tryz.isAgg175
 z32:=Tryz.sizeOf175
 v32:=Tryz.zeroValue175
 t35:=Tryz.underlying190
 a35:=Tryz.isAgg190
 z35:=Tryz.sizeOf190
 v35:=Tryz.zeroValue190
 t36:=Tryz.underlying191
 a36:=Tryz.isAgg191
 z36:=Tryz.sizeOf191
 v36:=Tryz.zeroValue191
 t41:=Tryz.underlying91
 a41:=Tryz.isAgg91
 z41:=Tryz.sizeOf91
 v41:=Tryz.zeroValue91
 t44:=Tryz.underlying164
 a44:=Tryz.isAgg164
 z44:=Tryz.sizeOf164
 v44:=Tryz.zeroValue164
 t46:=Tryz.underlying198
 a46:=Tryz.isAgg198
 z46:=Tryz.sizeOf198
 v46:=Tryz.zeroValue198
 t53:=Tryz.underlying212
 a53:=Tryz.isAgg212
 z53:=Tryz.sizeOf212
 v53:=Tryz.zeroValue212
 t57:=Tryz.underlying216
 a57:=Tryz.isAgg216
 z57:=Tryz.sizeOf216
 v57:=Tryz.zeroValue216
 t63:=Tryz.underlying228
 a63:=Tryz.isAgg228
 z63:=Tryz.sizeOf228
 v63:=Tryz.zeroValue228
 t64:=Tryz.underlying121
 a64:=Tryz.isAgg121
 z64:=Tryz.sizeOf121
 v64:=Tryz.zeroValue121 }
theorem Ft (m:Nat):AnyZ.SortsIn Tryz.prog Dd Fence.wide m :=
 ⟨λblk off cap ss W hH hblk hsz=>callsIn_wide.2 (AnyM.slices_Sort_string Dz blk off cap ss W hH hblk hsz),
  λp cap W=>callsIn_wide.2 (AnyM.slices_Sort_string_none Dz p cap W)⟩
theorem C0 (mb:Option Nat) (W:World):CallsIn Fence.wide 5 Tryz.prog 74 #[.map mb] W λe w'=>e=.returned (.func (.func 93) #[] #[.pointer (some ⟨W.heap.size,0,none⟩)])∧w'=W.alloc (.cells #[.map mb] 66) :=
 AnyZ.keys_in ED Fence.wide 5 trivial rfl mb W
theorem CO (b nn:Nat) (D0:DataW Unit) (R:Value→Option (DataW Unit×List MemPlace)) (w:World) (hown:w.ownsMap Tryz.prog 9 R b nn D0) (hmax:Maps.size D0≤maxLen) (hbytes:Maps.size D0*16≤140737488355328) :
  CallsIn Fence.wide 5 Tryz.prog 73 #[.func (.func 93) #[] #[.pointer (some ⟨w.heap.size,0,none⟩)]] (w.alloc (.cells #[.map (some b)] 66)) λe w'=>∃(v:Value) (ss:List (List UInt8)),e=.returned v∧ss.Perm (strKeys D0) ∧
   w'.ownsRow (w.alloc (.cells #[.map (some b)] 66)).heap.size 9 1 v ss.length ((ss.mergeSort (λx y=>decide (x≤y))).map encStr)∧(v=.slice none 0 0↔ss=[])∧Below (w.alloc (.cells #[.map (some b)] 66)).heap.size (w.alloc (.cells #[.map (some b)] 66)) w':=by
 have B:=hown.lt;have A:SeqGives Fence.wide 2 Tryz.prog 93 #[.pointer (some ⟨w.heap.size,0,none⟩)] encStr (λss=>ss.Perm (strKeys D0)) (Maps.size D0) (w.alloc (.cells #[.map (some b)] 66)) :=
  AnyZ.keys_gives (ρ:=E2) { ED with } Fence.wide _ trivial rfl (by omega) w.heap.size b nn D0 _ (by simp) (by simp) (by
   obtain⟨F,o,hb,E,C,D⟩:=hown;exact⟨F,o,(Below.heap_alloc _ _ b B).trans hb,E,C,D⟩)
 exact AnyZ.sorted_in E7 Fence.wide 5 trivial trivial trivial trivial rfl (by omega) (Ft _) (enters_of Tryz.func92 (by kernel_rfl) rfl) 93 #[.pointer (some ⟨w.heap.size,0,none⟩)] trivial (enters_of Tryz.func93 (by kernel_rfl) rfl) _ _ hmax hbytes _ A
theorem FE (d:Fs.Names):strKeys (Fs.datum d)=d.map (·.1):=by
 show ((d.map Fs.ent).map λp=>strOf p.1)=_;rw[List.map_map];rfl
def strsOf (l:List (List UInt8)):List ByteArray:=l.map λx=>⟨x.toArray⟩
theorem B7 {w:World} {base:Nat} {v:Value} {ss:List (List UInt8)} {d:Fs.Names} (hp:ss.Perm (strKeys (Fs.datum d))) (hrow:w.ownsRow base 9 1 v ss.length ((ss.mergeSort (λx y=>decide (x≤y))).map encStr)) :
  Ca w v (strsOf (Fs.keys d))∧(∀k,v.ownBlock=some k→base≤k∧k<w.heap.size):=by
 have A:ss.mergeSort (λx y=>decide (x≤y))=Fs.keys d:=by
  rw[FE]at hp;exact mergeSort_of_perm hp
 rw[A]at hrow;have o:(strsOf (Fs.keys d)).length=ss.length:=by
  unfold strsOf;rw[← A,QV,List.length_mergeSort]
 refine⟨?_,λk hk=>hrow.lt k hk⟩;rcases hrow.2 with⟨h1,h2⟩|⟨g,cap,cur,h1,hg,hb,hc,hm⟩
 ·exact⟨none,0,by rw[h1,o,h2],λi s hi=>by
   have:=(List.getElem?_eq_some_iff.1 hi).1;omega⟩
 ·refine⟨some ⟨g,0,none⟩,cap,by rw[o];exact h1,λi s hi=>⟨g,0,rfl,AE hb,?_⟩⟩;unfold strsOf at hi;rw[List.getElem?_map]at hi;cases hx:(Fs.keys d)[i]? with
  | none=>rw[hx]at hi;cases hi
  | some x =>
   rw[hx]at hi;simp at hi;subst hi;have:=World.ownsRow.cells hrow (g:=g) (by rw[h1];rfl) i (encStr x) (by rw[List.getElem?_map,hx];rfl);rw[addr_add]at this;rw[Nat.zero_add];exact this
open Go.Maps Go.Sort Go.Shelf
theorem Dw (base B:Nat) (st:Fs.St) (V:FsV) (own:Nat→Tag) (w:World) (h:Ad base B st V own w) (hd:st.dir.length≤900000) :
  Calls Tryz.prog 41 #[.pointer (some ⟨B,0,none⟩)] w λe w'=>∃v,e=.returned v∧Ca w' v (strsOf (Fs.keys st.dir))∧(∀k,v.ownBlock=some k→w.heap.size≤k)∧Below w.heap.size w w':=by
 have I:w.cell? ⟨B,5,none⟩=some (.map (some V.md)):=AA h.at_.root 5 _ rfl;have E:=QA h.at_.dir;have A:Maps.size (Fs.datum st.dir)=st.dir.length:=Fs.datum_size _;have C:Maps.size (Fs.datum st.dir)≤maxLen:=by rw[A];unfold maxLen;omega
 have o:Maps.size (Fs.datum st.dir)*16≤140737488355328:=by rw[A];omega
 clear h A;refine (callsIn_wide (n:=6)).1 ?_;have G:Fence.wide.fn 74:=trivial;have H:Fence.wide.fn 73:=trivial;refine callsIn_of_wp Tryz.func41 rfl trivial ?_ rfl;simp only[Tryz.ntmps41,List.size_toArray,List.length_cons,List.length_nil,Nat.reduceAdd,Nat.reduceSub,Array.replicate_succ,Array.replicate_zero,List.push_toArray,List.append_toArray,List.nil_append,List.cons_append]
 gi_wp2_with (first
  | (gi_at_call 74;refine (C0 _ _).mono ?_;rintro e w' ⟨rfl,rfl⟩)
  | (gi_at_call 73;refine (CO V.md _ (Fs.datum st.dir) _ w E.out C o).mono ?_;rintro e w' ⟨v,ss,rfl,hS,hrow,hnil,hb⟩))
 go_ret;obtain⟨D,F⟩:=B7 hS hrow;exact⟨v,rfl,D,λk hk=>by have:=(F k hk).1;simp at this;omega,((Below.refl _ w).alloc (QM _) _).trans (hb.mono (by simp))⟩
open Go.Maps Go.WideMaps
theorem Mf.good_bad {v:Int} {l:List Int} (h:v<1∨2147483647<v∨l.length<1∨32<l.length):Mf.good v l=false:=by
 cases hg:Mf.good v l
 ·rfl
 ·have:=Mf.good_out hg;omega
theorem Mf.good_incr {v:Int} {l:List Int} (h1:1≤v) (h2:v≤2147483647) (h3:1≤l.length) (h4:l.length≤32):Mf.good v l=Mf.incr 0 l:=by
 unfold Mf.good;rw[decide_eq_true h1,decide_eq_true h2,decide_eq_true h3,decide_eq_true h4];rfl
theorem Mf.incr_drop {l:List Int} {j:Nat} {x:Int} (h:l[j]?=some x) (last:Int):Mf.incr last (l.drop j)=(decide (last<x)&&(decide (x≤2147483647)&&Mf.incr x (l.drop (j+1)))):=by
 obtain⟨A,o⟩:=List.getElem?_eq_some_iff.1 h;rw[List.drop_eq_getElem_cons A,o,Mf.incr]
def Mf.chk (v:Int) (l:List Int):Int:=if Mf.good v l then 0 else 1
theorem Ey (ver:Int) (sv:Value) (l:List Int) (w:World) (hS:Be w sv l) (hl:l.length≤1000000000) :
  Calls Tryz.prog 49 #[.agg #[.int .i64 ver,sv]] w λe w'=>e=.returned (.int .i64 (Mf.chk ver l))∧Below w.heap.size w w':=by
 obtain⟨M,H,rfl⟩:=hS.form;have hb:Below w.heap.size w (w.alloc (.cells #[.int .i64 ver,.slice M l.length H] 37)):=(Below.refl _ _).alloc (QM _) _;have W:=QA (hS.below hb);have L:=AH w (.cells #[.int .i64 ver,.slice M l.length H] 37);have y0:=AA L 0 _ rfl;have y1:=AA L 1 _ rfl;have G:=QA hb;have X:(0:Int)≤(l.length:Int):=Int.natCast_nonneg _;clear hS L hb;go_enter Tryz.func49,Tryz.ntmps49;by_cases h1:ver<1
 ·skip
  have B:Hid (Mf.chk ver l=1):=by unfold Mf.chk;rw[Mf.good_bad (by omega)];exact QA rfl
  go_wp2_with fail;go_ret;exact⟨congrArg (λx=>Ending.returned (.int .i64 x)) B.out.symm,(Below.refl _ _).alloc (QM _) _⟩
 have J:1≤ver:=by omega
 by_cases h2:2147483647<ver
 ·skip
  have B:Hid (Mf.chk ver l=1):=by unfold Mf.chk;rw[Mf.good_bad (by omega)];exact QA rfl
  go_wp2_with fail;go_ret;exact⟨congrArg (λx=>Ending.returned (.int .i64 x)) B.out.symm,(Below.refl _ _).alloc (QM _) _⟩
 have K:ver≤2147483647:=by omega
 by_cases h3:l.length<1
 ·have Z:(l.length:Int)<1:=by omega
  have B:Hid (Mf.chk ver l=1):=by unfold Mf.chk;rw[Mf.good_bad (by omega)];exact QA rfl
  go_wp2_with fail;go_ret;exact⟨congrArg (λx=>Ending.returned (.int .i64 x)) B.out.symm,(Below.refl _ _).alloc (QM _) _⟩
 have R:(1:Int)≤(l.length:Int):=by omega
 by_cases h4:32<l.length
 ·have V:(32:Int)<(l.length:Int):=by omega
  have B:Hid (Mf.chk ver l=1):=by unfold Mf.chk;rw[Mf.good_bad (by omega)];exact QA rfl
  go_wp2_with fail;go_ret;exact⟨congrArg (λx=>Ending.returned (.int .i64 x)) B.out.symm,(Below.refl _ _).alloc (QM _) _⟩
 have Y:(l.length:Int)≤32:=by omega
 have P:Hid (Mf.good ver l=Mf.incr 0 l):=QA (Mf.good_incr J K (by omega) (by omega));clear h1 h2 h3 h4;go_wp2_with fail
 go_loopg [3,29] l.length (λk s3 s29 wr=>∃(j:Nat) (A:Int),j≤l.length∧k=l.length-j∧s29=.int .i64 (j:Nat)∧s3=.int .i64 A∧Mf.incr A (l.drop j)=Mf.incr 0 l∧wr=w.alloc (.cells #[.int .i64 ver,.slice M l.length H] 37))
 case atStart=>exact⟨0,0,Nat.zero_le _,rfl,rfl,rfl,rfl,rfl⟩
 case round =>
  obtain⟨j,A,hj,O,rfl,rfl,D,rfl⟩:=hrel;have S:=QA O;have C:=QA D;clear O D;have U:(0:Int)≤(j:Int):=Int.natCast_nonneg _;by_cases hjn:j<l.length
  ·have E:(j:Int)<(l.length:Int):=by omega
   obtain⟨x,I⟩:∃x,l[j]?=some x:=⟨_,ZG hjn⟩
   obtain⟨g,o,rfl,hg,hc⟩:=W.out.at I;have Q:=QA (Mf.incr_drop I A);clear I;by_cases hb:x≤A∨2147483647<x
   ·have B:Hid (Mf.chk ver l=1):=by
     unfold Mf.chk;rw[P.out,← C.out,Q.out];rcases hb with hb|hb
     ·rw[decide_eq_false (by omega)];exact QA rfl
     ·rw[decide_eq_false (p:=x≤2147483647) (by omega),Bool.false_and,Bool.and_false];exact QA rfl
    rcases hb with hb|hb
    ·go_wp2_with fail;go_ret;exact⟨congrArg (λx=>Ending.returned (.int .i64 x)) B.out.symm,G.out⟩
    ·by_cases F:x≤A
     ·go_wp2_with fail;go_ret;exact⟨congrArg (λx=>Ending.returned (.int .i64 x)) B.out.symm,G.out⟩
     ·have T:A<x:=by omega
      go_wp2_with fail;go_ret;exact⟨congrArg (λx=>Ending.returned (.int .i64 x)) B.out.symm,G.out⟩
   ·have N:A<x:=by omega
    have F:x≤2147483647:=by omega
    clear hb;go_wp2_with fail;go_roundg (l.length-(j+1))
    case measure=>rw[S.out];omega
    case rel=>exact⟨j+1,x,by omega,rfl,by simp,rfl,by rw[← C.out,Q.out,decide_eq_true N,decide_eq_true F];rfl,rfl⟩
  ·have E:(l.length:Int)≤(j:Int):=by omega
   have B:Hid (Mf.chk ver l=0):=by
    unfold Mf.chk;rw[P.out,← C.out,List.drop_of_length_le (by omega)];exact QA rfl
   go_wp2_with fail;go_ret;exact⟨congrArg (λx=>Ending.returned (.int .i64 x)) B.out.symm,G.out⟩
open Go.Maps Go.WideMaps
def IV (v:Int) (l:List Int) (w:World) (e:Ending) (w':World):Prop :=
 Below w.heap.size w w'∧((Mf.good v l=true∧∃b,e=.returned (.tuple #[b,.int .i64 0])∧Au w' w.heap.size b (Mf.enc v l)) ∨
  (Mf.good v l=false∧e=.returned (.tuple #[.slice none 0 0,.int .i64 1])))
theorem Mf.pay_take {ns:List Int} {j:Nat} {x:Int} (h:ns[j]?=some x):Mf.pay (ns.take (j+1))=Mf.pay (ns.take j)++(Lib.itoa x++[10]):=by
 unfold Mf.pay;rw[List.take_add_one,h,List.flatMap_append];simp
theorem Dl (ver:Int) (sv:Value) (l:List Int) (w:World) (B:Nat) (hE:B5 B w) (hBw:B≤w.heap.size) (hS:Be w sv l) (hl:l.length≤1000000000) :
  Calls Tryz.prog 37 #[.agg #[.int .i64 ver,sv]] w (IV ver l w):=by
 obtain⟨sa,sc,rfl⟩:=hS.form;have hb:Below w.heap.size w (w.alloc (.cells #[.int .i64 ver,.slice sa l.length sc] 37)):=(Below.refl _ _).alloc (QM _) _;have hr:=AH w (.cells #[.int .i64 ver,.slice sa l.length sc] 37);have y0:=AA hr 0 _ rfl;have y1:=AA hr 1 _ rfl;have HS:=QA hS;have HE:=QA hE;have aH:B≤w.heap.size:=hBw;have HB:=QA hb;have HR:=QA hr;clear hS hr hb hE;go_enter Tryz.func37,Tryz.ntmps37;go_wp2_with fail;refine (Ey ver _ l _ (HS.out.below HB.out) hl).mono ?_;rintro e w1 ⟨rfl,hb1⟩;have F:=QA (HB.out.trans (hb1.mono HB.out.size));have E:w1.heap[w.heap.size]?=some (.cells #[.int .i64 ver,.slice sa l.length sc] 37 (0,0)):=by rw[hb1.block _ (AE HR.out)];exact HR.out
 have z0:w1.cell? ⟨w.heap.size,0,none⟩=some (.int .i64 ver):=AA E 0 _ rfl;have aq:(w1.alloc (.cells #[.int .i64 ver] 3)).heap[w.heap.size]?=some (.cells #[.int .i64 ver,.slice sa l.length sc] 37 (0,0)):=by rw[Lib.alloc_old _ _ _ (AE E)];exact E
 have z1:(w1.alloc (.cells #[.int .i64 ver] 3)).cell? ⟨w.heap.size,1,none⟩=some (.slice sa l.length sc):=AA aq 1 _ rfl;have aT:=hb1.size;clear hb1 E aq y0 y1;cases hg:Mf.good ver l
 ·have Q:Mf.chk ver l=1:=by unfold Mf.chk;rw[hg];rfl
  rw[Q];have Y:=QA hg;clear hg Q;go_wp2_with fail;refine bodyPost_ret (v:=.tuple #[.slice none 0 0,.int .i64 1]) (by simp[results,Tryz.results37,go_sem]) rfl ?_;exact⟨F.out,.inr ⟨Y.out,rfl⟩⟩
 ·have Q:Mf.chk ver l=0:=by unfold Mf.chk;rw[hg];rfl
  rw[Q];have Y:=QA hg;have V:=(Mf.good_out hg).2.1;clear hg Q;have L:=(F.out).alloc F.out.size (.cells #[.int .i64 ver] 3);have K:=QA L;have ak:=QA (Ae.one w1 ver w.heap.size F.out.size);have aB:=QA (HS.out.below L);clear L;go_wp2_with (first|(at_builtin;refine BI rfl _ _ rfl w.heap.size (.slice (some ⟨w1.heap.size,0,none⟩) 1 1) _ rfl ak.out _ l rfl aB.out V.1 (by simp;omega) K.out.size ?_;intro d' w2 hown hgrow hloc;obtain⟨da,H,dc,aO,aj⟩:=Ae.form3 hown;subst aO;have aa:=QA hown;have aJ:=QA hgrow;clear hown hgrow hloc)|fail);have C:=QA (below_grown K.out K.out.size ak.out aJ.out);have aN:=QA aa.out.nums;have an:Hid (([ver]++l:List Int).length=H):=QA aj.out.symm;have aV:H≤33:=by rw[aj.out];simp;omega
  have aL:=QA (Mf.good_all Y.out);have aD:=QA (HE.out.below (C.out.mono aH));clear z0 z1
  go_loopg [5,20] H (λk s5 s20 wr=>∃(j:Nat) (J:List (List UInt8×Value)),j≤H∧k=H-j∧s20=.int .i64 (j:Nat)∧PO wr w2.heap.size s5 J∧(J.map (·.1)).flatten=Mf.pay (([ver]++l).take j)∧J.length=j∧(∀p∈J,p.1.length≤100)∧Below w2.heap.size w2 wr)
  case atStart=>exact⟨0,[],Nat.zero_le _,rfl,rfl,PO.nil _ _,rfl,rfl,λp D=>by (cases D),Below.refl _ _⟩
  case round =>
   obtain⟨j,J,hj,hk,rfl,ar,af,U,am,ag⟩:=hrel;have HK:=QA hk;have al:=QA ar;have ai:=QA af;have G:=QA U;have W:=QA am;have A:=QA ag;clear hk ar af U am ag;have a6:(0:Int)≤(j:Int):=Int.natCast_nonneg _;by_cases hjn:j<H
   ·have ab:(j:Int)<(H:Int):=by omega
    obtain⟨x,R⟩:∃x,([ver]++l:List Int)[j]?=some x:=⟨_,ZG (by rw[an.out];exact hjn)⟩
    have aW:=aL.out x (QZ R);have aP:=QA (Mf.pay_take R);obtain⟨g,o,rfl,hg,Q⟩:=(aN.out.below A.out).at R;clear R;go_wp2_with fail;refine (Tryz.strconv_Itoa x (by omega) (by omega) wr (aD.out.below (A.out.mono (by have:=C.out.size;omega))).tab).mono ?_;rintro e w3 ⟨rfl,kk,oss,hw3⟩;have ah:Below wr.heap.size wr w3:=by rw[hw3];exact Lib.below_grow wr.heap.size wr (QM _) kk oss
    have M:=QA ah;clear hw3 ah;obtain⟨s,hs⟩:∃s:ByteArray,s=⟨(Lib.itoa x).toArray⟩:=⟨_,rfl⟩
    have O:=Lib.itoa_length_le x (by omega) (by omega);have a1:(s.size:Int)≤21:=by
     rw[hs];show ((Lib.itoa x).toArray.size:Int)≤21;simp;omega
    rw[← hs];have aw:=QA hs;clear hs O;have a0:=run_bytes_of_string (P:=Tryz.prog) w3 9 38 5 (s++⟨#[10]⟩) Tryz.underlying9 Tryz.underlying38 Tryz.underlying5;have N:(s++⟨#[10]⟩:ByteArray).size=s.size+1:=by rw[ByteArray.size_append];rfl
    have ay:Hid (∀(fz:Nat×Nat),Al (w3.drew.alloc (.cells (bytesRow (s++⟨#[10]⟩) (grownCap w3 (s.size+1) 0 5)) 5 fz)) (.slice (some ⟨w3.heap.size,0,none⟩) (s.size+1) (grownCap w3 (s.size+1) 0 5)) (Lib.itoa x++[10])):=by
     refine QA λfz=>?_
     have h1:=Fv w3 (s++⟨#[10]⟩) (grownCap w3 (s.size+1) 0 5) (by rw[N];exact grownCap_ge _ _ _ _) fz;rw[N]at h1;have h2:(s++⟨#[10]⟩:ByteArray).data.toList=Lib.itoa x++[10]:=by rw[aw.out];simp
     rw[h2]at h1;exact h1
    have aF:Hid ((Lib.itoa x++[10]).length≤100):=by
     refine QA ?_;have:=Lib.itoa_length_le x (by omega) (by omega);simp;omega
    clear N;have I:=QA (al.out.keep M.out);have X:w2.heap.size≤w3.heap.size:=Nat.le_trans A.out.size M.out.size;have ao:=QA (A.out.trans (M.out.mono A.out.size));obtain⟨i0,hi,aK,aG,aA⟩:=info_parts Je;have aQ:j≤33:=by omega
    go_wp2_with (first|(at_builtin;refine wpList_append_own_at _ rfl _ _ 134 rfl w2.heap.size 38 i0 (.slice none 0 0) 1 24 Tryz.underlying134 hi aK aG aA rfl (by decide) u5 J.length (J.map (·.2)) rfl ((I.out.keep (Cx _ _ _)).row) ⟨w3.heap.size+1,0,none⟩ 1 1 [.slice (some ⟨w3.heap.size,0,none⟩) (s.size+1) (grownCap w3 (s.size+1) 0 5)] rfl rfl (Fi _ _ _ _) (λu hu=>by simp at hu;subst hu;rfl) (by rw[G.out];unfold maxLen;omega) (by rw[G.out];omega) (by simp;omega) ?_;intro v' w5 hrow hgrow hnil hloc;clear hnil;have ad:=QA (PO.more (I.out.keep (Cx _ _ _)) (I0 (ay.out _) _) (by simp;omega) (Jx I.out) hrow hgrow hloc);have ax:=QA (below_grown (ao.out.trans ((Cx _ _ _).mono X)) (by simp;omega) (I.out.keep (Cx _ _ _)).row hgrow);clear hrow hgrow hloc)|fail);go_roundg (H-(j+1))
    case measure=>rw[HK.out];omega
    case rel=>exact⟨j+1,_,by omega,rfl,by simp,ad.out,by rw[List.map_append,List.flatten_append,ai.out,aP.out];simp,by rw[List.length_append,G.out];rfl,λp D=>by
     rcases ZI.1 D with D|D
     ·exact W.out p D
     ·simp only[List.mem_singleton]at D;subst D;exact aF.out,ax.out⟩
   ·have ab:(H:Int)≤(j:Int):=by omega
    have ap:Hid ((J.map (·.1)).flatten=Mf.pay (ver::l)):=by
     rw[ai.out,List.take_of_length_le (by rw[an.out];omega)];exact QA rfl
    have aE:=QA (Mf.enc_ok Y.out);have Z:=QA al.out.prts;obtain⟨pa,pc,S⟩:=Z.out.form;rw[QV]at S;subst S;go_wp2_with fail;refine (GP 9 _ (J.map (·.1)) wr Z.out (by rw[QV,G.out];omega) (λq hq=>by
     obtain⟨p,D,rfl⟩:=List.mem_map.1 hq;have:=W.out p D;omega)).mono ?_
    rintro e w6 ⟨hb6,hres⟩;have aC:=QA (C.out.trans ((A.out.trans (hb6.mono A.out.size)).mono C.out.size));rw[ap.out,aE.out]at hres;have T:w.heap.size≤wr.heap.size:=Nat.le_trans C.out.size A.out.size;rcases hres with⟨_,b,rfl,hob⟩|⟨R,_⟩
    ·have az:=QA hob;clear hob hb6;go_wp2_with fail;refine bodyPost_ret (v:=.tuple #[b,.int .i64 0]) (by simp[results,Tryz.results37,go_sem]) rfl ?_;exact⟨aC.out,.inl ⟨Y.out,b,rfl,az.out.mono T⟩⟩
    ·exact absurd rfl R
end Go.Proofs.YtmlekglfdiacpaaGreatDoor
