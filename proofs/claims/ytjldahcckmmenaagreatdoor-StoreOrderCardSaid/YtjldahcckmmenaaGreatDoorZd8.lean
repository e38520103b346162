/-
  The file system as names and their bytes, in calm weather (plain). Frames: what is encoded is decoded (no program in sight). A crash: what is left (plain). What any operation of the file system keeps, in any weather (plain). Numbers and parts in memory: rows of the call's own. Segments: Create and Append, walked.
-/
import Derived.Test.YtjldahcckmmenaaGreatDoorZd5
import Derived.Test.YtjldahcckmmenaaGreatDoorZd7
import Derived.Laws.IdiomStrings
open Go.Lib renaming hid → QA
open List renaming length_cons → QO, mem_cons_self → QP, length_append → QS, mem_cons_of_mem → QT, length_map → QV, mem_of_getElem? → QZ, getElem?_map → ZF, getElem?_eq_getElem → ZG, mem_append → ZI
open Nat renaming le_refl → QM, le_trans → QQ, zero_le → ZS, lt_of_lt_of_le → ZT
namespace Go.Proofs.YtjldahcckmmenaaGreatDoor
set_option maxRecDepth 100000
set_option maxHeartbeats 4000000
set_option linter.unusedSimpArgs false
set_option linter.unusedVariables false
open Go Go.RowKit
namespace Fs
theorem FK (x:List UInt8×Int) (n:List UInt8):∀l:Names,mhas l x.1=false→(mins x l).find? (λp=>p.1==n)=if x.1=n then some x else l.find? (λp=>p.1==n)
 | [],_=>by
  unfold mins;by_cases h:x.1=n
  ·rw[if_pos h,List.find?_cons_of_pos (by simpa using h)]
  ·rw[if_neg h,List.find?_cons_of_neg (by simpa using h)]
 | y::r,hh=>by
  have o:mhas r x.1=false:=by unfold mhas at hh ⊢;rw[List.any_cons,Bool.or_eq_false_iff]at hh;exact hh.2
  have A:y.1≠x.1:=by unfold mhas at hh;rw[List.any_cons,Bool.or_eq_false_iff]at hh;simpa using hh.1
  unfold mins;split
  ·by_cases h:x.1=n
   ·rw[if_pos h,List.find?_cons_of_pos (by simpa using h)]
   ·rw[if_neg h,List.find?_cons_of_neg (by simpa using h)]
  ·by_cases h:y.1=n
   ·rw[List.find?_cons_of_pos (by simpa using h),if_neg (λe=>A (by rw[h,e])),List.find?_cons_of_pos (by simpa using h)]
   ·rw[List.find?_cons_of_neg (by simpa using h),FK x n r o,List.find?_cons_of_neg (by simpa using h)]
theorem B5 (l:Names) (n:List UInt8):mhas l n=(l.find? (λp=>p.1==n)).isSome:=by
 unfold mhas;rw[Bool.eq_iff_iff,List.any_eq_true];constructor
 ·rintro⟨p,o,A⟩;rw[List.find?_isSome];exact⟨p,o,A⟩
 ·intro h;rw[List.find?_isSome]at h;obtain⟨p,o,A⟩:=h;exact⟨p,o,A⟩
theorem Cc (l:Names) (k n:List UInt8):(mdel l k).find? (λp=>p.1==n)=if n=k then none else l.find? (λp=>p.1==n):=by
 unfold mdel
 induction l with
 | nil=>simp
 | cons y r ih =>
  by_cases hk:y.1=k
  ·rw[List.filter_cons_of_neg (by simp[hk]),ih];by_cases h:n=k
   ·rw[if_pos h,if_pos h]
   ·rw[if_neg h,if_neg h,List.find?_cons_of_neg (by simp[hk];exact λe=>h e.symm)]
  ·rw[List.filter_cons_of_pos (by simp[hk])];by_cases h:y.1=n
   ·rw[List.find?_cons_of_pos (by simpa using h),if_neg (λe=>hk (h.trans e)),List.find?_cons_of_pos (by simpa using h)]
   ·rw[List.find?_cons_of_neg (by simpa using h),ih,List.find?_cons_of_neg (by simpa using h)]
theorem Hi (l:Names) (k:List UInt8):mhas (mdel l k) k=false:=by rw[B5,Cc,if_pos rfl];rfl
theorem Er (l:Names) (k n:List UInt8) (v:Int):(mput l k v).find? (λp=>p.1==n)=if k=n then some (k,v) else l.find? (λp=>p.1==n):=by
 unfold mput;rw[FK (k,v) n _ (Hi l k)];by_cases h:k=n
 ·rw[if_pos h,if_pos h]
 ·rw[if_neg h,if_neg h,Cc,if_neg (λe=>h e.symm)]
theorem FD (l:Names) (k n:List UInt8) (v:Int):mhas (mput l k v) n=(decide (k=n)||mhas l n):=by
 rw[B5,Er,B5];by_cases h:k=n
 ·rw[if_pos h,decide_eq_true h];rfl
 ·rw[if_neg h,decide_eq_false h];rfl
theorem mhas_mdel (l:Names) (k n:List UInt8):mhas (mdel l k) n=(!decide (n=k)&&mhas l n):=by
 rw[B5,Cc,B5];by_cases h:n=k
 ·rw[if_pos h,decide_eq_true h];rfl
 ·rw[if_neg h,decide_eq_false h];rfl
theorem Es (l:Names) (k n:List UInt8) (v:Int):mget (mput l k v) n=if k=n then v else mget l n:=by
 unfold mget;rw[Er];by_cases h:k=n
 ·rw[if_pos h,if_pos h]
 ·rw[if_neg h,if_neg h]
theorem FC (l:Names) (k n:List UInt8) (h:n≠k):mget (mdel l k) n=mget l n:=by
 unfold mget;rw[Cc,if_neg h]
theorem FA (l:Names) (k:List UInt8) (v:Int):(mput l k v).Perm ((k,v)::mdel l k):=D2 _ _
theorem A2 {l:Names} {k:List UInt8} {p:List UInt8×Int}:p∈mdel l k↔p∈l∧p.1≠k:=by
 unfold mdel;rw[List.mem_filter];simp
theorem A7 {l:Names} {k:List UInt8} {v:Int} {p:List UInt8×Int}:p∈mput l k v↔p=(k,v)∨(p∈l∧p.1≠k):=by
 rw[(FA l k v).mem_iff,List.mem_cons,A2]
theorem mhas_mem {l:Names} {k:List UInt8}:mhas l k=true↔∃p∈l,p.1=k:=by
 unfold mhas;rw[List.any_eq_true];constructor
 ·rintro⟨p,h1,h2⟩;exact⟨p,h1,by simpa using h2⟩
 ·rintro⟨p,h1,h2⟩;exact⟨p,h1,by simpa using h2⟩
theorem CH:∀{l:Names} {k:List UInt8},mhas l k=true→(mdel l k).length+1≤l.length
 | [],k,h=>by cases h
 | y::r,k,h=>by
  by_cases hy:y.1=k
  ·have:=List.length_filter_le (λp:List UInt8×Int=>!(p.1==k)) r;unfold mdel;rw[List.filter_cons_of_neg (by simp[hy]),QO];omega
  ·have o:mhas r k=true:=by
    unfold mhas at h ⊢;rw[List.any_cons]at h
    simpa [hy] using h
   have:=CH o;unfold mdel at this ⊢;rw[List.filter_cons_of_pos (by simp[hy]),QO,QO];omega
theorem DK (l:Names) (k:List UInt8) (v:Int):(mput l k v).length=(mdel l k).length+1:=EP _ _
structure Inv (st:St):Prop where
 nd:st.dir.Pairwise (λp q=>p.1≠q.1)
 inj:∀p∈st.dir,∀q∈st.dir,p.2=q.2→p.1=q.1
 known:∀p∈st.dir,0≤p.2∧p.2<st.files.length
 gd:∀p∈st.dir,good p.1=true
def look (st:St) (n:List UInt8):Option (List UInt8):=if mhas st.dir n then some (fileAt st n) else none
theorem C7 {l:Names} {k:List UInt8} (h:l.Pairwise (λp q=>p.1≠q.1)):(mdel l k).Pairwise (λp q=>p.1≠q.1):=h.sublist List.filter_sublist
theorem C0 {l:Names} {k:List UInt8} {v:Int} (h:l.Pairwise (λp q=>p.1≠q.1)):(mput l k v).Pairwise (λp q=>p.1≠q.1):=by
 refine ((FA l k v).pairwise_iff (λ{a b} h=>h.symm)).2 ?_;rw[List.pairwise_cons];exact⟨λp hp=>(A2.1 hp).2.symm,C7 h⟩
theorem look_some {st:St} {n b:List UInt8} (h:look st n=some b):mhas st.dir n=true∧fileAt st n=b:=by
 unfold look at h;split at h
 ·rename_i h2;exact⟨h2,by simpa using h⟩
 ·cases h
theorem look_none {st:St} {n:List UInt8} (h:look st n=none):mhas st.dir n=false:=by
 unfold look at h;split at h
 ·cases h
 ·rename_i h2;simpa using h2
theorem Inv.new (room:Int):Inv (new room):=⟨List.Pairwise.nil,λp hp=>(by cases hp),λp hp=>(by cases hp),λp hp=>(by cases hp)⟩
theorem look_new (room:Int) (n:List UInt8):look (new room) n=none:=rfl
theorem Inv.idx {st:St} (h:Inv st) {n:List UInt8} (hn:mhas st.dir n=true):∃f,st.files[Fs.idx st n]?=some f∧fileAt st n=f.1∧(n,((Fs.idx st n:Nat):Int))∈st.dir:=by
 obtain⟨p,A,C,B⟩:=mget_mem hn;have D:=h.known p A;have e:Fs.idx st n=p.2.toNat:=by unfold Fs.idx;rw[B]
 have o:Fs.idx st n<st.files.length:=by omega
 refine⟨_,ZG o,?_,?_⟩
 ·unfold fileAt;rw[ZG o]
 ·rw[e];have:p=(n,((p.2.toNat:Nat):Int)):=by rw[← C];exact Prod.ext rfl (by show p.2=_;omega)
  rw[← this];exact A
theorem Inv.idx_ne {st:St} (h:Inv st) {n m:List UInt8} (hn:mhas st.dir n=true) (hm:mhas st.dir m=true) (hne:n≠m):Fs.idx st n≠Fs.idx st m:=by
 obtain⟨_,_,_,o⟩:=h.idx hn;obtain⟨_,_,_,A⟩:=h.idx hm;intro e;exact hne (h.inj _ o _ A (by show ((Fs.idx st n:Nat):Int)=((Fs.idx st m:Nat):Int);rw[e]))
theorem openE_of {st:St} {n:List UInt8} (hg:good n=true) (hn:mhas st.dir n=true):openE st n=0:=by
 unfold openE;rw[if_neg (by rw[hg];simp),if_neg (by rw[hn];simp)]
structure Next (st st':St) (k:Nat):Prop where
 calm:Calm st'
 inv:Inv st'
 room:st'.room=st.room
 files:st'.files.length≤st.files.length+k
 changes:st'.changes.length≤st.changes.length+k
theorem Next.trans {a b c:St} {i j:Nat} (h:Next a b i) (g:Next b c j):Next a c (i+j) :=
 ⟨g.calm,g.inv,g.room.trans h.room,by have:=h.files;have:=g.files;omega,by have:=h.changes;have:=g.changes;omega⟩
theorem Next.refl {st:St} (hc:Calm st) (hi:Inv st):Next st st 0:=⟨hc,hi,rfl,QM _,QM _⟩
section
set_option linter.unusedSectionVars false
variable {st : St} {n : List UInt8} (hc : Calm st) (hi : Inv st)
include hc hi
theorem calm_create (hg:good n=true) (hn:mhas st.dir n=false) (hd:st.dir.length<64) :
  (create st n).2=0∧Next st (create st n).1 1∧(create st n).1.dir.length=st.dir.length+1∧∀m,look (create st n).1 m=if m=n then some [] else look st m:=by
 have D:create st n=({ (step st).1 with files:=st.files++[([],0)],dir:=mput st.dir n st.files.length,changes:=st.changes++[[(n,(st.files.length:Int))]] },0):=by
  unfold create;rw[if_neg (by rw[hg];simp),if_neg (by rw[hn];simp),if_neg (by omega),if_neg (by rw[step_calm hc];simp)]
 rw[D,step_calm hc];refine⟨rfl,⟨⟨hc.1,hc.2⟩,⟨C0 hi.nd,?_,?_,λp hp=>(A7.1 hp).elim (λe=>by rw[e];exact hg) (λh=>hi.gd p h.1)⟩,rfl,by simp,by simp⟩,?_,λm=>?_⟩
 ·intro p hp q hq e;rcases A7.1 hp with rfl|⟨hp1,_⟩<;>rcases A7.1 hq with rfl|⟨hq1,_⟩
  ·rfl
  ·have:=hi.known q hq1;simp only at e;omega
  ·have:=hi.known p hp1;simp only at e;omega
  ·exact hi.inj p hp1 q hq1 e
 ·intro p hp;rcases A7.1 hp with rfl|⟨hp1,_⟩
  ·simp;omega
  ·have:=hi.known p hp1;simp;omega
 ·show (mput st.dir n st.files.length).length=_;rw[DK,DV hn]
 ·show (if mhas (mput st.dir n st.files.length) m then some (match (st.files++[(([]:List UInt8),0)])[(mget (mput st.dir n st.files.length) m).toNat]? with|some f=>f.1|none=>[]) else none)=_;rw[FD,Es];by_cases hm:m=n
  ·subst hm;simp
  ·have A:¬n=m:=λe=>hm e.symm
   rw[if_neg hm,if_neg A,decide_eq_false A,Bool.false_or];cases hh:mhas st.dir m
   ·unfold look;rw[hh];rfl
   ·obtain⟨f,B,C,_⟩:=hi.idx hh;have o:Fs.idx st m<st.files.length:=(List.getElem?_eq_some_iff.1 B).1;unfold Fs.idx at B o;rw[if_pos rfl,List.getElem?_append_left o,B];unfold look;rw[hh,if_pos rfl,C]
theorem F7 {f':List UInt8×Nat} {st':St} (hd:st'.dir=st.dir) (hf:st'.files=st.files.set (Fs.idx st n) f') (hn:mhas st.dir n=true):Inv st'∧∀m,look st' m=if m=n then some f'.1 else look st m:=by
 refine⟨⟨by rw[hd];exact hi.nd,by rw[hd];exact hi.inj,by rw[hd,hf,List.length_set];exact hi.known,by rw[hd];exact hi.gd⟩,λm=>?_⟩;obtain⟨f,B,_,_⟩:=hi.idx hn;have A:Fs.idx st n<st.files.length:=(List.getElem?_eq_some_iff.1 B).1;have o:Fs.idx st' m=Fs.idx st m:=by unfold Fs.idx;rw[hd]
 unfold look fileAt;rw[hd,o,hf];by_cases hm:m=n
 ·subst hm;rw[hn,if_pos rfl,if_pos rfl,List.getElem?_set_self A]
 ·rw[if_neg hm];cases hh:mhas st.dir m
  ·rfl
  ·rw[List.getElem?_set_ne (hi.idx_ne hn hh (λe=>hm e.symm))]
theorem calm_append {b old:List UInt8} (hg:good n=true) (hn:look st n=some old) (hl:old.length+b.length≤65536) (hr:(used st:Int)+b.length≤st.room) :
  (append st n b).2=0∧Next st (append st n b).1 0∧(append st n b).1.dir=st.dir∧(∃i,(append st n b).1.files=st.files.set i (old++b,((st.files[i]?.map (·.2)).getD 0)))∧∀m,look (append st n b).1 m=if m=n then some (old++b) else look st m:=by
 obtain⟨A,o⟩:=look_some hn;obtain⟨f,D,G,_⟩:=hi.idx A;have H:append st n b=({ (step st).1 with files:=grow st.files (Fs.idx st n) b },0):=by
  unfold append;rw[if_neg (by rw[openE_of hg A];simp),o,if_neg (by omega),step_calm hc,if_neg (by simp),if_neg (by omega)]
 have B:grow st.files (Fs.idx st n) b=st.files.set (Fs.idx st n) (f.1++b,f.2):=by unfold grow;rw[D]
 have C:f.1=old:=by rw[← G,o]
 rw[H,step_calm hc,B,C];obtain⟨E,F⟩:=F7 (st':={ st with steps:=wrap64 (st.steps+1),files:=st.files.set (Fs.idx st n) (old++b,f.2) }) (f':=(old++b,f.2)) hc hi rfl rfl A;exact⟨rfl,⟨⟨hc.1,hc.2⟩,E,rfl,by simp,QM _⟩,rfl,⟨Fs.idx st n,by rw[D];rfl⟩,F⟩
theorem calm_sync (hg:good n=true) {old:List UInt8} (hn:look st n=some old) :
  (sync st n).2=0∧Next st (sync st n).1 0∧(sync st n).1.dir=st.dir∧(∃i,(sync st n).1.files=st.files.set i (old,old.length))∧∀m,look (sync st n).1 m=look st m:=by
 obtain⟨o,B⟩:=look_some hn;obtain⟨f,D,G,_⟩:=hi.idx o;have H:sync st n=({ (step st).1 with files:=flush st.files (Fs.idx st n) },0):=by
  unfold sync;rw[if_neg (by rw[openE_of hg o];simp),step_calm hc,if_neg (by simp)]
 have C:f.1=old:=by rw[← G,B]
 have A:flush st.files (Fs.idx st n)=st.files.set (Fs.idx st n) (old,old.length):=by unfold flush;rw[D];simp only[C]
 rw[H,step_calm hc,A];obtain⟨E,F⟩:=F7 (st':={ st with steps:=wrap64 (st.steps+1),files:=st.files.set (Fs.idx st n) (old,old.length) }) (f':=(old,old.length)) hc hi rfl rfl o;refine⟨rfl,⟨⟨hc.1,hc.2⟩,E,rfl,by simp,QM _⟩,rfl,⟨_,rfl⟩,λm=>?_⟩;rw[F m];by_cases hm:m=n
 ·rw[if_pos hm,hm,hn]
 ·rw[if_neg hm]
theorem calm_syncDir:(syncDir st).2=0∧Next st (syncDir st).1 0∧(syncDir st).1.dir=st.dir∧(syncDir st).1.files=st.files∧∀m,look (syncDir st).1 m=look st m:=by
 have o:syncDir st=({ (step st).1 with sure:=st.dir,changes:=[] },0):=by
  unfold syncDir;rw[step_calm hc,if_neg (by simp)]
 rw[o,step_calm hc];exact⟨rfl,⟨⟨hc.1,hc.2⟩,⟨hi.nd,hi.inj,hi.known,hi.gd⟩,rfl,QM _,ZS _⟩,rfl,rfl,λm=>rfl⟩
theorem calm_remove (hg:good n=true) (hn:mhas st.dir n=true) :
  (remove st n).2=0∧Next st (remove st n).1 1∧(remove st n).1.dir=mdel st.dir n∧(remove st n).1.files=st.files∧∀m,look (remove st n).1 m=if m=n then none else look st m:=by
 have o:remove st n=(turned (step st).1 [(n,-1)],0):=by
  unfold remove;rw[if_neg (by rw[openE_of hg hn];simp),step_calm hc,if_neg (by simp)]
 rw[o,step_calm hc];refine⟨rfl,⟨⟨hc.1,hc.2⟩,⟨C7 hi.nd,λp hp q hq=>hi.inj p (A2.1 hp).1 q (A2.1 hq).1,λp hp=>hi.known p (A2.1 hp).1,λp hp=>hi.gd p (A2.1 hp).1⟩,rfl,Nat.le_succ _,by simp[turned]⟩,rfl,rfl,λm=>?_⟩;show (if mhas (mdel st.dir n) m then some (match st.files[(mget (mdel st.dir n) m).toNat]? with|some f=>f.1|none=>[]) else none)=_;rw[mhas_mdel];by_cases hm:m=n
 ·rw[if_pos hm,decide_eq_true hm];rfl
 ·rw[if_neg hm,decide_eq_false hm,FC _ _ _ hm];rfl
theorem calm_rename {nt old:List UInt8} (hg:good n=true) (hg2:good nt=true) (hne:n≠nt) (hn:look st n=some old) :
  (rename st n nt).2=0∧Next st (rename st n nt).1 1∧(rename st n nt).1.dir.length≤st.dir.length∧(mhas st.dir nt=true→(rename st n nt).1.dir.length+1≤st.dir.length)∧(rename st n nt).1.files=st.files ∧
   ∀m,look (rename st n nt).1 m=if m=nt then some old else if m=n then none else look st m:=by
 obtain⟨F,G⟩:=look_some hn;obtain⟨f,K,N,J⟩:=hi.idx F;obtain⟨p,E,H,B⟩:=mget_mem F;have D:=hi.known p E;have M:rename st n nt=(turned (step st).1 [(n,-1),(nt,mget st.dir n)],0):=by
  unfold rename;rw[if_neg (by rw[hg,hg2];simp),if_neg (by rw[F];simp),step_calm hc,if_neg (by simp)]
 have o:doAll st.dir [(n,-1),(nt,mget st.dir n)]=mput (mdel st.dir n) nt (mget st.dir n):=by
  show doOne (doOne st.dir (n,-1)) (nt,mget st.dir n)=_;have O:doOne st.dir (n,-1)=mdel st.dir n:=by unfold doOne;exact if_pos (show (-1:Int)<0 by decide)
  rw[O];unfold doOne;rw[if_neg (show ¬mget st.dir n<0 by rw[← B];omega)]
 have L:=CH F;rw[M,step_calm hc];refine⟨rfl,⟨⟨hc.1,hc.2⟩,⟨?_,?_,?_,?_⟩,rfl,Nat.le_succ _,by simp[turned]⟩,?_,λht=>?_,rfl,λm=>?_⟩
 ·show (doAll st.dir _).Pairwise _;rw[o];exact C0 (C7 hi.nd)
 ·show ∀p∈doAll st.dir _,∀q∈doAll st.dir _,_;rw[o];have key:∀q∈mdel st.dir n,q.2≠mget st.dir n:=λq hq e=>by
   obtain⟨A,I⟩:=A2.1 hq;exact I (by rw[← H];exact hi.inj q A p E (by rw[B];exact e))
  intro a ha b hb e;rcases A7.1 ha with rfl|⟨ha1,_⟩<;>rcases A7.1 hb with rfl|⟨hb1,_⟩
  ·rfl
  ·exact absurd e.symm (key b hb1)
  ·exact absurd e (key a ha1)
  ·exact hi.inj a (A2.1 ha1).1 b (A2.1 hb1).1 e
 ·show ∀p∈doAll st.dir _,_;rw[o];intro q hq;rcases A7.1 hq with rfl|⟨A,_⟩
  ·rw[B]at D;exact D
  ·exact hi.known q (A2.1 A).1
 ·show ∀p∈doAll st.dir _,_;rw[o];intro q hq;rcases A7.1 hq with rfl|⟨A,_⟩
  ·exact hg2
  ·exact hi.gd q (A2.1 A).1
 ·show (doAll st.dir _).length≤_;rw[o,DK];have:=mdel_len (mdel st.dir n) nt;omega
 ·show (doAll st.dir _).length+1≤_;rw[o,DK];have:mhas (mdel st.dir n) nt=true:=by rw[mhas_mdel,ht,decide_eq_false (λe=>hne e.symm)];rfl
  have:=CH this;omega
 ·show (if mhas (doAll st.dir _) m then some (match st.files[(mget (doAll st.dir _) m).toNat]? with|some f=>f.1|none=>[]) else none)=_;rw[o,FD,Es,mhas_mdel];by_cases hm:m=nt
  ·rw[if_pos hm,if_pos hm.symm,decide_eq_true hm.symm,Bool.true_or,if_pos rfl];have:st.files[(mget st.dir n).toNat]?=some f:=K;rw[this,← G,N]
  ·have C:¬nt=m:=λe=>hm e.symm
   rw[if_neg hm,if_neg C,decide_eq_false C,Bool.false_or];by_cases hmn:m=n
   ·rw[if_pos hmn,decide_eq_true hmn];rfl
   ·rw[if_neg hmn,decide_eq_false hmn,FC _ _ _ hmn];rfl
end
theorem used_look {st:St} (hi:Inv st) {M:Nat} (hM:∀n b,look st n=some b→b.length≤M):used st≤st.dir.length*M:=by
 have:∀l:Names,(∀p∈l,p∈st.dir)→usedL st l≤l.length*M:=by
  intro l
  induction l with
  | nil=>intro _;exact ZS _
  | cons p l ih =>
   intro h;have C:=ih (λq hq=>h q (QT _ hq));have B:=h p QP;have A:mhas st.dir p.1=true:=mhas_mem.2 ⟨p,B,rfl⟩;obtain⟨f,o,D,F⟩:=hi.idx A;have e:mget st.dir p.1=p.2:=Hz (λa ha b hb e=>by
    by_cases hab:a=b
    ·rw[hab]
    ·have:=hi.nd;rcases List.mem_iff_getElem.1 ha with⟨i,hi1,rfl⟩
     rcases List.mem_iff_getElem.1 hb with⟨j,hj1,rfl⟩
     rw[List.pairwise_iff_getElem]at this;rcases Nat.lt_trichotomy i j with h|h|h
     ·exact absurd e (this i j hi1 hj1 h)
     ·subst h;rfl
     ·exact absurd e.symm (this j i hj1 hi1 h)) (show (p.1,p.2)∈st.dir from B)
   have E:lenAt st p.2≤M:=by
    have:lenAt st p.2=f.1.length:=by
     unfold lenAt;unfold Fs.idx at o;rw[e]at o;rw[o]
    rw[this,← D];exact hM p.1 _ (by unfold look;rw[if_pos A])
   unfold usedL at C ⊢;rw[List.map_cons,List.sum_cons,QO,Nat.succ_mul];omega
 exact this st.dir (λ_ h=>h)
end Fs
namespace Fr
theorem G2 (l:List UInt8):0≤sum l∧sum l<4294967296:=I9 _ _ _
theorem Jc (n:Int) (r:List UInt8):(four n++r).length=4+r.length:=by rw[QS];rfl
theorem E9 {k:Int} {p:List UInt8} (hp:p.length≤8192) (r:List UInt8):num (bytes k p++r)=p.length:=by
 have:=GI (p.length:Int) (by omega) (by omega) ((inner k p++four (sum (inner k p)))++r);unfold bytes;rw[List.append_assoc];omega
theorem EL {k:Int} {p:List UInt8} (r:List UInt8):(bytes k p++r).take (9+p.length)=bytes k p:=by
 have h:9+p.length=(bytes k p).length:=by rw[bytes_len];omega
 rw[h,List.take_left]
theorem HY {k:Int} {p:List UInt8} (r:List UInt8):(bytes k p++r).drop (9+p.length)=r:=by
 have h:9+p.length=(bytes k p).length:=by rw[bytes_len];omega
 rw[h,List.drop_left]
theorem kind_bytes {k:Int} {p:List UInt8} (hk:1≤k∧k≤9):kind (bytes k p)=k:=by
 unfold kind;have:(bytes k p).getD 4 0=byte k:=rfl;rw[this,byte_val];omega
theorem pay_bytes {k:Int} {p:List UInt8}:pay (bytes k p)=p:=by
 unfold pay;rw[bytes_len,show p.length+9-9=p.length by omega];have:(bytes k p).drop 5=p++four (sum (inner k p)):=rfl;rw[this,List.take_left]
theorem Gw {k:Int} {p:List UInt8}:body (bytes k p)=inner k p:=by
 unfold body;rw[bytes_len,show p.length+9-8=(inner k p).length by unfold inner;simp];have:(bytes k p).drop 4=inner k p++four (sum (inner k p)):=rfl;rw[this,List.take_left]
theorem G0 {k:Int} {p:List UInt8}:(bytes k p).drop ((bytes k p).length-4)=four (sum (inner k p)):=by
 rw[bytes_len,show p.length+9-4=(four (p.length:Int)++inner k p).length by rw[Jc];unfold inner;simp;omega];unfold bytes;rw[← List.append_assoc,List.drop_left]
theorem dec_bytes {k:Int} {p:List UInt8} (h:encE k p=0):decE (bytes k p)=0∧(1≤k∧k≤9)∧p.length≤8192:=by
 unfold encE at h;by_cases h1:k<1∨9<k
 ·rw[if_pos h1]at h;cases h
 ·rw[if_neg h1]at h;by_cases h2:8192<p.length
  ·rw[if_pos h2]at h;cases h
  ·have B:1≤k∧k≤9:=by omega
   have D:p.length≤8192:=by omega
   refine⟨?_,B,D⟩;have C:=E9 (k:=k) D [];rw[List.append_nil]at C;have A:=G2 (inner k p);have o:=GI (sum (inner k p)) A.1 A.2 [];rw[List.append_nil]at o;unfold decE;rw[C,kind_bytes B,Gw,G0,o,bytes_len,if_neg (by omega),if_neg (by omega),if_neg (by simp)]
end Fr
namespace Fs
def keys (D:Names):List (List UInt8):=(D.map (·.1)).mergeSort (λx y=>decide (x≤y))
def crashDir (st:St) (k:Nat):Names:=(st.changes.take k).foldl doAll st.sure
def cut (f:List UInt8×Nat) (t:Option Int):List UInt8:=f.1.take (f.2+(match t with|some z=>(max 0 (min z ((f.1.length:Int)-f.2))).toNat|none=>0))
structure InvA (fs:List (List UInt8×Nat)) (d:Names):Prop where
 nd:d.Pairwise (λp q=>p.1≠q.1)
 inj:∀p∈d,∀q∈d,p.2=q.2→p.1=q.1
 known:∀p∈d,0≤p.2∧p.2<fs.length
 gd:∀p∈d,good p.1=true
 full:∀f∈fs,f.2=f.1.length
theorem keys_mem {D:Names} {n:List UInt8}:n∈keys D↔mhas D n=true:=by
 unfold keys;rw[List.mem_mergeSort,mhas_mem,List.mem_map]
theorem HQ {D:Names} (h:D.Pairwise (λp q=>p.1≠q.1)):(keys D).Nodup:=by
 unfold keys;refine (List.mergeSort_perm _ _).nodup_iff.2 ?_;rw[List.nodup_iff_pairwise_ne,List.pairwise_map];exact h
theorem keys_len (D:Names):(keys D).length=D.length:=by unfold keys;rw[List.length_mergeSort,QV]
end Fs
namespace Fs
structure Sound (st:St) (k:Nat):Prop where
 dir:∀p∈st.dir,(0≤p.2∧p.2<st.files.length)∧good p.1=true
 sure:∀p∈st.sure,(0≤p.2∧p.2<st.files.length)∧good p.1=true
 chg:∀l∈st.changes,(∀p∈l,p.2<st.files.length∧good p.1=true)∧l.length≤2
 nd:st.dir.Pairwise (λp q=>p.1≠q.1)
 nds:st.sure.Pairwise (λp q=>p.1≠q.1)
 full:∀f∈st.files,f.2≤f.1.length∧f.1.length≤65536
 room:0≤st.room∧st.room≤1048576
 nf:st.files.length≤k
 nc:st.changes.length≤k
 ndir:st.dir.length≤k
 nsure:st.sure.length≤k
theorem Sound.mono {st:St} {k j:Nat} (h:Sound st k) (hj:k≤j):Sound st j:={ h with nf:=QQ h.nf hj,nc:=QQ h.nc hj,ndir:=QQ h.ndir hj,nsure:=QQ h.nsure hj }
theorem Sound.small {st:St} {k:Nat} (h:Sound st k) (hk:k≤800000):Small st :=
 ⟨QQ h.nf hk,QQ h.ndir hk,QQ h.nc hk,λf hf=>(h.full f hf).2,h.room⟩
theorem Sound.new {room:Int} (h:0≤room∧room≤1048576) (k:Nat):Sound (new room) k :=
 ⟨λp hp=>by (cases hp),λp hp=>by (cases hp),λp hp=>by (cases hp),List.Pairwise.nil,List.Pairwise.nil,λp hp=>by (cases hp),h,ZS _,ZS _,ZS _,ZS _⟩
theorem CK (st:St):∃s l p,(step st).1={ st with steps:=s,left:=l,plan:=p }:=by
 unfold step;split
 ·exact⟨st.steps,st.left,st.plan,rfl⟩
 ·exact⟨_,_,_,rfl⟩
theorem good_len {n:List UInt8} (h:good n=true):n.length≤20:=by
 unfold good at h;simp only[Bool.and_eq_true,decide_eq_true_eq]at h;exact h.1.2
section
set_option linter.unusedSectionVars false
variable {st : St} {k : Nat} (h : Sound st k)
include h
theorem Sound.power (s l:Int) (p:List Int):Sound { st with steps:=s,left:=l,plan:=p } k:=⟨h.dir,h.sure,h.chg,h.nd,h.nds,h.full,h.room,h.nf,h.nc,h.ndir,h.nsure⟩
theorem Sound.step:Sound (Fs.step st).1 k:=by
 obtain⟨s,l,p,e⟩:=CK st;rw[e];exact h.power s l p
theorem Sound.turned {l:Names} (hl:∀p∈l,p.2<st.files.length∧good p.1=true) (hl2:l.length≤2):Sound (turned st l) (k+2):=by
 have key:∀(l d:Names),(∀p∈l,p.2<st.files.length∧good p.1=true)→(∀p∈d,(0≤p.2∧p.2<st.files.length)∧good p.1=true)→d.Pairwise (λp q=>p.1≠q.1) →
   (∀p∈doAll d l,(0≤p.2∧p.2<st.files.length)∧good p.1=true)∧(doAll d l).Pairwise (λp q=>p.1≠q.1):=by
  intro l
  induction l with
  | nil=>intro d _ h1 h2;exact⟨h1,h2⟩
  | cons c l ih =>
   intro d hl h1 h2;have o:=hl c QP;refine ih (doOne d c) (λp hp=>hl p (QT _ hp)) ?_ ?_
   ·unfold doOne;split
    ·exact λp hp=>h1 p (A2.1 hp).1
    ·intro p hp;rcases A7.1 hp with rfl|⟨hp,_⟩
     ·exact⟨⟨by simp only;omega,o.1⟩,o.2⟩
     ·exact h1 p hp
   ·unfold doOne;split
    ·exact C7 h2
    ·exact C0 h2
 obtain⟨B,A⟩:=key l st.dir hl h.dir h.nd;have:=doAll_len l st.dir;refine⟨B,h.sure,λl' hl'=>?_,A,h.nds,h.full,h.room,QQ h.nf (by omega),?_,?_,QQ h.nsure (by omega)⟩
 ·rcases ZI.1 hl' with hx|hx
  ·exact h.chg l' hx
  ·simp at hx;subst hx;exact⟨hl,hl2⟩
 ·show (st.changes++[l]).length≤_;have:=h.nc;simp;omega
 ·show (doAll st.dir l).length≤_;have:=h.ndir;omega
theorem Sound.files {fs:List (List UInt8×Nat)} (hn:fs.length=st.files.length) (hf:∀f∈fs,f.2≤f.1.length∧f.1.length≤65536):Sound { st with files:=fs } k :=
 ⟨by rw[hn];exact h.dir,by rw[hn];exact h.sure,by rw[hn];exact h.chg,h.nd,h.nds,hf,h.room,by rw[hn];exact h.nf,h.nc,h.ndir,h.nsure⟩
theorem Sound.create (n:List UInt8):Sound (create st n).1 (k+2):=by
 unfold Fs.create;split
 ·exact h.mono (by omega)
 split
 ·exact h.mono (by omega)
 split
 ·exact h.mono (by omega)
 split
 ·exact h.step.mono (by omega)
 rename_i hg _ _ _;have A:good n=true:=by simpa using hg
 obtain⟨s,l,p,e⟩:=CK st;rw[e];have o:Sound { st with steps:=s,left:=l,plan:=p,files:=st.files++[([],0)] } (k+1):=by
  have B:(st.files++[(([]:List UInt8),0)]).length=st.files.length+1:=by simp
  refine⟨?_,?_,?_,h.nd,h.nds,?_,h.room,?_,Nat.le_succ_of_le h.nc,Nat.le_succ_of_le h.ndir,Nat.le_succ_of_le h.nsure⟩
  ·intro p hp;have:=h.dir p hp;exact⟨⟨this.1.1,by show p.2<((st.files++[(([]:List UInt8),0)]).length:Int);rw[B];omega⟩,this.2⟩
  ·intro p hp;have:=h.sure p hp;exact⟨⟨this.1.1,by show p.2<((st.files++[(([]:List UInt8),0)]).length:Int);rw[B];omega⟩,this.2⟩
  ·intro l hl;exact⟨λp hp=>⟨by show p.2<((st.files++[(([]:List UInt8),0)]).length:Int);rw[B];have:=((h.chg l hl).1 p hp).1;omega,((h.chg l hl).1 p hp).2⟩,(h.chg l hl).2⟩
  ·intro f hf;rcases ZI.1 hf with hf|hf
   ·exact h.full f hf
   ·simp at hf;subst hf;simp
  ·show (st.files++[(([]:List UInt8),0)]).length≤_;rw[B];have:=h.nf;omega
 refine⟨?_,o.sure,?_,C0 h.nd,h.nds,o.full,h.room,Nat.le_succ_of_le o.nf,?_,?_,QQ h.nsure (by omega)⟩
 ·intro p hp;rcases A7.1 hp with rfl|⟨hp,_⟩
  ·exact⟨⟨by simp,by simp;omega⟩,A⟩
  ·exact o.dir p hp
 ·intro l hl;rcases ZI.1 hl with hx|hx
  ·exact o.chg l hx
  ·simp at hx;subst hx;exact⟨λp hp=>by simp at hp;subst hp;exact⟨by simp;omega,A⟩,by simp⟩
 ·show (st.changes++[_]).length≤_;have:=h.nc;simp;omega
 ·show (mput st.dir n _).length≤_;have:=F1 st.dir n st.files.length;have:=h.ndir;omega
theorem Sound.grow (i:Nat) (b:List UInt8) (hb:∀f,st.files[i]?=some f→f.1.length+b.length≤65536):Sound { st with files:=grow st.files i b } k:=by
 unfold Fs.grow;cases hf:st.files[i]? with
 | none=>exact h
 | some f =>
  refine h.files (by simp) (λg hg=>?_);rcases List.mem_or_eq_of_mem_set hg with hg|rfl
  ·exact h.full g hg
  ·have:=h.full f (QZ hf);have:=hb f hf;simp;omega
theorem Sound.append (n b:List UInt8):Sound (append st n b).1 k:=by
 unfold Fs.append;split
 ·exact h
 split
 ·exact h
 rename_i ho hl;have o:∀(c:List UInt8),c.length≤b.length→∀f,st.files[Fs.idx st n]?=some f→f.1.length+c.length≤65536:=by
  intro c hc f hf;unfold fileAt at hl;rw[hf]at hl;simp only at hl;omega
 obtain⟨s,l,p,e⟩:=CK st;split
 ·split
  ·rw[e];exact (h.grow _ _ (o _ (by simp;omega))).power s l p
  ·exact h.step
 split
 ·exact h.step
 ·rw[e];exact (h.grow _ _ (o _ (QM _))).power s l p
theorem Sound.flush (i:Nat):Sound { st with files:=flush st.files i } k:=by
 unfold Fs.flush;cases hf:st.files[i]? with
 | none=>exact h
 | some f =>
  refine h.files (by simp) (λg hg=>?_);rcases List.mem_or_eq_of_mem_set hg with hg|rfl
  ·exact h.full g hg
  ·have:=h.full f (QZ hf);exact⟨QM _,this.2⟩
theorem Sound.sync (n:List UInt8):Sound (sync st n).1 k:=by
 unfold Fs.sync;split
 ·exact h
 split
 ·exact h.step
 ·obtain⟨s,l,p,e⟩:=CK st;rw[e];exact (h.flush _).power s l p
theorem Sound.syncDir:Sound (syncDir st).1 k:=by
 unfold Fs.syncDir;split
 ·exact h.step
 ·obtain⟨s,l,p,e⟩:=CK st;rw[e];exact⟨h.dir,h.dir,λl hl=>(by cases hl),h.nd,h.nd,h.full,h.room,h.nf,ZS _,h.ndir,h.ndir⟩
theorem Sound.remove (n:List UInt8):Sound (remove st n).1 (k+2):=by
 unfold Fs.remove;split
 ·exact h.mono (by omega)
 rename_i ho;split
 ·exact h.step.mono (by omega)
 ·have o:good n=true:=by
   cases hx:good n
   ·exact absurd (by unfold openE;rw[if_pos hx];decide) ho
   ·rfl
  refine h.step.turned (λp hp=>?_) (by simp);simp at hp;subst hp;exact⟨by simp only;omega,o⟩
theorem Sound.rename (a b:List UInt8):Sound (rename st a b).1 (k+2):=by
 unfold Fs.rename;split
 ·exact h.mono (by omega)
 rename_i hg;split
 ·exact h.mono (by omega)
 rename_i hh;split
 ·exact h.step.mono (by omega)
 ·have o:good a=true∧good b=true:=by
   rw[Bool.not_eq_false,Bool.and_eq_true]at hg;exact hg
  obtain⟨p,A,C,B⟩:=mget_mem (l:=st.dir) (k:=a) (by simpa using hh);refine h.step.turned (λq hq=>?_) (by simp);rw[step_files];simp at hq;rcases hq with rfl|rfl
  ·exact⟨by simp only;omega,o.1⟩
  ·exact⟨by simp only;rw[← B];exact (h.dir p A).1.2,o.2⟩
theorem Df:∀(l d:Names),(∀p∈l,p.2<st.files.length∧good p.1=true)→(∀p∈d,(0≤p.2∧p.2<st.files.length)∧good p.1=true)→d.Pairwise (λp q=>p.1≠q.1) →
  (∀p∈doAll d l,(0≤p.2∧p.2<st.files.length)∧good p.1=true)∧(doAll d l).Pairwise (λp q=>p.1≠q.1)
 | [],d,_,h1,h2=>⟨h1,h2⟩
 | c::l,d,hl,h1,h2=>by
  have o:=hl c QP;refine Df l (doOne d c) (λp hp=>hl p (QT _ hp)) ?_ ?_
  ·unfold doOne;split
   ·exact λp hp=>h1 p (A2.1 hp).1
   ·intro p hp;rcases A7.1 hp with rfl|⟨hp,_⟩
    ·exact⟨⟨by simp only;omega,o.1⟩,o.2⟩
    ·exact h1 p hp
  ·unfold doOne;split
   ·exact C7 h2
   ·exact C0 h2
theorem Sound.crashDir (j:Nat):(∀p∈Fs.crashDir st j,(0≤p.2∧p.2<st.files.length)∧good p.1=true)∧(Fs.crashDir st j).Pairwise (λp q=>p.1≠q.1)∧(Fs.crashDir st j).length≤k+2*j:=by
 unfold Fs.crashDir;have key:∀(L:List Names) (d:Names),(∀l∈L,(∀p∈l,p.2<st.files.length∧good p.1=true)∧l.length≤2)→(∀p∈d,(0≤p.2∧p.2<st.files.length)∧good p.1=true)→d.Pairwise (λp q=>p.1≠q.1) →
   (∀p∈L.foldl doAll d,(0≤p.2∧p.2<st.files.length)∧good p.1=true)∧(L.foldl doAll d).Pairwise (λp q=>p.1≠q.1)∧(L.foldl doAll d).length≤d.length+2*L.length:=by
  intro L
  induction L with
  | nil=>intro d _ h1 h2;exact⟨h1,h2,QM _⟩
  | cons l L ih =>
   intro d hL h1 h2;obtain⟨A,B⟩:=Df h l d (hL l QP).1 h1 h2;obtain⟨a1,a2,o⟩:=ih (doAll d l) (λx hx=>hL x (QT _ hx)) A B;refine⟨a1,a2,QQ o ?_⟩;have:=doAll_len l d;have:=(hL l QP).2;rw[QO];omega
 obtain⟨a1,a2,o⟩:=key (st.changes.take j) st.sure (λl hl=>h.chg l (List.mem_of_mem_take hl)) h.sure h.nds;refine⟨a1,a2,QQ o ?_⟩;have:=h.nsure;have:(st.changes.take j).length≤j:=by simp;omega
 omega
end
end Fs
open Go.Maps Go.WideMaps
abbrev Dq (w:World) (v:Value) (l:List Int):Prop:=Ints w v l
theorem Dq.ints {w:World} {v:Value} {l:List Int} (h:Dq w v l):Ints w v l:=h
theorem AZ.keep1 {w w':World} {a:Option Addr} {n c:Nat} {l:List UInt8} (h:AZ w (.slice a n c) l) (hs:w.heap.size≤w'.heap.size) (hk:∀b,a=some b→b.block<w.heap.size→w'.heap[b.block]?=w.heap[b.block]?):AZ w' (.slice a n c) l:=by
 obtain⟨I,cap,C,E,G,D⟩:=h;simp only[Value.slice.injEq]at C;obtain⟨rfl,A,rfl⟩:=C;refine⟨a,c,by rw[A],E,G,λi x hi=>?_⟩;obtain⟨b,o,e,B,H⟩:=D i x hi;have F:w'.heap[b]?=w.heap[b]?:=hk ⟨b,o,none⟩ e B;exact⟨b,o,e,ZT B hs,by rw[World.cell?_of_block F];exact H⟩
structure PO (w:World) (base:Nat) (v:Value) (ps:List (List UInt8×Value)):Prop where
 row:w.ownsRow base 41 1 v ps.length (ps.map (·.2))
 pay:∀p∈ps,AZ w p.2 p.1∧∃g n c,p.2=.slice (some ⟨g,0,none⟩) n c∧g<w.heap.size∧v.ownBlock≠some g
theorem PO.nil (w:World) (base:Nat):PO w base (.slice none 0 0) []:=⟨World.ownsRow_nil _ _ _ _,λp h=>by simp at h⟩
theorem PO.keep {w w':World} {base:Nat} {v:Value} {ps:List (List UInt8×Value)} (h:PO w base v ps) (hb:Below w.heap.size w w'):PO w' base v ps :=
 ⟨AN h.row (λg hg=>hb.block g (h.row.lt g hg).2),λp hp=>by
  obtain⟨A,g,n,c,B,o,C⟩:=h.pay p hp;exact⟨A.below hb,g,n,c,B,ZT o hb.size,C⟩⟩
theorem PO.more {w w5:World} {base:Nat} {v v':Value} {ps:List (List UInt8×Value)} {l:List UInt8} {g n c:Nat} (h:PO w base v ps) (hx:AZ w (.slice (some ⟨g,0,none⟩) n c) l) (hg:g<w.heap.size) (hne:v.ownBlock≠some g)
  (hrow:w5.ownsRow base 41 1 v' (ps.length+1) (ps.map (·.2)++[.slice (some ⟨g,0,none⟩) n c])) (hgr:w.grownBy w5 v.ownBlock) (hloc:v'.ownBlock=v.ownBlock∨v'.ownBlock=some w.heap.size) :
  PO w5 base v' (ps++[(l,.slice (some ⟨g,0,none⟩) n c)]):=by
 have o:∀(y:Value) (l:List UInt8),AZ w y l→(∃g n c,y=.slice (some ⟨g,0,none⟩) n c∧g<w.heap.size∧v.ownBlock≠some g)→AZ w5 y l∧∃g n c,y=.slice (some ⟨g,0,none⟩) n c∧g<w5.heap.size∧v'.ownBlock≠some g:=by
  rintro y l hy ⟨g,n,c,rfl,h3,h4⟩;refine⟨hy.keep1 hgr.size (λb e hb=>?_),g,n,c,rfl,ZT h3 hgr.size,?_⟩
  ·simp at e;subst e;exact hgr.block g h3 (λe=>h4 e.symm)
  ·rcases hloc with e|e
   ·rw[e];exact h4
   ·rw[e];intro e2;simp at e2;omega
 refine⟨?_,λp hp=>?_⟩
 ·rw[QS,List.map_append];exact hrow
 ·rcases ZI.1 hp with hp|hp
  ·exact o p.2 p.1 (h.pay p hp).1 (h.pay p hp).2
  ·simp at hp;subst hp;exact o _ l hx ⟨g,n,c,rfl,hg,hne⟩
theorem PO.prts {w:World} {base:Nat} {v:Value} {ps:List (List UInt8×Value)} (h:PO w base v ps):CC w v (ps.map (·.1)):=by
 rcases h.row.2 with⟨h1,h2⟩|⟨g,cap,cur,h1,h2,h3,h4,h5⟩
 ·exact⟨none,0,by rw[h1,QV,h2],by rw[QV];omega,λi x hx=>by
   have:=(List.getElem?_eq_some_iff.1 hx).1;rw[QV]at this;omega⟩
 ·refine⟨some ⟨g,0,none⟩,cap,by rw[h1,QV],by rw[QV];exact h4,λi x hx=>?_⟩;rw[ZF]at hx;cases hp:ps[i]? with
  | none=>rw[hp]at hx;cases hx
  | some p =>
   rw[hp]at hx;simp at hx;subst hx;have o:=World.ownsRow.cells h.row (g:=g) (by rw[h1];rfl) i p.2 (by rw[ZF,hp];rfl);rw[addr_add]at o;exact⟨g,0,p.2,rfl,AC h3,by rw[Nat.zero_add];exact o,(h.pay p (QZ hp)).1⟩
def A8 (l:List Int):List Value:=l.map λx=>.int .i64 x
def Am (w:World) (base:Nat) (v:Value) (l:List Int):Prop:=w.ownsRow base 3 1 v l.length (A8 l)
theorem LD:(Tryz.prog.info? 3).map (λi=>(i.zero,i.size,i.bytes))=some (some (.int .i64 0),1,8):=by kernel_rfl
theorem Fh (l:List Int):∀u∈A8 l,u.oneCell'=true:=λu hu=>by
 obtain⟨x,_,rfl⟩:=List.mem_map.1 hu;rfl
theorem Am.nums {w:World} {base:Nat} {v:Value} {l:List Int} (h:Am w base v l):Dq w v l:=by
 have o:=λg hg=>World.ownsRow.cells (g:=g) h hg
 rcases h.2 with⟨h1,h2⟩|⟨g,cap,cur,h1,hg,hb,hc,hm,_,_⟩
 ·exact⟨none,0,by rw[h1,h2],λi x hx=>by
   have:=(List.getElem?_eq_some_iff.1 hx).1;omega⟩
 ·refine⟨some ⟨g,0,none⟩,cap,h1,λi x hx=>⟨g,0,rfl,AC hb,?_⟩⟩;have:=o g (by rw[h1];rfl) i (.int .i64 x) (by simp[A8,hx]);rw[addr_add]at this;rw[Nat.zero_add];exact this
theorem Am.keep {w w':World} {base:Nat} {v:Value} {l:List Int} (h:Am w base v l) (hb:Below w.heap.size w w'):Am w' base v l :=
 AN h (λg hg=>hb.block g (h.lt g hg).2)
theorem Am.one (w:World) (x:Int) (base:Nat) (hb:base≤w.heap.size):Am (w.alloc (.cells #[.int .i64 x] 3)) base (.slice (some ⟨w.heap.size,0,none⟩) 1 1) [x] :=
 World.ownsRow_lit (base:=base) (e:=3) (size:=1) w #[.int .i64 x] 1 hb (by unfold maxLen;omega) rfl
theorem AX {ops:Array Oper} {rest:List Oper} {o:Oper} {a:Act} {w:World} {Q:Exit→Act→World→Prop} (hgd:o.guard=none) (s x:Operand)
  (ho:o.op=.call { callee:=.builtin .append,args:=#[s,x],argTypes:=#[25,25] })
  (base:Nat) (v:Value) (l:List Int) (hs:a.eval s=v) (hown:Am w base v l) (xv:Value) (news:List Int) (hx:a.eval x=xv) (hB:Dq w xv news)
  (hne:0<news.length) (h63:l.length+news.length≤2000000000) (hbase:base≤w.heap.size)
  (h:∀v' w',Am w' base v' (l++news)→w.grownBy w' v.ownBlock→(v'.ownBlock=v.ownBlock∨v'.ownBlock=some w.heap.size)→wpList Tryz.prog ops Q rest (a.put o.dst v') w') :
  wpList Tryz.prog ops Q (o::rest) a w:=by
 obtain⟨J,I,D,C,B⟩:=info_parts LD;obtain⟨G,L,rfl⟩:=hB.form;have A:A8 (l++news)=A8 l++A8 news:=by simp[A8]
 cases G with
 | none =>
  obtain⟨y,F⟩:∃y,news[0]?=some y:=⟨_,ZG hne⟩
  obtain⟨_,_,e,_⟩:=hB.at F;cases e
 | some ad =>
  refine wpList_append_own_at w hgd s x _ ho base 3 J (.int .i64 0) 1 8 Tryz.underlying25 I D C B rfl (by decide) v l.length (A8 l) hs hown ad news.length L (A8 news) hx (by simp[A8]) ?_ (Fh news) (by unfold maxLen;omega) (by omega) hbase ?_
  ·intro j u hj;unfold A8 at hj;rw[ZF]at hj;cases hx2:news[j]? with
   | none=>rw[hx2]at hj;cases hj
   | some y =>
    rw[hx2]at hj;simp at hj;obtain⟨b,E,K,M,H⟩:=hB.at hx2;cases K;rw[DJ,← hj];exact H
  ·intro v' w' h1 h2 _ h4;exact h v' w' (by unfold Am;rw[QS,A];exact h1) h2 h4
theorem Am.form3 {w:World} {base:Nat} {v:Value} {l:List Int} (h:Am w base v l):∃a n c,v=.slice a n c∧Hid (n=l.length):=by
 obtain⟨a,c,e⟩:=BC h;exact⟨a,_,c,e,QA rfl⟩
theorem D1:(Tryz.prog.info? 41).map (λi=>(i.zero,i.size,i.bytes))=some (some (.slice none 0 0),1,24):=by kernel_rfl
theorem Gh (w:World) (s:ByteArray) (cap:Nat) (hc:s.size≤cap) (fz:Nat×Nat):AZ (w.drew.alloc (.cells (bytesRow s cap) 5 fz)) (.slice (some ⟨w.heap.size,0,none⟩) s.size cap) s.data.toList:=by
 have A:s.data.toList.length=s.size:=by simp
 refine⟨some ⟨w.heap.size,0,none⟩,cap,by rw[A],by rw[A];exact hc,(λe=>by cases e),λi x hi=>⟨w.heap.size,0,rfl,?_,?_⟩⟩
 ·show w.heap.size<(w.drew.alloc _).heap.size;simp
 ·have B:(w.drew.alloc (.cells (bytesRow s cap) 5 fz)).heap[w.heap.size]?=some (.cells (bytesRow s cap) 5 fz):=AK w.drew _;rw[Nat.zero_add,cell_of_row _ _ _ _ _ _ B];have o:=(List.getElem?_eq_some_iff.1 hi).1;unfold bytesRow;rw[Array.getElem?_append_left (by simpa using o)];rw[Array.getElem?_map];have:s.data[i]?=some x:=by rw[← Array.getElem?_toList];exact hi
  rw[this];rfl
theorem Gi (w:World) (o:Obj) (t:TypeId) (v:Value):∀j u,[v][j]?=some u→(((w.alloc o).alloc (.cells #[v] t)).drew).cell? ((⟨w.heap.size+1,0,none⟩:Addr).add j)=some u:=by
 intro j u hj;have e:(w.alloc o).heap.size=w.heap.size+1:=by simp
 rw[addr_add,← e];exact Ak (w.alloc o) #[v] t j u (by simpa using hj)
theorem Cy (w:World) (o p:Obj):Below w.heap.size w ((w.alloc o).alloc p).drew:=Below.drew (((Below.refl _ _).alloc (QM _) _).alloc (by simp) _)
theorem KN {w:World} {o:Obj} {v:Value} {l:List UInt8} (h:AZ (w.drew.alloc o) v l) (p:Obj):AZ (((w.alloc o).alloc p).drew) v l :=
 h.keep (by simp) (λk hk=>by
  show ((w.alloc o).alloc p).heap[k]?=(w.alloc o).heap[k]?;exact Lib.alloc_old _ _ _ hk)
theorem LE {w:World} {base:Nat} {v:Value} {ps:List (List UInt8×Value)} (h:PO w base v ps):v.ownBlock≠some w.heap.size:=λe=>by
 have:=(h.row.lt _ e).2;omega
open Go.Maps Go.WideMaps
namespace Sg
def create (st:Fs.St) (id:Int):Fs.St×Int :=
 if nameE id≠0 then (st,nameE id) else if (Fs.create st (nameB id)).2≠0 then Fs.create st (nameB id) else Fs.syncDir (Fs.create st (nameB id)).1
def append (st:Fs.St) (id k:Int) (p:List UInt8):Fs.St×Int :=
 if nameE id≠0 then (st,nameE id) else if Fr.encE k p≠0 then (st,Fr.encE k p)
 else if (Fs.append st (nameB id) (Fr.bytes k p)).2≠0 then Fs.append st (nameB id) (Fr.bytes k p) else Fs.sync (Fs.append st (nameB id) (Fr.bytes k p)).1 (nameB id)
end Sg
theorem Bw (base B:Nat) (st:Fs.St) (V:FsV) (own:Nat→Tag) (id:Int) (w:World) (h:Aa base B st V own w) (hE:Aq base w) (hbase:base≤w.heap.size) (hS:Fs.Small st) :
  Calls Tryz.prog 60 #[.pointer (some ⟨B,0,none⟩),.int .i64 id] w λe w'=>e=.returned (.int .i64 (Sg.create st id).2)∧AQ base B (Sg.create st id).1 own w w':=by
 have H:=QA h;have R:=QA hE;have P:=QA hS;clear h hE hS;go_enter Tryz.func60,Tryz.ntmps60;go_wp2_with fail;refine (Bn id w base R.out).mono ?_;rintro e w1 ⟨rfl,hb1⟩;have H1:=QA (H.out.kept (AB hb1));have G:=QA hb1;obtain⟨E,hE⟩:∃E,E=Sg.nameE id:=⟨_,rfl⟩
 obtain⟨Q,A⟩:∃t:ByteArray,t=⟨(Sg.nameB id).toArray⟩:=⟨_,rfl⟩
 rw[← A,← hE];have Z:Hid (Q.data.toList=Sg.nameB id):=by rw[A];exact QA rfl
 have aa:Q.size≤25:=by rw[A];exact D9 id
 have M:=QA hE;clear hE A hb1;by_cases hE0:E=0
 ·subst hE0;go_wp2_with fail;refine (EV base B st V own Q w1 H1.out (by omega) (by have:=P.out.files;omega) (by have:=P.out.changes;omega) (by have:=P.out.dir;omega)).mono ?_;rintro e w2 ⟨rfl,hp2⟩;rw[Z.out]at hp2 ⊢;obtain⟨Y,o,X,I,J⟩:=hp2;have F:=QA ((AB (own:=own) (T:=(·≠.other)) G.out).trans J);have D:Hid (∀k,k<w.heap.size→o k=own k):=QA (λk hk=>I k (ZT hk G.out.size));have W:=QA X;clear X I J;obtain⟨C,N⟩:∃C,C=(Fs.create st (Sg.nameB id)).2:=⟨_,rfl⟩
  rw[← N];have S:=QA N;clear N;by_cases hC0:C=0
  ·subst hC0;have K:Hid (Sg.create st id=Fs.syncDir (Fs.create st (Sg.nameB id)).1):=by
    unfold Sg.create;rw[if_neg (by rw[← M.out];simp),if_neg (by rw[← S.out];simp)];exact QA rfl
   go_wp2_with fail;refine (CX base B _ Y o w2 W.out).mono ?_;rintro e w3 ⟨rfl,hp3⟩;rw[← K.out]at hp3 ⊢;have O:=QA hp3;clear hp3;go_wp2_with fail;go_ret;exact⟨rfl,AQ.step F.out D.out O.out⟩
  ·have K:Hid (Sg.create st id=Fs.create st (Sg.nameB id)):=by
    unfold Sg.create;rw[if_neg (by rw[← M.out];simp),if_pos (by rw[← S.out];exact hC0)];exact QA rfl
   have U:(C != 0)=true:=by rw[bne_iff_ne];exact hC0
   have L:(C==0)=false:=by rw[beq_eq_false_iff_ne];exact hC0
   clear hC0;go_wp2_with fail;go_ret;rw[K.out];exact⟨by rw[← S.out];rfl,Y,o,W.out,D.out,F.out⟩
 ·have K:Hid (Sg.create st id=(st,Sg.nameE id)):=by
   unfold Sg.create;rw[if_pos (by rw[← M.out];exact hE0)];exact QA rfl
  have U:(E != 0)=true:=by rw[bne_iff_ne];exact hE0
  have L:(E==0)=false:=by rw[beq_eq_false_iff_ne];exact hE0
  clear hE0;go_wp2_with fail;go_ret;rw[K.out];exact⟨by rw[← M.out];rfl,AQ.of H.out G.out⟩
theorem BM (base B:Nat) (st:Fs.St) (V:FsV) (own:Nat→Tag) (id k:Int) (pv:Value) (ls:List (List UInt8)) (w:World) (h:Aa base B st V own w) (hE:Aq base w) (hbase:base≤w.heap.size) (hS:Fs.Small st)
  (hP:CC w pv ls) (hl:ls.length≤1000000000) (hs:∀l∈ls,l.length≤1000000000) (hhow:(Fs.step st).2.1≤9223372036854775807) :
  Calls Tryz.prog 39 #[.pointer (some ⟨B,0,none⟩),.int .i64 id,.int .i64 k,pv] w λe w'=>e=.returned (.int .i64 (Sg.append st id k ls.flatten).2)∧AQ base B (Sg.append st id k ls.flatten).1 own w w':=by
 have H:=QA h;have ad:=QA hE;have Y:=QA hS;have HP:=QA hP;obtain⟨pa,pc,ag⟩:=hP.form;subst ag;clear h hE hS hP;go_enter Tryz.func39,Tryz.ntmps39;go_wp2_with fail;refine (Bn id w base ad.out).mono ?_;rintro e w1 ⟨rfl,hb1⟩;have H1:=QA (H.out.kept (AB hb1));have L:=QA hb1;have ab:=QA (HP.out.below hb1);obtain⟨E,hE⟩:∃E,E=Sg.nameE id:=⟨_,rfl⟩
 obtain⟨Z,D⟩:∃t:ByteArray,t=⟨(Sg.nameB id).toArray⟩:=⟨_,rfl⟩
 rw[← D,← hE];have HN:Hid (Z.data.toList=Sg.nameB id):=by rw[D];exact QA rfl
 have au:Z.size≤25:=by rw[D];exact D9 id
 have R:=QA hE;clear hE D hb1;by_cases hE0:E=0
 ·subst hE0;go_wp2_with fail;refine (Ed k _ ls w1 ab.out hl hs).mono ?_;rintro e w2 ⟨hb2,hres⟩;have A:=QA (L.out.trans (hb2.mono L.out.size));have H2:=QA (H.out.kept (AB A.out));have aj:=QA hb2;clear hb2;rcases hres with⟨hc0,v2,rfl,ho⟩|⟨hc0,rfl⟩
  ·obtain⟨g,c,ae⟩:=Bj ho (by rw[Fr.bytes_len];omega);subst ae;have Q:Hid (BytesIn w2 own (.slice (some ⟨g,0,none⟩) (Fr.bytes k ls.flatten).length c) (Fr.bytes k ls.flatten)):=by
    have S:=ho.lt g rfl;obtain⟨_,c9,e9,ao⟩:=ho.byts.form;have X:(Fr.bytes k ls.flatten).length≤c:=by simp only[Value.slice.injEq]at e9;omega
    refine QA ⟨g,0,c,rfl,X,S.2,H1.out.fresh g S.1,λi x hx=>?_⟩;obtain⟨b,ap,e1,e2,e3⟩:=ho.byts.at hx;cases e1;exact e3
   have ac:Hid ((Fr.bytes k ls.flatten).length≤1000000):=by
    have O:=hc0;unfold Fr.encE at O;rw[Fr.bytes_len];split at O
    ·cases O
    ·split at O
     ·cases O
     ·exact QA (by omega)
   have HC:=QA hc0;obtain⟨N,hN⟩:∃N,N=(Fr.bytes k ls.flatten).length:=⟨_,rfl⟩
   rw[← hN]at Q ⊢;have ay:=QA hN;clear hc0 ho hN;go_wp2_with fail;refine (EE base B st V own Z _ (Fr.bytes k ls.flatten) w2 H2.out Q.out (by omega) Y.out.file ac.out (by have:=Y.out.dir;omega) (by have:=Y.out.files;omega) Y.out.room hhow (by have:=A.out.size;omega)).mono ?_;rintro e w3 ⟨rfl,hp3⟩;rw[HN.out]at hp3 ⊢;obtain⟨V3,o,h3,P,U⟩:=hp3;have G:=QA ((AB (own:=own) (T:=(·≠.other)) A.out).trans U);have F:Hid (∀k,k<w.heap.size→o k=own k):=QA (λk hk=>P k (ZT hk A.out.size));have H3:=QA h3;clear h3 P U;obtain⟨C,K⟩:∃C,C=(Fs.append st (Sg.nameB id) (Fr.bytes k ls.flatten)).2:=⟨_,rfl⟩
   rw[← K];have M:=QA K;clear K;by_cases hC0:C=0
   ·subst hC0;have I:Hid (Sg.append st id k ls.flatten=Fs.sync (Fs.append st (Sg.nameB id) (Fr.bytes k ls.flatten)).1 (Sg.nameB id)):=by
     unfold Sg.append;rw[if_neg (by rw[← R.out];simp),if_neg (by rw[HC.out];simp),if_neg (by rw[← M.out];simp)];exact QA rfl
    go_wp2_with fail;refine (F2 base B _ V3 o Z w3 H3.out (by omega)).mono ?_;rintro e w4 ⟨rfl,hp4⟩;rw[HN.out,← I.out]at hp4;rw[HN.out,← I.out];have ah:=QA hp4;clear hp4;go_wp2_with fail;go_ret;exact⟨rfl,AQ.step G.out F.out ah.out⟩
   ·have I:Hid (Sg.append st id k ls.flatten=Fs.append st (Sg.nameB id) (Fr.bytes k ls.flatten)):=by
     unfold Sg.append;rw[if_neg (by rw[← R.out];simp),if_neg (by rw[HC.out];simp),if_pos (by rw[← M.out];exact hC0)];exact QA rfl
    have W:(C != 0)=true:=by rw[bne_iff_ne];exact hC0
    have J:(C==0)=false:=by rw[beq_eq_false_iff_ne];exact hC0
    clear hC0;go_wp2_with fail;go_ret;rw[I.out];exact⟨by rw[← M.out];rfl,V3,o,H3.out,F.out,G.out⟩
  ·have I:Hid (Sg.append st id k ls.flatten=(st,Fr.encE k ls.flatten)):=by
    unfold Sg.append;rw[if_neg (by rw[← R.out];simp),if_pos hc0];exact QA rfl
   obtain⟨C,K⟩:∃C,C=Fr.encE k ls.flatten:=⟨_,rfl⟩
   rw[← K]at hc0 ⊢;have HC:=QA K;have W:(C != 0)=true:=by rw[bne_iff_ne];exact hc0
   have J:(C==0)=false:=by rw[beq_eq_false_iff_ne];exact hc0
   clear hc0 K;go_wp2_with fail;go_ret;rw[I.out];exact⟨by rw[← HC.out];rfl,AQ.of H.out A.out⟩
 ·have I:Hid (Sg.append st id k ls.flatten=(st,Sg.nameE id)):=by
   unfold Sg.append;rw[if_pos (by rw[← R.out];exact hE0)];exact QA rfl
  have W:(E != 0)=true:=by rw[bne_iff_ne];exact hE0
  have J:(E==0)=false:=by rw[beq_eq_false_iff_ne];exact hE0
  clear hE0;go_wp2_with fail;go_ret;rw[I.out];exact⟨by rw[← R.out];rfl,AQ.of H.out L.out⟩
end Go.Proofs.YtjldahcckmmenaaGreatDoor
