/-
  The file system as names and their bytes, in calm weather (plain). The file system: Arm and Plan, walked. A crash: what is left (plain). What any operation of the file system keeps, in any weather (plain). The names' order; what a crash leaves, name by name (plain). Frames: what is encoded is decoded (no program in sight). Numbers and parts in memory: rows of the call's own. The file system: Plan, walked.
-/
import Derived.Test.YtmlekglfdiacpaaGreatDoorZp5
import Derived.Test.YtmlekglfdiacpaaGreatDoorZp10
import Derived.Laws.IdiomStrings
open Go.Lib renaming hid → QA
open List renaming length_cons → QO, mem_cons_self → QP, length_append → QS, mem_cons_of_mem → QT, length_map → QV, mem_of_getElem? → QZ, getElem?_map → ZF, getElem?_eq_getElem → ZG, mem_append → ZI, getElem?_append_left → ZL, append_nil → ZM, mem_cons → ZX
open Nat renaming le_refl → QM, le_trans → QQ, zero_le → ZS, lt_of_lt_of_le → ZT
namespace Go.Proofs.YtmlekglfdiacpaaGreatDoor
set_option maxRecDepth 100000
set_option maxHeartbeats 4000000
set_option linter.unusedSimpArgs false
set_option linter.unusedVariables false
open Go Go.RowKit
namespace Fs
theorem Ew (x:List UInt8×Int) (n:List UInt8):∀l:Names,mhas l x.1=false→(mins x l).find? (λp=>p.1==n)=if x.1=n then some x else l.find? (λp=>p.1==n)
 | [],_=>by
  unfold mins;by_cases h:x.1=n
  ·rw[if_pos h,List.find?_cons_of_pos (by simpa using h)]
  ·rw[if_neg h,List.find?_cons_of_neg (by simpa using h)]
 | y::r,hh=>by
  have o:mhas r x.1=false:=by unfold mhas at hh ⊢;rw[List.any_cons,Bool.or_eq_false_iff]at hh;exact hh.2
  have A:y.1≠x.1:=by unfold mhas at hh;rw[List.any_cons,Bool.or_eq_false_iff]at hh;simpa using hh.1
  unfold mins;split
  ·by_cases h:x.1=n
   ·rw[if_pos h,List.find?_cons_of_pos (by simpa using h)]
   ·rw[if_neg h,List.find?_cons_of_neg (by simpa using h)]
  ·by_cases h:y.1=n
   ·rw[List.find?_cons_of_pos (by simpa using h),if_neg (λe=>A (by rw[h,e])),List.find?_cons_of_pos (by simpa using h)]
   ·rw[List.find?_cons_of_neg (by simpa using h),Ew x n r o,List.find?_cons_of_neg (by simpa using h)]
theorem Bv (l:Names) (n:List UInt8):mhas l n=(l.find? (λp=>p.1==n)).isSome:=by
 unfold mhas;rw[Bool.eq_iff_iff,List.any_eq_true];constructor
 ·rintro⟨p,A,o⟩;rw[List.find?_isSome];exact⟨p,A,o⟩
 ·intro h;rw[List.find?_isSome]at h;obtain⟨p,A,o⟩:=h;exact⟨p,A,o⟩
theorem CP (l:Names) (k n:List UInt8):(mdel l k).find? (λp=>p.1==n)=if n=k then none else l.find? (λp=>p.1==n):=by
 unfold mdel
 induction l with
 | nil=>simp
 | cons y r ih =>
  by_cases hk:y.1=k
  ·rw[List.filter_cons_of_neg (by simp[hk]),ih];by_cases h:n=k
   ·rw[if_pos h,if_pos h]
   ·rw[if_neg h,if_neg h,List.find?_cons_of_neg (by simp[hk];exact λe=>h e.symm)]
  ·rw[List.filter_cons_of_pos (by simp[hk])];by_cases h:y.1=n
   ·rw[List.find?_cons_of_pos (by simpa using h),if_neg (λe=>hk (h.trans e)),List.find?_cons_of_pos (by simpa using h)]
   ·rw[List.find?_cons_of_neg (by simpa using h),ih,List.find?_cons_of_neg (by simpa using h)]
theorem GH (l:Names) (k:List UInt8):mhas (mdel l k) k=false:=by rw[Bv,CP,if_pos rfl];rfl
theorem Et (l:Names) (k n:List UInt8) (v:Int):(mput l k v).find? (λp=>p.1==n)=if k=n then some (k,v) else l.find? (λp=>p.1==n):=by
 unfold mput;rw[Ew (k,v) n _ (GH l k)];by_cases h:k=n
 ·rw[if_pos h,if_pos h]
 ·rw[if_neg h,if_neg h,CP,if_neg (λe=>h e.symm)]
theorem BC (l:Names) (k n:List UInt8) (v:Int):mhas (mput l k v) n=(decide (k=n)||mhas l n):=by
 rw[Bv,Et,Bv];by_cases h:k=n
 ·rw[if_pos h,decide_eq_true h];rfl
 ·rw[if_neg h,decide_eq_false h];rfl
theorem mhas_mdel (l:Names) (k n:List UInt8):mhas (mdel l k) n=(!decide (n=k)&&mhas l n):=by
 rw[Bv,CP,Bv];by_cases h:n=k
 ·rw[if_pos h,decide_eq_true h];rfl
 ·rw[if_neg h,decide_eq_false h];rfl
theorem BD (l:Names) (k n:List UInt8) (v:Int):mget (mput l k v) n=if k=n then v else mget l n:=by
 unfold mget;rw[Et];by_cases h:k=n
 ·rw[if_pos h,if_pos h]
 ·rw[if_neg h,if_neg h]
theorem DN (l:Names) (k n:List UInt8) (h:n≠k):mget (mdel l k) n=mget l n:=by
 unfold mget;rw[CP,if_neg h]
theorem Ez (l:Names) (k:List UInt8) (v:Int):(mput l k v).Perm ((k,v)::mdel l k):=Cs _ _
theorem Av {l:Names} {k:List UInt8} {p:List UInt8×Int}:p∈mdel l k↔p∈l∧p.1≠k:=by
 unfold mdel;rw[List.mem_filter];simp
theorem mput_mem {l:Names} {k:List UInt8} {v:Int} {p:List UInt8×Int}:p∈mput l k v↔p=(k,v)∨(p∈l∧p.1≠k):=by
 rw[(Ez l k v).mem_iff,ZX,Av]
theorem mhas_mem {l:Names} {k:List UInt8}:mhas l k=true↔∃p∈l,p.1=k:=by
 unfold mhas;rw[List.any_eq_true];constructor
 ·rintro⟨p,h1,h2⟩;exact⟨p,h1,by simpa using h2⟩
 ·rintro⟨p,h1,h2⟩;exact⟨p,h1,by simpa using h2⟩
theorem Bb:∀{l:Names} {k:List UInt8},mhas l k=true→(mdel l k).length+1≤l.length
 | [],k,h=>by cases h
 | y::r,k,h=>by
  by_cases hy:y.1=k
  ·have:=List.length_filter_le (λp:List UInt8×Int=>!(p.1==k)) r;unfold mdel;rw[List.filter_cons_of_neg (by simp[hy]),QO];omega
  ·have o:mhas r k=true:=by
    unfold mhas at h ⊢;rw[List.any_cons]at h
    simpa [hy] using h
   have:=Bb o;unfold mdel at this ⊢;rw[List.filter_cons_of_pos (by simp[hy]),QO,QO];omega
theorem mput_len2 (l:Names) (k:List UInt8) (v:Int):(mput l k v).length=(mdel l k).length+1:=EJ _ _
structure Inv (st:St):Prop where
 nd:st.dir.Pairwise (λp q=>p.1≠q.1)
 inj:∀p∈st.dir,∀q∈st.dir,p.2=q.2→p.1=q.1
 known:∀p∈st.dir,0≤p.2∧p.2<st.files.length
 gd:∀p∈st.dir,good p.1=true
def look (st:St) (n:List UInt8):Option (List UInt8):=if mhas st.dir n then some (fileAt st n) else none
theorem Cw {l:Names} {k:List UInt8} (h:l.Pairwise (λp q=>p.1≠q.1)):(mdel l k).Pairwise (λp q=>p.1≠q.1):=h.sublist List.filter_sublist
theorem CY {l:Names} {k:List UInt8} {v:Int} (h:l.Pairwise (λp q=>p.1≠q.1)):(mput l k v).Pairwise (λp q=>p.1≠q.1):=by
 refine ((Ez l k v).pairwise_iff (λ{a b} h=>h.symm)).2 ?_;rw[List.pairwise_cons];exact⟨λp hp=>(Av.1 hp).2.symm,Cw h⟩
theorem look_some {st:St} {n b:List UInt8} (h:look st n=some b):mhas st.dir n=true∧fileAt st n=b:=by
 unfold look at h;split at h
 ·rename_i h2;exact⟨h2,by simpa using h⟩
 ·cases h
theorem look_none {st:St} {n:List UInt8} (h:look st n=none):mhas st.dir n=false:=by
 unfold look at h;split at h
 ·cases h
 ·rename_i h2;simpa using h2
theorem Inv.new (room:Int):Inv (new room):=⟨List.Pairwise.nil,λp hp=>(by cases hp),λp hp=>(by cases hp),λp hp=>(by cases hp)⟩
theorem look_new (room:Int) (n:List UInt8):look (new room) n=none:=rfl
theorem Inv.idx {st:St} (h:Inv st) {n:List UInt8} (hn:mhas st.dir n=true):∃f,st.files[Fs.idx st n]?=some f∧fileAt st n=f.1∧(n,((Fs.idx st n:Nat):Int))∈st.dir:=by
 obtain⟨p,A,C,B⟩:=mget_mem hn;have D:=h.known p A;have e:Fs.idx st n=p.2.toNat:=by unfold Fs.idx;rw[B]
 have o:Fs.idx st n<st.files.length:=by omega
 refine⟨_,ZG o,?_,?_⟩
 ·unfold fileAt;rw[ZG o]
 ·rw[e];have:p=(n,((p.2.toNat:Nat):Int)):=by rw[← C];exact Prod.ext rfl (by show p.2=_;omega)
  rw[← this];exact A
theorem Inv.idx_ne {st:St} (h:Inv st) {n m:List UInt8} (hn:mhas st.dir n=true) (hm:mhas st.dir m=true) (hne:n≠m):Fs.idx st n≠Fs.idx st m:=by
 obtain⟨_,_,_,A⟩:=h.idx hn;obtain⟨_,_,_,o⟩:=h.idx hm;intro e;exact hne (h.inj _ A _ o (by show ((Fs.idx st n:Nat):Int)=((Fs.idx st m:Nat):Int);rw[e]))
theorem openE_of {st:St} {n:List UInt8} (hg:good n=true) (hn:mhas st.dir n=true):openE st n=0:=by
 unfold openE;rw[if_neg (by rw[hg];simp),if_neg (by rw[hn];simp)]
structure Next (st st':St) (k:Nat):Prop where
 calm:Calm st'
 inv:Inv st'
 room:st'.room=st.room
 files:st'.files.length≤st.files.length+k
 changes:st'.changes.length≤st.changes.length+k
theorem Next.trans {a b c:St} {i j:Nat} (h:Next a b i) (g:Next b c j):Next a c (i+j) :=
 ⟨g.calm,g.inv,g.room.trans h.room,by have:=h.files;have:=g.files;omega,by have:=h.changes;have:=g.changes;omega⟩
theorem Next.refl {st:St} (hc:Calm st) (hi:Inv st):Next st st 0:=⟨hc,hi,rfl,QM _,QM _⟩
section
set_option linter.unusedSectionVars false
variable {st : St} {n : List UInt8} (hc : Calm st) (hi : Inv st)
include hc hi
theorem calm_create (hg:good n=true) (hn:mhas st.dir n=false) (hd:st.dir.length<64) :
  (create st n).2=0∧Next st (create st n).1 1∧(create st n).1.dir.length=st.dir.length+1∧∀m,look (create st n).1 m=if m=n then some [] else look st m:=by
 have C:create st n=({ (step st).1 with files:=st.files++[([],0)],dir:=mput st.dir n st.files.length,changes:=st.changes++[[(n,(st.files.length:Int))]] },0):=by
  unfold create;rw[if_neg (by rw[hg];simp),if_neg (by rw[hn];simp),if_neg (by omega),if_neg (by rw[step_calm hc];simp)]
 rw[C,step_calm hc];refine⟨rfl,⟨⟨hc.1,hc.2⟩,⟨CY hi.nd,?_,?_,λp hp=>(mput_mem.1 hp).elim (λe=>by rw[e];exact hg) (λh=>hi.gd p h.1)⟩,rfl,by simp,by simp⟩,?_,λm=>?_⟩
 ·intro p hp q hq e;rcases mput_mem.1 hp with rfl|⟨hp1,_⟩<;>rcases mput_mem.1 hq with rfl|⟨hq1,_⟩
  ·rfl
  ·have:=hi.known q hq1;simp only at e;omega
  ·have:=hi.known p hp1;simp only at e;omega
  ·exact hi.inj p hp1 q hq1 e
 ·intro p hp;rcases mput_mem.1 hp with rfl|⟨hp1,_⟩
  ·simp;omega
  ·have:=hi.known p hp1;simp;omega
 ·show (mput st.dir n st.files.length).length=_;rw[mput_len2,CW hn]
 ·show (if mhas (mput st.dir n st.files.length) m then some (match (st.files++[(([]:List UInt8),0)])[(mget (mput st.dir n st.files.length) m).toNat]? with|some f=>f.1|none=>[]) else none)=_;rw[BC,BD];by_cases hm:m=n
  ·subst hm;simp
  ·have o:¬n=m:=λe=>hm e.symm
   rw[if_neg hm,if_neg o,decide_eq_false o,Bool.false_or];cases hh:mhas st.dir m
   ·unfold look;rw[hh];rfl
   ·obtain⟨f,B,D,_⟩:=hi.idx hh;have A:Fs.idx st m<st.files.length:=(List.getElem?_eq_some_iff.1 B).1;unfold Fs.idx at B A;rw[if_pos rfl,ZL A,B];unfold look;rw[hh,if_pos rfl,D]
theorem FX {f':List UInt8×Nat} {st':St} (hd:st'.dir=st.dir) (hf:st'.files=st.files.set (Fs.idx st n) f') (hn:mhas st.dir n=true):Inv st'∧∀m,look st' m=if m=n then some f'.1 else look st m:=by
 refine⟨⟨by rw[hd];exact hi.nd,by rw[hd];exact hi.inj,by rw[hd,hf,List.length_set];exact hi.known,by rw[hd];exact hi.gd⟩,λm=>?_⟩;obtain⟨f,B,_,_⟩:=hi.idx hn;have A:Fs.idx st n<st.files.length:=(List.getElem?_eq_some_iff.1 B).1;have o:Fs.idx st' m=Fs.idx st m:=by unfold Fs.idx;rw[hd]
 unfold look fileAt;rw[hd,o,hf];by_cases hm:m=n
 ·subst hm;rw[hn,if_pos rfl,if_pos rfl,List.getElem?_set_self A]
 ·rw[if_neg hm];cases hh:mhas st.dir m
  ·rfl
  ·rw[List.getElem?_set_ne (hi.idx_ne hn hh (λe=>hm e.symm))]
theorem calm_append {b old:List UInt8} (hg:good n=true) (hn:look st n=some old) (hl:old.length+b.length≤65536) (hr:(used st:Int)+b.length≤st.room) :
  (append st n b).2=0∧Next st (append st n b).1 0∧(append st n b).1.dir=st.dir∧(∃i,(append st n b).1.files=st.files.set i (old++b,((st.files[i]?.map (·.2)).getD 0)))∧∀m,look (append st n b).1 m=if m=n then some (old++b) else look st m:=by
 obtain⟨B,o⟩:=look_some hn;obtain⟨f,D,F,_⟩:=hi.idx B;have H:append st n b=({ (step st).1 with files:=grow st.files (Fs.idx st n) b },0):=by
  unfold append;rw[if_neg (by rw[openE_of hg B];simp),o,if_neg (by omega),step_calm hc,if_neg (by simp),if_neg (by omega)]
 have A:grow st.files (Fs.idx st n) b=st.files.set (Fs.idx st n) (f.1++b,f.2):=by unfold grow;rw[D]
 have C:f.1=old:=by rw[← F,o]
 rw[H,step_calm hc,A,C];obtain⟨G,E⟩:=FX (st':={ st with steps:=wrap64 (st.steps+1),files:=st.files.set (Fs.idx st n) (old++b,f.2) }) (f':=(old++b,f.2)) hc hi rfl rfl B;exact⟨rfl,⟨⟨hc.1,hc.2⟩,G,rfl,by simp,QM _⟩,rfl,⟨Fs.idx st n,by rw[D];rfl⟩,E⟩
theorem calm_sync (hg:good n=true) {old:List UInt8} (hn:look st n=some old) :
  (sync st n).2=0∧Next st (sync st n).1 0∧(sync st n).1.dir=st.dir∧(∃i,(sync st n).1.files=st.files.set i (old,old.length))∧∀m,look (sync st n).1 m=look st m:=by
 obtain⟨A,B⟩:=look_some hn;obtain⟨f,D,F,_⟩:=hi.idx A;have H:sync st n=({ (step st).1 with files:=flush st.files (Fs.idx st n) },0):=by
  unfold sync;rw[if_neg (by rw[openE_of hg A];simp),step_calm hc,if_neg (by simp)]
 have C:f.1=old:=by rw[← F,B]
 have o:flush st.files (Fs.idx st n)=st.files.set (Fs.idx st n) (old,old.length):=by unfold flush;rw[D];simp only[C]
 rw[H,step_calm hc,o];obtain⟨G,E⟩:=FX (st':={ st with steps:=wrap64 (st.steps+1),files:=st.files.set (Fs.idx st n) (old,old.length) }) (f':=(old,old.length)) hc hi rfl rfl A;refine⟨rfl,⟨⟨hc.1,hc.2⟩,G,rfl,by simp,QM _⟩,rfl,⟨_,rfl⟩,λm=>?_⟩;rw[E m];by_cases hm:m=n
 ·rw[if_pos hm,hm,hn]
 ·rw[if_neg hm]
theorem calm_syncDir:(syncDir st).2=0∧Next st (syncDir st).1 0∧(syncDir st).1.dir=st.dir∧(syncDir st).1.files=st.files∧∀m,look (syncDir st).1 m=look st m:=by
 have o:syncDir st=({ (step st).1 with sure:=st.dir,changes:=[] },0):=by
  unfold syncDir;rw[step_calm hc,if_neg (by simp)]
 rw[o,step_calm hc];exact⟨rfl,⟨⟨hc.1,hc.2⟩,⟨hi.nd,hi.inj,hi.known,hi.gd⟩,rfl,QM _,ZS _⟩,rfl,rfl,λm=>rfl⟩
theorem calm_remove (hg:good n=true) (hn:mhas st.dir n=true) :
  (remove st n).2=0∧Next st (remove st n).1 1∧(remove st n).1.dir=mdel st.dir n∧(remove st n).1.files=st.files∧∀m,look (remove st n).1 m=if m=n then none else look st m:=by
 have o:remove st n=(turned (step st).1 [(n,-1)],0):=by
  unfold remove;rw[if_neg (by rw[openE_of hg hn];simp),step_calm hc,if_neg (by simp)]
 rw[o,step_calm hc];refine⟨rfl,⟨⟨hc.1,hc.2⟩,⟨Cw hi.nd,λp hp q hq=>hi.inj p (Av.1 hp).1 q (Av.1 hq).1,λp hp=>hi.known p (Av.1 hp).1,λp hp=>hi.gd p (Av.1 hp).1⟩,rfl,Nat.le_succ _,by simp[turned]⟩,rfl,rfl,λm=>?_⟩;show (if mhas (mdel st.dir n) m then some (match st.files[(mget (mdel st.dir n) m).toNat]? with|some f=>f.1|none=>[]) else none)=_;rw[mhas_mdel];by_cases hm:m=n
 ·rw[if_pos hm,decide_eq_true hm];rfl
 ·rw[if_neg hm,decide_eq_false hm,DN _ _ _ hm];rfl
theorem calm_rename {nt old:List UInt8} (hg:good n=true) (hg2:good nt=true) (hne:n≠nt) (hn:look st n=some old) :
  (rename st n nt).2=0∧Next st (rename st n nt).1 1∧(rename st n nt).1.dir.length≤st.dir.length∧(mhas st.dir nt=true→(rename st n nt).1.dir.length+1≤st.dir.length)∧(rename st n nt).1.files=st.files ∧
   ∀m,look (rename st n nt).1 m=if m=nt then some old else if m=n then none else look st m:=by
 obtain⟨G,J⟩:=look_some hn;obtain⟨f,N,L,K⟩:=hi.idx G;obtain⟨p,D,I,B⟩:=mget_mem G;have E:=hi.known p D;have P:rename st n nt=(turned (step st).1 [(n,-1),(nt,mget st.dir n)],0):=by
  unfold rename;rw[if_neg (by rw[hg,hg2];simp),if_neg (by rw[G];simp),step_calm hc,if_neg (by simp)]
 have o:doAll st.dir [(n,-1),(nt,mget st.dir n)]=mput (mdel st.dir n) nt (mget st.dir n):=by
  show doOne (doOne st.dir (n,-1)) (nt,mget st.dir n)=_;have M:doOne st.dir (n,-1)=mdel st.dir n:=by unfold doOne;exact if_pos (show (-1:Int)<0 by decide)
  rw[M];unfold doOne;rw[if_neg (show ¬mget st.dir n<0 by rw[← B];omega)]
 have O:=Bb G;rw[P,step_calm hc];refine⟨rfl,⟨⟨hc.1,hc.2⟩,⟨?_,?_,?_,?_⟩,rfl,Nat.le_succ _,by simp[turned]⟩,?_,λht=>?_,rfl,λm=>?_⟩
 ·show (doAll st.dir _).Pairwise _;rw[o];exact CY (Cw hi.nd)
 ·show ∀p∈doAll st.dir _,∀q∈doAll st.dir _,_;rw[o];have C:∀q∈mdel st.dir n,q.2≠mget st.dir n:=λq hq e=>by
   obtain⟨A,H⟩:=Av.1 hq;exact H (by rw[← I];exact hi.inj q A p D (by rw[B];exact e))
  intro a ha b hb e;rcases mput_mem.1 ha with rfl|⟨ha1,_⟩<;>rcases mput_mem.1 hb with rfl|⟨hb1,_⟩
  ·rfl
  ·exact absurd e.symm (C b hb1)
  ·exact absurd e (C a ha1)
  ·exact hi.inj a (Av.1 ha1).1 b (Av.1 hb1).1 e
 ·show ∀p∈doAll st.dir _,_;rw[o];intro q hq;rcases mput_mem.1 hq with rfl|⟨A,_⟩
  ·rw[B]at E;exact E
  ·exact hi.known q (Av.1 A).1
 ·show ∀p∈doAll st.dir _,_;rw[o];intro q hq;rcases mput_mem.1 hq with rfl|⟨A,_⟩
  ·exact hg2
  ·exact hi.gd q (Av.1 A).1
 ·show (doAll st.dir _).length≤_;rw[o,mput_len2];have:=mdel_len (mdel st.dir n) nt;omega
 ·show (doAll st.dir _).length+1≤_;rw[o,mput_len2];have:mhas (mdel st.dir n) nt=true:=by rw[mhas_mdel,ht,decide_eq_false (λe=>hne e.symm)];rfl
  have:=Bb this;omega
 ·show (if mhas (doAll st.dir _) m then some (match st.files[(mget (doAll st.dir _) m).toNat]? with|some f=>f.1|none=>[]) else none)=_;rw[o,BC,BD,mhas_mdel];by_cases hm:m=nt
  ·rw[if_pos hm,if_pos hm.symm,decide_eq_true hm.symm,Bool.true_or,if_pos rfl];have:st.files[(mget st.dir n).toNat]?=some f:=N;rw[this,← J,L]
  ·have F:¬nt=m:=λe=>hm e.symm
   rw[if_neg hm,if_neg F,decide_eq_false F,Bool.false_or];by_cases hmn:m=n
   ·rw[if_pos hmn,decide_eq_true hmn];rfl
   ·rw[if_neg hmn,decide_eq_false hmn,DN _ _ _ hmn];rfl
end
theorem used_look {st:St} (hi:Inv st) {M:Nat} (hM:∀n b,look st n=some b→b.length≤M):used st≤st.dir.length*M:=by
 have:∀l:Names,(∀p∈l,p∈st.dir)→usedL st l≤l.length*M:=by
  intro l
  induction l with
  | nil=>intro _;exact ZS _
  | cons p l ih =>
   intro h;have C:=ih (λq hq=>h q (QT _ hq));have A:=h p QP;have B:mhas st.dir p.1=true:=mhas_mem.2 ⟨p,A,rfl⟩;obtain⟨f,o,D,F⟩:=hi.idx B;have e:mget st.dir p.1=p.2:=mget_of (λa ha b hb e=>by
    by_cases hab:a=b
    ·rw[hab]
    ·have:=hi.nd;rcases List.mem_iff_getElem.1 ha with⟨i,hi1,rfl⟩
     rcases List.mem_iff_getElem.1 hb with⟨j,hj1,rfl⟩
     rw[List.pairwise_iff_getElem]at this;rcases Nat.lt_trichotomy i j with h|h|h
     ·exact absurd e (this i j hi1 hj1 h)
     ·subst h;rfl
     ·exact absurd e.symm (this j i hj1 hi1 h)) (show (p.1,p.2)∈st.dir from A)
   have E:lenAt st p.2≤M:=by
    have:lenAt st p.2=f.1.length:=by
     unfold lenAt;unfold Fs.idx at o;rw[e]at o;rw[o]
    rw[this,← D];exact hM p.1 _ (by unfold look;rw[if_pos B])
   unfold usedL at C ⊢;rw[List.map_cons,List.sum_cons,QO,Nat.succ_mul];omega
 exact this st.dir (λ_ h=>h)
end Fs
open Go.Maps Go.WideMaps
namespace Fs
def arm (st:St) (n:Int):St×Int:=if n<0 then (st,1) else if st.left=0 then (st,22) else ({ st with left:=n },0)
end Fs
theorem Js {w:World} {B:Nat} {st:Fs.St} {V:FsV} {t:TypeId} (h:w.heap[B]?=some (.cells (Am st V) t (0,0))) (l:Int) :
  (w.setCell ⟨B,1,none⟩ (.int .i64 l)).heap[B]?=some (.cells (Am { st with left:=l } V) t (0,0)):=heap_set h _
theorem I9 (base B:Nat) (st:Fs.St) (V:FsV) (own:Nat→Tag) (n:Int) (w:World) (h:Ad base B st V own w) (hn:n≤9223372036854775807) :
  Calls Tryz.prog 32 #[.pointer (some ⟨B,0,none⟩),.int .i64 n] w λe w'=>e=.returned (.int .i64 (Fs.arm st n).2)∧AV base B (Fs.arm st n).1 own w w':=by
 have c1:w.cell? ⟨B,1,none⟩=some (.int .i64 st.left):=AA h.at_.root 1 _ rfl;have E:=AC h.at_.root 1;have H:=QA h;clear h;go_enter Tryz.func32,Tryz.ntmps32;by_cases h0:n<0
 ·have o:Hid (Fs.arm st n=(st,1)):=by unfold Fs.arm;rw[if_pos h0];exact QA rfl
  go_wp2;go_ret;rw[o.out];exact⟨rfl,AV.refl H.out⟩
 ·by_cases h1:st.left=0
  ·have o:Hid (Fs.arm st n=(st,22)):=by unfold Fs.arm;rw[if_neg h0,if_pos h1];exact QA rfl
   go_wp2;go_ret;rw[o.out];exact⟨rfl,AV.refl H.out⟩
  ·have o:Hid (Fs.arm st n=({ st with left:=n },0)):=by unfold Fs.arm;rw[if_neg h0,if_neg h1];exact QA rfl
   have D:Hid (0≤n):=QA (by omega);go_wp2;go_ret;rw[o.out];have A:Kept own (·=.root) w (w.setCell ⟨B,1,none⟩ (.int .i64 n)):=(Kept.refl _ _ _).setCell ⟨B,1,none⟩ H.out.at_.tB _;have C:=H.out.at_.power (s:=st.steps) (l:=n) (p:=st.plan) (pv:=V.pv) A ⟨by have:=D.out;omega,hn⟩ H.out.at_.plan (Js H.out.at_.root n);exact⟨rfl,V,own,⟨C,λk hk2=>H.out.fresh k (QQ A.size hk2),H.out.old⟩,λ_ _=>rfl,A.mono (λt ht=>by rw[ht];simp)⟩
namespace Fs
def keys (D:Names):List (List UInt8):=(D.map (·.1)).mergeSort (λx y=>decide (x≤y))
def crashDir (st:St) (k:Nat):Names:=(st.changes.take k).foldl doAll st.sure
def cut (f:List UInt8×Nat) (t:Option Int):List UInt8:=f.1.take (f.2+(match t with|some z=>(max 0 (min z ((f.1.length:Int)-f.2))).toNat|none=>0))
def cutOf (st:St) (D:Names) (tails:List Int) (n:List UInt8):List UInt8:=cut ((st.files[(mget D n).toNat]?).getD ([],0)) tails[(mget D n).toNat]?
def crashGo (g:List UInt8→List UInt8):List (List UInt8)→List (List UInt8×Nat)→Names→List (List UInt8×Nat)×Names
 | [],fs,d=>(fs,d)
 | n::r,fs,d=>crashGo g r (fs++[(g n,(g n).length)]) (mput d n fs.length)
def dirsOf (st:St) (dirs:Int):Nat:=(max 0 (min dirs st.changes.length)).toNat
def crash (st:St) (dirs:Int) (tails:List Int):St :=
 let D:=crashDir st (dirsOf st dirs)
 let r:=crashGo (cutOf st D tails) (keys D) [] []
 ⟨0,-1,[],st.room,r.1,r.2,r.2,[]⟩
structure Jc (fs:List (List UInt8×Nat)) (d:Names):Prop where
 nd:d.Pairwise (λp q=>p.1≠q.1)
 inj:∀p∈d,∀q∈d,p.2=q.2→p.1=q.1
 known:∀p∈d,0≤p.2∧p.2<fs.length
 gd:∀p∈d,good p.1=true
 full:∀f∈fs,f.2=f.1.length
theorem C2 (g:List UInt8→List UInt8):∀(K:List (List UInt8)) (fs:List (List UInt8×Nat)) (d:Names),K.Nodup→(∀n∈K,good n=true∧mhas d n=false)→Jc fs d →
  Jc (crashGo g K fs d).1 (crashGo g K fs d).2∧(crashGo g K fs d).1.length=fs.length+K.length∧(crashGo g K fs d).2.length=d.length+K.length∧(∀f∈(crashGo g K fs d).1,f∈fs∨∃n∈K,f=(g n,(g n).length)) ∧
   ∀n,(n∈K→mhas (crashGo g K fs d).2 n=true∧(crashGo g K fs d).1[(mget (crashGo g K fs d).2 n).toNat]?=some (g n,(g n).length)) ∧
    (n ∉ K→mhas (crashGo g K fs d).2 n=mhas d n∧(mhas d n=true→mget (crashGo g K fs d).2 n=mget d n∧(crashGo g K fs d).1[(mget d n).toNat]?=fs[(mget d n).toNat]?))
 | [],fs,d,_,_,h=>⟨h,rfl,rfl,λf hf=>.inl hf,λn=>⟨λhn=>(by cases hn),λ_=>⟨rfl,λ_=>⟨rfl,rfl⟩⟩⟩⟩
 | k::r,fs,d,hK,hd,h=>by
  rw[List.nodup_cons]at hK;obtain⟨hg,O⟩:=hd k QP;have I:Jc (fs++[(g k,(g k).length)]) (mput d k fs.length):=by
   refine⟨CY h.nd,?_,?_,λp hp=>(mput_mem.1 hp).elim (λe=>by rw[e];exact hg) (λx=>h.gd p x.1),λf hf=>?_⟩
   ·intro p hp q hq e;rcases mput_mem.1 hp with rfl|⟨o,_⟩<;>rcases mput_mem.1 hq with rfl|⟨hq1,_⟩
    ·rfl
    ·have:=h.known q hq1;simp only at e;omega
    ·have:=h.known p o;simp only at e;omega
    ·exact h.inj p o q hq1 e
   ·intro p hp;rw[QS];rcases mput_mem.1 hp with rfl|⟨o,_⟩
    ·simp;omega
    ·have:=h.known p o;simp;omega
   ·rcases ZI.1 hf with hf|hf
    ·exact h.full f hf
    ·simp at hf;rw[hf]
  obtain⟨M,P,J,L,G⟩:=C2 g r (fs++[(g k,(g k).length)]) (mput d k fs.length) hK.2 (λn hn=>⟨(hd n (QT _ hn)).1,by
   rw[BC,decide_eq_false (λe=>hK.1 (by rw[e];exact hn)),(hd n (QT _ hn)).2];rfl⟩) I
  have e:crashGo g (k::r) fs d=crashGo g r (fs++[(g k,(g k).length)]) (mput d k fs.length):=rfl;rw[e];refine⟨M,by rw[P];simp;omega,by rw[J,mput_len2,CW O];simp;omega,λf hf=>?_,λn=>⟨λhn=>?_,λhn=>?_⟩⟩
  ·rcases L f hf with hf|⟨n,hn,rfl⟩
   ·rcases ZI.1 hf with hf|hf
    ·exact .inl hf
    ·simp at hf;exact .inr ⟨k,QP,hf⟩
   ·exact .inr ⟨n,QT _ hn,rfl⟩
  ·rcases ZX.1 hn with rfl|hn
   ·obtain⟨D,E⟩:=(G n).2 hK.1;have H:mhas (mput d n fs.length) n=true:=by rw[BC,decide_eq_true rfl];rfl
    obtain⟨C,A⟩:=E H;rw[BD,if_pos rfl]at C A;refine⟨D.trans H,?_⟩;rw[C,A];simp
   ·exact (G n).1 hn
  ·have B:¬k=n:=λe=>hn (by rw[e];exact QP)
   obtain⟨D,E⟩:=(G n).2 (λx=>hn (QT _ x));rw[BC,decide_eq_false B,Bool.false_or]at D E;refine⟨D,λhx=>?_⟩;obtain⟨C,A⟩:=E hx;rw[BD,if_neg B]at C A;refine⟨C,?_⟩;obtain⟨p,o,N,F⟩:=mget_mem hx;have:=h.known p o;rw[A,ZL (by rw[← F];omega)]
theorem keys_mem {D:Names} {n:List UInt8}:n∈keys D↔mhas D n=true:=by
 unfold keys;rw[List.mem_mergeSort,mhas_mem,List.mem_map]
theorem GL {D:Names} (h:D.Pairwise (λp q=>p.1≠q.1)):(keys D).Nodup:=by
 unfold keys;refine (List.mergeSort_perm _ _).nodup_iff.2 ?_;rw[List.nodup_iff_pairwise_ne,List.pairwise_map];exact h
theorem keys_len (D:Names):(keys D).length=D.length:=by unfold keys;rw[List.length_mergeSort,QV]
theorem Du {st:St} {dirs:Int} {tails:List Int} (hnd:(crashDir st (dirsOf st dirs)).Pairwise (λp q=>p.1≠q.1)) (hgd:∀p∈crashDir st (dirsOf st dirs),good p.1=true) :
  Calm (crash st dirs tails)∧Inv (crash st dirs tails)∧(crash st dirs tails).dir.length=(crashDir st (dirsOf st dirs)).length∧(crash st dirs tails).files.length=(crashDir st (dirsOf st dirs)).length∧(∀f∈(crash st dirs tails).files,f.2=f.1.length) ∧
   (∀f∈(crash st dirs tails).files,∃n,f.1=cutOf st (crashDir st (dirsOf st dirs)) tails n) ∧
   ∀n,look (crash st dirs tails) n=if mhas (crashDir st (dirsOf st dirs)) n then some (cutOf st (crashDir st (dirsOf st dirs)) tails n) else none:=by
 generalize hD:crashDir st (dirsOf st dirs)=D at *
 obtain⟨A,H,C,G,B⟩:=C2 (cutOf st D tails) (keys D) [] [] (GL hnd) (λn hn=>⟨by obtain⟨p,o,rfl⟩:=mhas_mem.1 (keys_mem.1 hn);exact hgd p o,rfl⟩)
  ⟨List.Pairwise.nil,λp o=>(by cases o),λp o=>(by cases o),λp o=>(by cases o),λp o=>(by cases o)⟩
 have e:crash st dirs tails=⟨0,-1,[],st.room,(crashGo (cutOf st D tails) (keys D) [] []).1,(crashGo (cutOf st D tails) (keys D) [] []).2,(crashGo (cutOf st D tails) (keys D) [] []).2,[]⟩:=by
  unfold crash;rw[hD]
 rw[e];refine⟨⟨rfl,rfl⟩,⟨A.nd,A.inj,A.known,A.gd⟩,by rw[C,keys_len];simp,by rw[H,keys_len];simp,A.full,λf hf=>?_,λn=>?_⟩
 ·rcases G f hf with hf|⟨n,_,rfl⟩
  ·cases hf
  ·exact⟨n,rfl⟩
 ·show (if mhas (crashGo (cutOf st D tails) (keys D) [] []).2 n then some (match (crashGo (cutOf st D tails) (keys D) [] []).1[(mget (crashGo (cutOf st D tails) (keys D) [] []).2 n).toNat]? with|some f=>f.1|none=>[]) else none)=_;cases hh:mhas D n
  ·rw[((B n).2 (λx=>by rw[keys_mem.1 x]at hh;cases hh)).1];rfl
  ·obtain⟨E,F⟩:=(B n).1 (keys_mem.2 hh);rw[E,F]
theorem IO {f:List UInt8×Nat} (h:f.2=f.1.length) (t:Option Int):cut f t=f.1:=by
 unfold cut;exact List.take_of_length_le (by omega)
end Fs
namespace Fs
structure Sound (st:St) (k:Nat):Prop where
 dir:∀p∈st.dir,(0≤p.2∧p.2<st.files.length)∧good p.1=true
 sure:∀p∈st.sure,(0≤p.2∧p.2<st.files.length)∧good p.1=true
 chg:∀l∈st.changes,(∀p∈l,p.2<st.files.length∧good p.1=true)∧l.length≤2
 nd:st.dir.Pairwise (λp q=>p.1≠q.1)
 nds:st.sure.Pairwise (λp q=>p.1≠q.1)
 full:∀f∈st.files,f.2≤f.1.length∧f.1.length≤65536
 room:0≤st.room∧st.room≤1048576
 nf:st.files.length≤k
 nc:st.changes.length≤k
 ndir:st.dir.length≤k
 nsure:st.sure.length≤k
theorem Sound.mono {st:St} {k j:Nat} (h:Sound st k) (hj:k≤j):Sound st j:={ h with nf:=QQ h.nf hj,nc:=QQ h.nc hj,ndir:=QQ h.ndir hj,nsure:=QQ h.nsure hj }
theorem Sound.new {room:Int} (h:0≤room∧room≤1048576) (k:Nat):Sound (new room) k :=
 ⟨λp hp=>by (cases hp),λp hp=>by (cases hp),λp hp=>by (cases hp),List.Pairwise.nil,List.Pairwise.nil,λp hp=>by (cases hp),h,ZS _,ZS _,ZS _,ZS _⟩
theorem An (st:St):∃s l p,(step st).1={ st with steps:=s,left:=l,plan:=p }:=by
 unfold step;split
 ·exact⟨st.steps,st.left,st.plan,rfl⟩
 ·exact⟨_,_,_,rfl⟩
theorem good_len {n:List UInt8} (h:good n=true):n.length≤20:=by
 unfold good at h;simp only[Bool.and_eq_true,decide_eq_true_eq]at h;exact h.1.2
section
set_option linter.unusedSectionVars false
variable {st : St} {k : Nat} (h : Sound st k)
include h
theorem Sound.power (s l:Int) (p:List Int):Sound { st with steps:=s,left:=l,plan:=p } k:=⟨h.dir,h.sure,h.chg,h.nd,h.nds,h.full,h.room,h.nf,h.nc,h.ndir,h.nsure⟩
theorem Sound.step:Sound (Fs.step st).1 k:=by
 obtain⟨s,l,p,e⟩:=An st;rw[e];exact h.power s l p
theorem Sound.turned {l:Names} (hl:∀p∈l,p.2<st.files.length∧good p.1=true) (hl2:l.length≤2):Sound (turned st l) (k+2):=by
 have o:∀(l d:Names),(∀p∈l,p.2<st.files.length∧good p.1=true)→(∀p∈d,(0≤p.2∧p.2<st.files.length)∧good p.1=true)→d.Pairwise (λp q=>p.1≠q.1) →
   (∀p∈doAll d l,(0≤p.2∧p.2<st.files.length)∧good p.1=true)∧(doAll d l).Pairwise (λp q=>p.1≠q.1):=by
  intro l
  induction l with
  | nil=>intro d _ h1 h2;exact⟨h1,h2⟩
  | cons c l ih =>
   intro d hl h1 h2;have A:=hl c QP;refine ih (doOne d c) (λp hp=>hl p (QT _ hp)) ?_ ?_
   ·unfold doOne;split
    ·exact λp hp=>h1 p (Av.1 hp).1
    ·intro p hp;rcases mput_mem.1 hp with rfl|⟨hp,_⟩
     ·exact⟨⟨by simp only;omega,A.1⟩,A.2⟩
     ·exact h1 p hp
   ·unfold doOne;split
    ·exact Cw h2
    ·exact CY h2
 obtain⟨B,C⟩:=o l st.dir hl h.dir h.nd;have:=doAll_len l st.dir;refine⟨B,h.sure,λl' hl'=>?_,C,h.nds,h.full,h.room,QQ h.nf (by omega),?_,?_,QQ h.nsure (by omega)⟩
 ·rcases ZI.1 hl' with hx|hx
  ·exact h.chg l' hx
  ·simp at hx;subst hx;exact⟨hl,hl2⟩
 ·show (st.changes++[l]).length≤_;have:=h.nc;simp;omega
 ·show (doAll st.dir l).length≤_;have:=h.ndir;omega
theorem Sound.files {fs:List (List UInt8×Nat)} (hn:fs.length=st.files.length) (hf:∀f∈fs,f.2≤f.1.length∧f.1.length≤65536):Sound { st with files:=fs } k :=
 ⟨by rw[hn];exact h.dir,by rw[hn];exact h.sure,by rw[hn];exact h.chg,h.nd,h.nds,hf,h.room,by rw[hn];exact h.nf,h.nc,h.ndir,h.nsure⟩
theorem Sound.create (n:List UInt8):Sound (create st n).1 (k+2):=by
 unfold Fs.create;split
 ·exact h.mono (by omega)
 split
 ·exact h.mono (by omega)
 split
 ·exact h.mono (by omega)
 split
 ·exact h.step.mono (by omega)
 rename_i hg _ _ _;have o:good n=true:=by simpa using hg
 obtain⟨s,l,p,e⟩:=An st;rw[e];have A:Sound { st with steps:=s,left:=l,plan:=p,files:=st.files++[([],0)] } (k+1):=by
  have B:(st.files++[(([]:List UInt8),0)]).length=st.files.length+1:=by simp
  refine⟨?_,?_,?_,h.nd,h.nds,?_,h.room,?_,Nat.le_succ_of_le h.nc,Nat.le_succ_of_le h.ndir,Nat.le_succ_of_le h.nsure⟩
  ·intro p hp;have:=h.dir p hp;exact⟨⟨this.1.1,by show p.2<((st.files++[(([]:List UInt8),0)]).length:Int);rw[B];omega⟩,this.2⟩
  ·intro p hp;have:=h.sure p hp;exact⟨⟨this.1.1,by show p.2<((st.files++[(([]:List UInt8),0)]).length:Int);rw[B];omega⟩,this.2⟩
  ·intro l hl;exact⟨λp hp=>⟨by show p.2<((st.files++[(([]:List UInt8),0)]).length:Int);rw[B];have:=((h.chg l hl).1 p hp).1;omega,((h.chg l hl).1 p hp).2⟩,(h.chg l hl).2⟩
  ·intro f hf;rcases ZI.1 hf with hf|hf
   ·exact h.full f hf
   ·simp at hf;subst hf;simp
  ·show (st.files++[(([]:List UInt8),0)]).length≤_;rw[B];have:=h.nf;omega
 refine⟨?_,A.sure,?_,CY h.nd,h.nds,A.full,h.room,Nat.le_succ_of_le A.nf,?_,?_,QQ h.nsure (by omega)⟩
 ·intro p hp;rcases mput_mem.1 hp with rfl|⟨hp,_⟩
  ·exact⟨⟨by simp,by simp;omega⟩,o⟩
  ·exact A.dir p hp
 ·intro l hl;rcases ZI.1 hl with hx|hx
  ·exact A.chg l hx
  ·simp at hx;subst hx;exact⟨λp hp=>by simp at hp;subst hp;exact⟨by simp;omega,o⟩,by simp⟩
 ·show (st.changes++[_]).length≤_;have:=h.nc;simp;omega
 ·show (mput st.dir n _).length≤_;have:=Cv st.dir n st.files.length;have:=h.ndir;omega
theorem Sound.grow (i:Nat) (b:List UInt8) (hb:∀f,st.files[i]?=some f→f.1.length+b.length≤65536):Sound { st with files:=grow st.files i b } k:=by
 unfold Fs.grow;cases hf:st.files[i]? with
 | none=>exact h
 | some f =>
  refine h.files (by simp) (λg hg=>?_);rcases List.mem_or_eq_of_mem_set hg with hg|rfl
  ·exact h.full g hg
  ·have:=h.full f (QZ hf);have:=hb f hf;simp;omega
theorem Sound.append (n b:List UInt8):Sound (append st n b).1 k:=by
 unfold Fs.append;split
 ·exact h
 split
 ·exact h
 rename_i ho hl;have hb:∀(c:List UInt8),c.length≤b.length→∀f,st.files[Fs.idx st n]?=some f→f.1.length+c.length≤65536:=by
  intro c hc f hf;unfold fileAt at hl;rw[hf]at hl;simp only at hl;omega
 obtain⟨s,l,p,e⟩:=An st;split
 ·split
  ·rw[e];exact (h.grow _ _ (hb _ (by simp;omega))).power s l p
  ·exact h.step
 split
 ·exact h.step
 ·rw[e];exact (h.grow _ _ (hb _ (QM _))).power s l p
theorem Sound.flush (i:Nat):Sound { st with files:=flush st.files i } k:=by
 unfold Fs.flush;cases hf:st.files[i]? with
 | none=>exact h
 | some f =>
  refine h.files (by simp) (λg hg=>?_);rcases List.mem_or_eq_of_mem_set hg with hg|rfl
  ·exact h.full g hg
  ·have:=h.full f (QZ hf);exact⟨QM _,this.2⟩
theorem Sound.sync (n:List UInt8):Sound (sync st n).1 k:=by
 unfold Fs.sync;split
 ·exact h
 split
 ·exact h.step
 ·obtain⟨s,l,p,e⟩:=An st;rw[e];exact (h.flush _).power s l p
theorem Sound.syncDir:Sound (syncDir st).1 k:=by
 unfold Fs.syncDir;split
 ·exact h.step
 ·obtain⟨s,l,p,e⟩:=An st;rw[e];exact⟨h.dir,h.dir,λl hl=>(by cases hl),h.nd,h.nd,h.full,h.room,h.nf,ZS _,h.ndir,h.ndir⟩
theorem Sound.remove (n:List UInt8):Sound (remove st n).1 (k+2):=by
 unfold Fs.remove;split
 ·exact h.mono (by omega)
 rename_i ho;split
 ·exact h.step.mono (by omega)
 ·have hg:good n=true:=by
   cases hx:good n
   ·exact absurd (by unfold openE;rw[if_pos hx];decide) ho
   ·rfl
  refine h.step.turned (λp hp=>?_) (by simp);simp at hp;subst hp;exact⟨by simp only;omega,hg⟩
theorem Sound.rename (a b:List UInt8):Sound (rename st a b).1 (k+2):=by
 unfold Fs.rename;split
 ·exact h.mono (by omega)
 rename_i hg;split
 ·exact h.mono (by omega)
 rename_i hh;split
 ·exact h.step.mono (by omega)
 ·have o:good a=true∧good b=true:=by
   rw[Bool.not_eq_false,Bool.and_eq_true]at hg;exact hg
  obtain⟨p,A,C,B⟩:=mget_mem (l:=st.dir) (k:=a) (by simpa using hh);refine h.step.turned (λq hq=>?_) (by simp);rw[step_files];simp at hq;rcases hq with rfl|rfl
  ·exact⟨by simp only;omega,o.1⟩
  ·exact⟨by simp only;rw[← B];exact (h.dir p A).1.2,o.2⟩
theorem Sound.arm (n:Int):Sound (arm st n).1 k:=by
 unfold Fs.arm;split
 ·exact h
 split
 ·exact h
 ·exact h.power st.steps n st.plan
theorem Dg:∀(l d:Names),(∀p∈l,p.2<st.files.length∧good p.1=true)→(∀p∈d,(0≤p.2∧p.2<st.files.length)∧good p.1=true)→d.Pairwise (λp q=>p.1≠q.1) →
  (∀p∈doAll d l,(0≤p.2∧p.2<st.files.length)∧good p.1=true)∧(doAll d l).Pairwise (λp q=>p.1≠q.1)
 | [],d,_,h1,h2=>⟨h1,h2⟩
 | c::l,d,hl,h1,h2=>by
  have o:=hl c QP;refine Dg l (doOne d c) (λp hp=>hl p (QT _ hp)) ?_ ?_
  ·unfold doOne;split
   ·exact λp hp=>h1 p (Av.1 hp).1
   ·intro p hp;rcases mput_mem.1 hp with rfl|⟨hp,_⟩
    ·exact⟨⟨by simp only;omega,o.1⟩,o.2⟩
    ·exact h1 p hp
  ·unfold doOne;split
   ·exact Cw h2
   ·exact CY h2
theorem Sound.crashDir (j:Nat):(∀p∈Fs.crashDir st j,(0≤p.2∧p.2<st.files.length)∧good p.1=true)∧(Fs.crashDir st j).Pairwise (λp q=>p.1≠q.1)∧(Fs.crashDir st j).length≤k+2*j:=by
 unfold Fs.crashDir;have A:∀(L:List Names) (d:Names),(∀l∈L,(∀p∈l,p.2<st.files.length∧good p.1=true)∧l.length≤2)→(∀p∈d,(0≤p.2∧p.2<st.files.length)∧good p.1=true)→d.Pairwise (λp q=>p.1≠q.1) →
   (∀p∈L.foldl doAll d,(0≤p.2∧p.2<st.files.length)∧good p.1=true)∧(L.foldl doAll d).Pairwise (λp q=>p.1≠q.1)∧(L.foldl doAll d).length≤d.length+2*L.length:=by
  intro L
  induction L with
  | nil=>intro d _ h1 h2;exact⟨h1,h2,QM _⟩
  | cons l L ih =>
   intro d hL h1 h2;obtain⟨D,E⟩:=Dg h l d (hL l QP).1 h1 h2;obtain⟨B,C,o⟩:=ih (doAll d l) (λx hx=>hL x (QT _ hx)) D E;refine⟨B,C,QQ o ?_⟩;have:=doAll_len l d;have:=(hL l QP).2;rw[QO];omega
 obtain⟨B,C,o⟩:=A (st.changes.take j) st.sure (λl hl=>h.chg l (List.mem_of_mem_take hl)) h.sure h.nds;refine⟨B,C,QQ o ?_⟩;have:=h.nsure;have:(st.changes.take j).length≤j:=by simp;omega
 omega
theorem Sound.crash (dirs:Int) (tails:List Int):Sound (Fs.crash st dirs tails) (Fs.crashDir st (dirsOf st dirs)).length:=by
 obtain⟨E,F,_⟩:=h.crashDir (dirsOf st dirs);obtain⟨c1,o,I,H,G,C,_⟩:=Du (st:=st) (dirs:=dirs) (tails:=tails) F (λp hp=>(E p hp).2);have A:(Fs.crash st dirs tails).sure=(Fs.crash st dirs tails).dir:=rfl;have B:(Fs.crash st dirs tails).changes=[]:=rfl;have D:(Fs.crash st dirs tails).room=st.room:=rfl;refine⟨λp hp=>⟨o.known p hp,o.gd p hp⟩,by rw[A];exact λp hp=>⟨o.known p hp,o.gd p hp⟩,by rw[B];exact λl hl=>by (cases hl),o.nd,by rw[A];exact o.nd,λf hf=>⟨Nat.le_of_eq (G f hf),?_⟩,by rw[D];exact h.room,by omega,by rw[B];exact ZS _,by omega,by rw[A];omega⟩;obtain⟨n,e⟩:=C f hf;rw[e];unfold cutOf cut;rw[List.length_take];cases hx:st.files[(mget (Fs.crashDir st (dirsOf st dirs)) n).toNat]? with
 | none=>simp
 | some g=>have:=h.full g (QZ hx);simp;omega
end
end Fs
namespace Fs
theorem CU:∀(x y:List UInt8),(Lit.string x).before (.string y)=decide (x<y):=by
 intro x y;show bytesBefore x y=decide (x<y)
 induction x generalizing y with
 | nil=>cases y<;>simp[bytesBefore]
 | cons a x ih =>
  cases y with
  | nil=>simp[bytesBefore]
  | cons b y =>
   rw[bytesBefore];rw[Bool.eq_iff_iff,decide_eq_true_eq,List.cons_lt_cons_iff];by_cases h1:a.toNat<b.toNat
   ·simp[h1,UInt8.lt_iff_toNat_lt]
   ·by_cases h2:b.toNat<a.toNat
    ·have:a≠b:=λe=>by subst e;omega
     simp[h1,h2,UInt8.lt_iff_toNat_lt,this]
    ·have e:a=b:=UInt8.toNat_inj.1 (by omega);subst e;rw[ih];simp[UInt8.lt_iff_toNat_lt]
def Srt (l:Names):Prop:=l.Pairwise λp q=>p.1<q.1
theorem Jt {x y z:List UInt8} (h:x<y) (h':y<z):x<z:=List.lt_trans h h'
theorem Jr {x y:List UInt8} (hne:x≠y) (h:¬x<y):y<x:=by
 have A:bytesBefore x y=decide (x<y):=CU x y;have o:bytesBefore y x=decide (y<x):=CU y x;rcases WideAt.bytes_total x y hne with h1|h1
 ·rw[A,decide_eq_true_eq]at h1;exact absurd h1 h
 ·rw[o,decide_eq_true_eq]at h1;exact h1
theorem pw_eq {l:Names} (h:l.Pairwise (λp q=>p.1≠q.1)) {a b:List UInt8×Int} (ha:a∈l) (hb:b∈l) (e:a.1=b.1):a=b:=by
 obtain⟨i,o,rfl⟩:=List.getElem_of_mem ha;obtain⟨j,A,rfl⟩:=List.getElem_of_mem hb;rcases Nat.lt_trichotomy i j with h1|h1|h1
 ·exact absurd e (List.pairwise_iff_getElem.1 h i j o A h1)
 ·subst h1;rfl
 ·exact absurd e.symm (List.pairwise_iff_getElem.1 h j i A o h1)
theorem FS {l:Names} (h:Srt l) (k:List UInt8):Srt (mdel l k):=List.Pairwise.filter _ h
theorem FL {x:List UInt8×Int}:∀{l:Names},Srt l→(∀p∈l,p.1≠x.1)→Srt (mins x l)
 | [],_,_=>by unfold mins Srt;simp
 | y::r,h,hn=>by
  have o:=List.pairwise_cons.1 h;unfold mins;rw[CU];by_cases hlt:x.1<y.1
  ·rw[if_pos (by simpa using hlt)];exact List.pairwise_cons.2 ⟨λq hq=>by
    rcases ZX.1 hq with rfl|hq
    ·exact hlt
    ·exact Jt hlt (o.1 q hq),h⟩
  ·rw[if_neg (by simpa using hlt)];refine List.pairwise_cons.2 ⟨λq hq=>?_,FL o.2 (λp hp=>hn p (QT _ hp))⟩;rcases ZX.1 ((Cs x r).mem_iff.1 hq) with rfl|hq
   ·exact Jr (λe=>hn y QP e.symm) hlt
   ·exact o.1 q hq
theorem Ip {l:Names} (h:Srt l) (k:List UInt8) (v:Int):Srt (mput l k v):=by
 unfold mput;refine FL (FS h k) (λp hp=>?_);unfold mdel at hp;have:=(List.mem_filter.1 hp).2
 simpa using this
theorem I2 {l:Names} (h:Srt l) (c:List UInt8×Int):Srt (doOne l c):=by
 unfold doOne;split
 ·exact FS h _
 ·exact Ip h _ _
theorem Gc:∀(l:Names) {d:Names},Srt d→Srt (doAll d l)
 | [],_,h=>h
 | c::r,d,h=>Gc r (I2 h c)
theorem srt_fold:∀(l:List Names) {d:Names},Srt d→Srt (l.foldl doAll d)
 | [],_,h=>h
 | c::r,_,h=>srt_fold r (Gc c h)
theorem Jm {l:Names} (h:Srt l):l.Pairwise (λp q=>p.1≠q.1):=List.Pairwise.imp (λ{a b} h e=>by rw[e]at h;exact List.lt_irrefl _ h) h
theorem srt_keys {l:Names} (h:Srt l):keys l=l.map (·.1):=by
 unfold keys;refine List.mergeSort_of_pairwise ?_;rw[List.pairwise_map];exact List.Pairwise.imp (λ{a b} h=>by rw[decide_eq_true_eq];exact List.le_of_lt h) h
theorem Gx {d:Names} {n:List UInt8} (v:Int) (h:∀p∈d,p.1<n):mput d n v=d++[(n,v)]:=by
 have o:mdel d n=d:=CW (by
  cases hh:mhas d n with
  | false=>rfl
  | true =>
   obtain⟨q,A,e,_⟩:=mget_mem hh;have:=h q A;rw[e]at this;exact absurd this (List.lt_irrefl _))
 unfold mput;rw[o];clear o
 induction d with
 | nil=>rfl
 | cons y r ih =>
  unfold mins;have B:=h y QP;rw[CU,if_neg (by simp;exact List.le_of_lt B),ih (λp hp=>h p (QT _ hp))];rfl
def cutP (st:St) (tails:List Int) (p:List UInt8×Int):List UInt8×Nat :=
 let b:=cut ((st.files[p.2.toNat]?).getD ([],0)) tails[p.2.toNat]?
 (b,b.length)
def idxN (l:Names):Names:=l.mapIdx λi p=>(p.1,(i:Int))
theorem idxN_add (l:Names) (p:List UInt8×Int):idxN (l++[p])=idxN l++[(p.1,(l.length:Int))]:=by unfold idxN;rw[List.mapIdx_concat]
theorem idxN_len (l:Names):(idxN l).length=l.length:=by unfold idxN;rw[List.length_mapIdx]
theorem Ia {l:Names} {q:List UInt8×Int} (h:q∈idxN l):∃p∈l,p.1=q.1:=by
 unfold idxN at h;obtain⟨i,o,e⟩:=List.mem_mapIdx.1 h;exact⟨_,List.getElem_mem o,by rw[← e]⟩
theorem DZ (st:St) (tails:List Int) (D:Names) (hD:Srt D):∀(r done:Names),D=done++r →
  crashGo (cutOf st D tails) (r.map (·.1)) (done.map (cutP st tails)) (idxN done)=(D.map (cutP st tails),idxN D)
 | [],done,h=>by rw[ZM]at h;rw[h];rfl
 | p::r,done,h=>by
  have A:p∈D:=by rw[h];simp
  have hg:mget D p.1=p.2:=by
   have F:mhas D p.1=true:=by unfold mhas;rw[List.any_eq_true];exact⟨p,A,by simp⟩
   exact mget_of (λa ha b hb e=>by rw[pw_eq (Jm hD) ha hb e]) A
  rw[List.map_cons];unfold crashGo;have B:cutOf st D tails p.1=(cutP st tails p).1:=by unfold cutOf cutP;rw[hg]
  have C:mput (idxN done) p.1 ((done.map (cutP st tails)).length:Nat)=idxN (done++[p]):=by
   rw[Gx,idxN_add,QV];intro q hq;obtain⟨E,o,e⟩:=Ia hq;rw[← e];rw[h]at hD;exact (List.pairwise_append.1 hD).2.2 E o p QP
  rw[B,C,show done.map (cutP st tails)++[((cutP st tails p).1,(cutP st tails p).1.length)]=(done++[p]).map (cutP st tails) by rw[List.map_append];rfl];exact DZ st tails D hD r (done++[p]) (by rw[h];simp)
theorem crash_ref (st:St) (dirs:Int) (tails:List Int) (hs:Srt st.sure) :
  crash st dirs tails=⟨0,-1,[],st.room,(crashDir st (dirsOf st dirs)).map (cutP st tails),idxN (crashDir st (dirsOf st dirs)),idxN (crashDir st (dirsOf st dirs)),[]⟩:=by
 have o:Srt (crashDir st (dirsOf st dirs)):=srt_fold _ hs;unfold crash;have:=DZ st tails _ o (crashDir st (dirsOf st dirs)) [] rfl;simp only[srt_keys o];simp only[List.map_nil,show idxN []=[] from rfl]at this;rw[this]
theorem IG {l:Names} (h:Srt l):Srt (idxN l):=by
 have e:(idxN l).map (·.1)=l.map (·.1):=by
  refine List.ext_getElem (by simp[idxN]) (λi o h2=>by simp[idxN])
 unfold Srt at *;have o:(l.map (·.1)).Pairwise (λx y=>x<y):=List.pairwise_map.2 h;rw[← e]at o;exact List.pairwise_map.1 o
end Fs
namespace Fr
theorem GE (l:List UInt8):0≤sum l∧sum l<4294967296:=ES _ _ _
theorem IB (n:Int) (r:List UInt8):(four n++r).length=4+r.length:=by rw[QS];rfl
theorem Gi {k:Int} {p:List UInt8} (hp:p.length≤8192) (r:List UInt8):num (bytes k p++r)=p.length:=by
 have:=num_four (p.length:Int) (by omega) (by omega) ((inner k p++four (sum (inner k p)))++r);unfold bytes;rw[List.append_assoc];omega
theorem kind_bytes {k:Int} {p:List UInt8} (hk:1≤k∧k≤9):kind (bytes k p)=k:=by
 unfold kind;have:(bytes k p).getD 4 0=byte k:=rfl;rw[this,byte_val];omega
theorem pay_bytes {k:Int} {p:List UInt8}:pay (bytes k p)=p:=by
 unfold pay;rw[bytes_len,show p.length+9-9=p.length by omega];have:(bytes k p).drop 5=p++four (sum (inner k p)):=rfl;rw[this,List.take_left]
theorem Fz {k:Int} {p:List UInt8}:body (bytes k p)=inner k p:=by
 unfold body;rw[bytes_len,show p.length+9-8=(inner k p).length by unfold inner;simp];have:(bytes k p).drop 4=inner k p++four (sum (inner k p)):=rfl;rw[this,List.take_left]
theorem F9 {k:Int} {p:List UInt8}:(bytes k p).drop ((bytes k p).length-4)=four (sum (inner k p)):=by
 rw[bytes_len,show p.length+9-4=(four (p.length:Int)++inner k p).length by rw[IB];unfold inner;simp;omega];unfold bytes;rw[← List.append_assoc,List.drop_left]
theorem dec_bytes {k:Int} {p:List UInt8} (h:encE k p=0):decE (bytes k p)=0∧(1≤k∧k≤9)∧p.length≤8192:=by
 unfold encE at h;by_cases h1:k<1∨9<k
 ·rw[if_pos h1]at h;cases h
 ·rw[if_neg h1]at h;by_cases h2:8192<p.length
  ·rw[if_pos h2]at h;cases h
  ·have A:1≤k∧k≤9:=by omega
   have C:p.length≤8192:=by omega
   refine⟨?_,A,C⟩;have D:=Gi (k:=k) C [];rw[ZM]at D;have B:=GE (inner k p);have o:=num_four (sum (inner k p)) B.1 B.2 [];rw[ZM]at o;unfold decE;rw[D,kind_bytes A,Fz,F9,o,bytes_len,if_neg (by omega),if_neg (by omega),if_neg (by simp)]
end Fr
open Go.Maps Go.WideMaps
abbrev Be (w:World) (v:Value) (l:List Int):Prop:=Ints w v l
theorem Be.ints {w:World} {v:Value} {l:List Int} (h:Be w v l):Ints w v l:=h
theorem Al.keep1 {w w':World} {a:Option Addr} {n c:Nat} {l:List UInt8} (h:Al w (.slice a n c) l) (hs:w.heap.size≤w'.heap.size) (hk:∀b,a=some b→b.block<w.heap.size→w'.heap[b.block]?=w.heap[b.block]?):Al w' (.slice a n c) l:=by
 obtain⟨H,cap,B,G,F,D⟩:=h;simp only[Value.slice.injEq]at B;obtain⟨rfl,A,rfl⟩:=B;refine⟨a,c,by rw[A],G,F,λi x hi=>?_⟩;obtain⟨b,o,e,C,E⟩:=D i x hi;have hb:w'.heap[b]?=w.heap[b]?:=hk ⟨b,o,none⟩ e C;exact⟨b,o,e,ZT C hs,by rw[World.cell?_of_block hb];exact E⟩
structure PO (w:World) (base:Nat) (v:Value) (ps:List (List UInt8×Value)):Prop where
 row:w.ownsRow base 38 1 v ps.length (ps.map (·.2))
 pay:∀p∈ps,Al w p.2 p.1∧∃g n c,p.2=.slice (some ⟨g,0,none⟩) n c∧g<w.heap.size∧v.ownBlock≠some g
theorem PO.nil (w:World) (base:Nat):PO w base (.slice none 0 0) []:=⟨World.ownsRow_nil _ _ _ _,λp h=>by simp at h⟩
theorem PO.keep {w w':World} {base:Nat} {v:Value} {ps:List (List UInt8×Value)} (h:PO w base v ps) (hb:Below w.heap.size w w'):PO w' base v ps :=
 ⟨AQ h.row (λg hg=>hb.block g (h.row.lt g hg).2),λp hp=>by
  obtain⟨o,g,n,c,C,A,B⟩:=h.pay p hp;exact⟨o.below hb,g,n,c,C,ZT A hb.size,B⟩⟩
theorem PO.more {w w5:World} {base:Nat} {v v':Value} {ps:List (List UInt8×Value)} {l:List UInt8} {g n c:Nat} (h:PO w base v ps) (hx:Al w (.slice (some ⟨g,0,none⟩) n c) l) (hg:g<w.heap.size) (hne:v.ownBlock≠some g)
  (hrow:w5.ownsRow base 38 1 v' (ps.length+1) (ps.map (·.2)++[.slice (some ⟨g,0,none⟩) n c])) (hgr:w.grownBy w5 v.ownBlock) (hloc:v'.ownBlock=v.ownBlock∨v'.ownBlock=some w.heap.size) :
  PO w5 base v' (ps++[(l,.slice (some ⟨g,0,none⟩) n c)]):=by
 have o:∀(y:Value) (l:List UInt8),Al w y l→(∃g n c,y=.slice (some ⟨g,0,none⟩) n c∧g<w.heap.size∧v.ownBlock≠some g)→Al w5 y l∧∃g n c,y=.slice (some ⟨g,0,none⟩) n c∧g<w5.heap.size∧v'.ownBlock≠some g:=by
  rintro y l hy ⟨g,n,c,rfl,h3,h4⟩;refine⟨hy.keep1 hgr.size (λb e hb=>?_),g,n,c,rfl,ZT h3 hgr.size,?_⟩
  ·simp at e;subst e;exact hgr.block g h3 (λe=>h4 e.symm)
  ·rcases hloc with e|e
   ·rw[e];exact h4
   ·rw[e];intro e2;simp at e2;omega
 refine⟨?_,λp hp=>?_⟩
 ·rw[QS,List.map_append];exact hrow
 ·rcases ZI.1 hp with hp|hp
  ·exact o p.2 p.1 (h.pay p hp).1 (h.pay p hp).2
  ·simp at hp;subst hp;exact o _ l hx ⟨g,n,c,rfl,hg,hne⟩
theorem PO.prts {w:World} {base:Nat} {v:Value} {ps:List (List UInt8×Value)} (h:PO w base v ps):CM w v (ps.map (·.1)):=by
 rcases h.row.2 with⟨h1,h2⟩|⟨g,cap,cur,h1,h2,h3,h4,h5⟩
 ·exact⟨none,0,by rw[h1,QV,h2],by rw[QV];omega,λi x hx=>by
   have:=(List.getElem?_eq_some_iff.1 hx).1;rw[QV]at this;omega⟩
 ·refine⟨some ⟨g,0,none⟩,cap,by rw[h1,QV],by rw[QV];exact h4,λi x hx=>?_⟩;rw[ZF]at hx;cases hp:ps[i]? with
  | none=>rw[hp]at hx;cases hx
  | some p =>
   rw[hp]at hx;simp at hx;subst hx;have o:=World.ownsRow.cells h.row (g:=g) (by rw[h1];rfl) i p.2 (by rw[ZF,hp];rfl);rw[addr_add]at o;exact⟨g,0,p.2,rfl,AE h3,by rw[Nat.zero_add];exact o,(h.pay p (QZ hp)).1⟩
def AZ (l:List Int):List Value:=l.map λx=>.int .i64 x
def Ae (w:World) (base:Nat) (v:Value) (l:List Int):Prop:=w.ownsRow base 3 1 v l.length (AZ l)
theorem JN:(Tryz.prog.info? 3).map (λi=>(i.zero,i.size,i.bytes))=some (some (.int .i64 0),1,8):=by kernel_rfl
theorem C4 (l:List Int):∀u∈AZ l,u.oneCell'=true:=λu hu=>by
 obtain⟨x,_,rfl⟩:=List.mem_map.1 hu;rfl
theorem Ae.nums {w:World} {base:Nat} {v:Value} {l:List Int} (h:Ae w base v l):Be w v l:=by
 have o:=λg hg=>World.ownsRow.cells (g:=g) h hg
 rcases h.2 with⟨h1,h2⟩|⟨g,cap,cur,h1,hg,hb,hc,hm,_,_⟩
 ·exact⟨none,0,by rw[h1,h2],λi x hx=>by
   have:=(List.getElem?_eq_some_iff.1 hx).1;omega⟩
 ·refine⟨some ⟨g,0,none⟩,cap,h1,λi x hx=>⟨g,0,rfl,AE hb,?_⟩⟩;have:=o g (by rw[h1];rfl) i (.int .i64 x) (by simp[AZ,hx]);rw[addr_add]at this;rw[Nat.zero_add];exact this
theorem Ae.keep {w w':World} {base:Nat} {v:Value} {l:List Int} (h:Ae w base v l) (hb:Below w.heap.size w w'):Ae w' base v l :=
 AQ h (λg hg=>hb.block g (h.lt g hg).2)
theorem Ae.one (w:World) (x:Int) (base:Nat) (hb:base≤w.heap.size):Ae (w.alloc (.cells #[.int .i64 x] 3)) base (.slice (some ⟨w.heap.size,0,none⟩) 1 1) [x] :=
 World.ownsRow_lit (base:=base) (e:=3) (size:=1) w #[.int .i64 x] 1 hb (by unfold maxLen;omega) rfl
theorem BI {ops:Array Oper} {rest:List Oper} {o:Oper} {a:Act} {w:World} {Q:Exit→Act→World→Prop} (hgd:o.guard=none) (s x:Operand)
  (ho:o.op=.call { callee:=.builtin .append,args:=#[s,x],argTypes:=#[31,31] })
  (base:Nat) (v:Value) (l:List Int) (hs:a.eval s=v) (hown:Ae w base v l) (xv:Value) (news:List Int) (hx:a.eval x=xv) (hB:Be w xv news)
  (hne:0<news.length) (h63:l.length+news.length≤2000000000) (hbase:base≤w.heap.size)
  (h:∀v' w',Ae w' base v' (l++news)→w.grownBy w' v.ownBlock→(v'.ownBlock=v.ownBlock∨v'.ownBlock=some w.heap.size)→wpList Tryz.prog ops Q rest (a.put o.dst v') w') :
  wpList Tryz.prog ops Q (o::rest) a w:=by
 obtain⟨I,H,C,B,D⟩:=info_parts JN;obtain⟨K,J,rfl⟩:=hB.form;have A:AZ (l++news)=AZ l++AZ news:=by simp[AZ]
 cases K with
 | none =>
  obtain⟨y,L⟩:∃y,news[0]?=some y:=⟨_,ZG hne⟩
  obtain⟨_,_,e,_⟩:=hB.at L;cases e
 | some ad =>
  refine wpList_append_own_at w hgd s x _ ho base 3 I (.int .i64 0) 1 8 Tryz.underlying31 H C B D rfl (by decide) v l.length (AZ l) hs hown ad news.length J (AZ news) hx (by simp[AZ]) ?_ (C4 news) (by unfold maxLen;omega) (by omega) hbase ?_
  ·intro j u hj;unfold AZ at hj;rw[ZF]at hj;cases hx2:news[j]? with
   | none=>rw[hx2]at hj;cases hj
   | some y =>
    rw[hx2]at hj;simp at hj;obtain⟨b,G,E,M,F⟩:=hB.at hx2;cases E;rw[Bd,← hj];exact F
  ·intro v' w' h1 h2 _ h4;exact h v' w' (by unfold Ae;rw[QS,A];exact h1) h2 h4
theorem Ae.form3 {w:World} {base:Nat} {v:Value} {l:List Int} (h:Ae w base v l):∃a n c,v=.slice a n c∧Hid (n=l.length):=by
 obtain⟨a,c,e⟩:=BV h;exact⟨a,_,c,e,QA rfl⟩
theorem Je:(Tryz.prog.info? 38).map (λi=>(i.zero,i.size,i.bytes))=some (some (.slice none 0 0),1,24):=by kernel_rfl
theorem Fv (w:World) (s:ByteArray) (cap:Nat) (hc:s.size≤cap) (fz:Nat×Nat):Al (w.drew.alloc (.cells (bytesRow s cap) 5 fz)) (.slice (some ⟨w.heap.size,0,none⟩) s.size cap) s.data.toList:=by
 have A:s.data.toList.length=s.size:=by simp
 refine⟨some ⟨w.heap.size,0,none⟩,cap,by rw[A],by rw[A];exact hc,(λe=>by cases e),λi x hi=>⟨w.heap.size,0,rfl,?_,?_⟩⟩
 ·show w.heap.size<(w.drew.alloc _).heap.size;simp
 ·have B:(w.drew.alloc (.cells (bytesRow s cap) 5 fz)).heap[w.heap.size]?=some (.cells (bytesRow s cap) 5 fz):=AH w.drew _;rw[Nat.zero_add,cell_of_row _ _ _ _ _ _ B];have o:=(List.getElem?_eq_some_iff.1 hi).1;unfold bytesRow;rw[Array.getElem?_append_left (by simpa using o)];rw[Array.getElem?_map];have:s.data[i]?=some x:=by rw[← Array.getElem?_toList];exact hi
  rw[this];rfl
theorem Fi (w:World) (o:Obj) (t:TypeId) (v:Value):∀j u,[v][j]?=some u→(((w.alloc o).alloc (.cells #[v] t)).drew).cell? ((⟨w.heap.size+1,0,none⟩:Addr).add j)=some u:=by
 intro j u hj;have e:(w.alloc o).heap.size=w.heap.size+1:=by simp
 rw[addr_add,← e];exact A4 (w.alloc o) #[v] t j u (by simpa using hj)
theorem Cx (w:World) (o p:Obj):Below w.heap.size w ((w.alloc o).alloc p).drew:=Below.drew (((Below.refl _ _).alloc (QM _) _).alloc (by simp) _)
theorem I0 {w:World} {o:Obj} {v:Value} {l:List UInt8} (h:Al (w.drew.alloc o) v l) (p:Obj):Al (((w.alloc o).alloc p).drew) v l :=
 h.keep (by simp) (λk hk=>by
  show ((w.alloc o).alloc p).heap[k]?=(w.alloc o).heap[k]?;exact Lib.alloc_old _ _ _ hk)
theorem Jx {w:World} {base:Nat} {v:Value} {ps:List (List UInt8×Value)} (h:PO w base v ps):v.ownBlock≠some w.heap.size:=λe=>by
 have:=(h.row.lt _ e).2;omega
open Go.Maps Go.WideMaps
theorem JW (v:Value) (l:List Int) (w:World) (h:Ints w v l) (hl:l.length≤1000000) :
  Calls Tryz.prog 71 #[v] w λe w'=>∃v',e=.returned v'∧Ae w' w.heap.size v' l∧Below w.heap.size w w':=by
 obtain⟨a,c,E,B⟩:=h;subst E;cases a with
 | none =>
  have A:l=[]:=by
   cases l with
   | nil=>rfl
   | cons x r=>obtain⟨b,o,e,_⟩:=B 0 x rfl;cases e
  subst A;refine (Tryz.slices_Clone_int_nil 0 c w).mono ?_;rintro e w' ⟨rfl,rfl⟩;exact⟨_,rfl,World.ownsRow_nil _ _ _ _,Below.refl _ _⟩
 | some p =>
  cases l with
  | nil =>
   refine (Tryz.slices_Clone_int_zero p c w).mono ?_;rintro e w' ⟨v',rfl,h3,_,h4⟩;exact⟨v',rfl,h3,h4⟩
  | cons x r =>
   obtain⟨b,o,e,_⟩:=B 0 x rfl;cases e;refine (Tryz.slices_Clone_int b o (x::r).length c (x::r) w (QM _) (by omega) ?_).mono ?_
   ·intro j hj;obtain⟨G,D,C,_,F⟩:=B j (x::r)[j] (ZG hj);simp only[Option.some.injEq,Addr.mk.injEq,and_true]at C;obtain⟨rfl,rfl⟩:=C;rw[F,List.getD_eq_getElem?_getD,ZG hj];rfl
   ·rintro e w' ⟨v',rfl,h3,_,h4⟩;rw[List.take_of_length_le (QM _)]at h3;exact⟨v',rfl,h3,h4⟩
namespace Fs
def planned (st:St) (l:List Int):St:={ st with plan:=l }
end Fs
theorem Ae.plan {w:World} {base:Nat} {v:Value} {l:List Int} {own:Nat→Tag} (h:Ae w base v l) (ht:∀g,v.ownBlock=some g→own g=.plan):BQ w own v l:=by
 obtain⟨a,c,o,E⟩:=h.nums;have D:l.length≤c:=by
  rcases h.2 with⟨A,C⟩|⟨g,cap,cur,A,hg,hb,D,hm,_,_⟩
  ·rw[C];exact ZS _
  ·rw[A]at o;simp only[Value.slice.injEq]at o;omega
 refine⟨a,c,o,D,λi x hi=>?_⟩;obtain⟨b,B,e,A,C⟩:=E i x hi;exact⟨b,B,e,ht b (by rw[o,e];rfl),A,C⟩
theorem IW (base B:Nat) (st:Fs.St) (V:FsV) (own:Nat→Tag) (sv:Value) (l:List Int) (w:World) (h:Ad base B st V own w) (hN:Ints w sv l) (hl:l.length≤1000000) :
  Calls Tryz.prog 34 #[.pointer (some ⟨B,0,none⟩),sv] w λe w'=>e=.returned (.tuple #[])∧AV base B (Fs.planned st l) own w w':=by
 have H:=QA h;have O:=QA hN;obtain⟨W,R,rfl⟩:=hN.form;clear h;go_enter Tryz.func34,Tryz.ntmps34;go_wp2_with fail;refine (JW _ l w O.out hl).mono ?_;rintro e w1 ⟨v',rfl,ho,hb1⟩;have S:=AC (H.out.kept (AL hb1)).at_.root 2;have T:w1.cell? ⟨B,2,none⟩=some V.pv:=AA (H.out.kept (AL hb1)).at_.root 2 _ rfl;obtain⟨I,J,K,P,_⟩:=Ae.form3 ho;subst P;have N:=QA ho;have E:=QA hb1;clear ho hb1;go_wp2_with fail;go_end0;obtain⟨o,D,L,G⟩:∃o:Nat→Tag,(∀k,k<w.heap.size→o k=own k)∧(∀g,(Value.slice I J K).ownBlock=some g→o g=.plan)∧(∀k,w1.heap.size≤k→o k=.other):=by
  cases hg:(Value.slice I J K).ownBlock with
  | none=>exact⟨own,λ_ _=>rfl,λg e=>(by cases e),λk C=>H.out.fresh k (QQ E.out.size C)⟩
  | some g =>
   have Q:=N.out.lt g hg;refine⟨Br own g .plan,λk C=>if_neg (by omega),λg' e=>?_,λk C=>?_⟩
   ·cases e;exact if_pos rfl
   ·unfold Br;rw[if_neg (by omega)];exact H.out.fresh k (QQ E.out.size C)
 have M:=(H.out.kept (AL E.out)).at_;have A:Bp base B st V o w1:=M.tags λk C hne=>by
  by_cases hkw:k<w.heap.size
  ·exact D k hkw
  ·exact absurd (H.out.fresh k (by omega)) hne
 have C:Kept o (·=.root) w1 (w1.setCell ⟨B,2,none⟩ (.slice I J K)):=(Kept.refl _ _ _).setCell ⟨B,2,none⟩ A.tB _;have F:=A.power (s:=st.steps) (l:=st.left) (p:=l) (pv:=.slice I J K) C H.out.at_.left (N.out.plan L) (heap_set A.root _);refine⟨rfl,_,o,⟨F,λk hk2=>G k (QQ C.size hk2),λk hk2=>?_⟩,D,?_⟩
 ·by_cases hkw:k<w.heap.size
  ·rw[D k hkw];exact H.out.old k hk2
  ·by_cases hk1:k<w1.heap.size
   ·have hb:=H.out.at_.bl;have:=H.out.at_.dir.lt;omega
   ·exact G k (by omega)
 ·have U:=AE H.out.at_.root;exact⟨E.out.os,E.out.tape,E.out.output,QQ E.out.size C.size,λk hk2 ht=>by
   rw[C.block k (ZT hk2 E.out.size) (by rw[D k hk2];intro e;rw[e]at ht;exact ht (by simp)),E.out.block k hk2]⟩
end Go.Proofs.YtmlekglfdiacpaaGreatDoor
