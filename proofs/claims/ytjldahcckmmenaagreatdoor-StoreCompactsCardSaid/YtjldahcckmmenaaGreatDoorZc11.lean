/-
  The store's disk in calm weather (plain): what its files hold, what is opened, a fresh segment, a batch more. A batch is written (plain): which segment it goes to, what the disk must have room for. Manifests: Clean, walked. The file system in any weather (plain): what names hold behind each operation.
-/
import Derived.Test.YtjldahcckmmenaaGreatDoorZc10
import Derived.Test.YtjldahcckmmenaaGreatDoorZc9
open Bool renaming and_eq_true → ZA
open Go.Lib renaming hid → QA
open List renaming mem_singleton → QB, mem_cons_self → QP, length_append → QS, mem_cons_of_mem → QT, getElem?_eq_getElem → ZG, mem_append → ZI, append_nil → ZM, nil_append → ZN, mem_cons → ZX
open Nat renaming le_refl → QM, le_trans → QQ, zero_le → ZS
namespace Go.Proofs.YtjldahcckmmenaaGreatDoor
set_option maxRecDepth 100000
set_option maxHeartbeats 4000000
set_option linter.unusedSimpArgs false
set_option linter.unusedVariables false
open Go Go.RowKit
namespace Sto
abbrev Seg:=Int×List (List Op)
def EX (bs:List (List Op)):List Fr.F:=bs.map λops=>((1:Int),flat ops)
def fileOf (bs:List (List Op)):List UInt8:=Fr.flat (EX bs)
def ids (S:List Seg):List Int:=S.map (·.1)
def batches (S:List Seg):List (List Op):=S.flatMap (·.2)
def ents (S:List Seg):Ents:=chgs [] (batches S).flatten
structure GoodB (ops:List Op):Prop where
 chk:chk ops=0
 some':0<ops.length
 key:∀o∈ops,o.1.length=32
theorem GoodB.mass_le {ops:List Op} (h:GoodB ops):mass ops≤8192:=by
 have:=h.chk;unfold Sto.chk at this;split at this
 ·cases this
 split at this
 ·cases this
 split at this
 ·cases this
 ·omega
theorem GoodB.enc {ops:List Op} (h:GoodB ops):Fr.encE 1 (flat ops)=0:=by
 unfold Fr.encE;rw[if_neg (by omega),if_neg (by rw[flat_len ops h.key];have:=h.mass_le;omega)]
theorem GoodB.blen {ops:List Op} (h:GoodB ops):(Fr.bytes 1 (flat ops)).length=mass ops+9:=by rw[Fr.bytes_len,flat_len ops h.key]
def Lv (bs:List (List Op)):Prop:=∀j,live (chgs [] (bs.take j).flatten)≤50000
theorem Lv.snoc {bs:List (List Op)} (h:Lv bs) {ops:List Op} (ho:live (chgs (chgs [] bs.flatten) ops)≤50000):Lv (bs++[ops]):=λj=>by
 by_cases hj:j≤bs.length
 ·rw[List.take_append_of_le_length hj];exact h j
 ·rw[List.take_of_length_le (by simp;omega),List.flatten_append,chgs_app]
  simpa using ho
theorem BH (bs:List (List Op)) (ops:List Op):fileOf (bs++[ops])=fileOf bs++Fr.bytes 1 (flat ops):=by
 unfold fileOf EX;rw[List.map_append,Fr.flat_app];simp[Fr.flat]
def ens (S:List Seg):List Sg.En:=S.flatMap λs=>(EX s.2).map λf=>(s.1,f)
structure DiskX (f:Fs.St) (k:Nat) (ver:Int) (S:List Seg) (M:Nat):Prop where
 calm:Fs.Calm f
 inv:Fs.Inv f
 sound:Fs.Sound f k
 good:Mf.good ver (ids S)=true
 small:ver≤k∧∀s∈S,s.1≤k
 man:Fs.look f Mf.final=some (Mf.enc ver (ids S))
 seg:∀s∈S,Fs.look f (Sg.nameB s.1)=some (fileOf s.2)
 bat:∀b∈batches S,GoodB b
 lv:Lv (batches S)
 len:800≤M∧∀s∈S,(fileOf s.2).length≤M
structure Disk (f:Fs.St) (k:Nat) (ver:Int) (S:List Seg) (M:Nat):Prop where
 x:DiskX f k ver S M
 no:∀n,n≠Mf.final→(∀s∈S,n≠Sg.nameB s.1)→Fs.look f n=none
 dir:f.dir.length≤S.length+1
theorem BK (id:Int):Mf.final≠Sg.nameB id:=by
 unfold Sg.nameB Mf.final;split<;>simp
theorem Cj (id:Int):Mf.draft≠Sg.nameB id:=by
 unfold Sg.nameB Mf.draft;split<;>simp
section
variable {f : Fs.St} {k : Nat} {ver : Int} {S : List Seg} {M : Nat}
theorem DiskX.name (h:DiskX f k ver S M) {s:Seg} (hs:s∈S):Sg.nameE s.1=0:=by
 have:=Mf.incr_pos (Int.le_refl 0) (Mf.good_out h.good).2.2 s.1 (List.mem_map.2 ⟨s,hs,rfl⟩);unfold Sg.nameE;rw[if_neg (by omega)]
theorem DiskX.has (h:DiskX f k ver S M):Fs.mhas f.dir Mf.final=true:=by rw[Fs.has_look,h.man];rfl
theorem DiskX.load (h:DiskX f k ver S M):Mf.load f=((ver,ids S),0):=Mf.load_look h.good h.man
theorem DiskX.at (h:DiskX f k ver S M) {s:Seg} (hs:s∈S):Fs.openE f (Sg.nameB s.1)=0∧Fs.fileAt f (Sg.nameB s.1)=fileOf s.2:=by
 obtain⟨o,A⟩:=Fs.look_some (h.seg s hs);exact⟨Fs.openE_of (Sg.good_name (h.name hs)) o,A⟩
theorem DiskX.read (h:DiskX f k ver S M):Sg.read f (ids S)=(ens S,true,0):=by
 have C:(S.map λs=>((s.1,EX s.2):Sg.Seg)).map (·.1)=ids S:=by rw[List.map_map];rfl
 have B:(S.map λs=>((s.1,EX s.2):Sg.Seg)).flatMap (λs=>s.2.map λf=>(s.1,f))=ens S:=by rw[List.flatMap_map];rfl
 unfold Sg.read;rw[← C,if_neg (by
  rw[Sg.bad_none _ (λs hs=>by
   obtain⟨t,o,rfl⟩:=List.mem_map.1 hs;exact h.name o)];simp),Sg.read_go (l:=S.map λs=>((s.1,EX s.2):Sg.Seg)),B]
 ·rfl
 ·intro s hs;obtain⟨t,o,rfl⟩:=List.mem_map.1 hs;exact (h.at o).1
 ·intro s hs;obtain⟨t,o,rfl⟩:=List.mem_map.1 hs;show Fr.scan (Fs.fileAt f (Sg.nameB t.1))=_;rw[(h.at o).2];have:=Fr.scan_flat [] Fr.stop_nil (EX t.2) (λx hx=>by
   obtain⟨b,A,rfl⟩:=List.mem_map.1 hx;exact (h.bat b (List.mem_flatMap.2 ⟨t,o,A⟩)).enc)
  rwa [ZM]at this
theorem FR (h:DiskX f k ver S M) {s:Seg} (hs:s∈S):Fs.keepN (ids S) (Sg.nameB s.1)=true:=by
 unfold Fs.keepN;rw[(Sg.id_name (h.name hs)).1,Bool.or_eq_true];exact .inr (List.contains_iff_mem.2 (List.mem_map.2 ⟨s,hs,rfl⟩))
theorem FP (h:DiskX f k ver S M) {n:List UInt8} (hn:Fs.keepN (ids S) n=true):n=Mf.final∨∃s∈S,n=Sg.nameB s.1:=by
 unfold Fs.keepN at hn;rw[Bool.or_eq_true]at hn;rcases hn with hn|hn
 ·exact .inl (of_decide_eq_true hn)
 ·obtain⟨s,A,e⟩:=List.mem_map.1 (List.contains_iff_mem.1 hn);have o:=h.name A;have B:s.1≠0:=λe0=>by rw[e0]at o;exact absurd o (by decide)
  exact .inr ⟨s,A,((Fs.idOf_name e.symm B).1).symm⟩
theorem Db {l:List Int}:∀(r:List (List UInt8)) (st:Fs.St),(∀x∈r,Fs.keepN l x=true)→Fs.cleanGo l r st 0=(st,0,0)
 | [],st,_=>rfl
 | x::r,st,h=>by
  rw[Fs.cleanGo,if_pos (h x QP)];exact Db r st λy hy=>h y (QT _ hy)
theorem Disk.clean (h:Disk f k ver S M):Fs.clean f ver (ids S)=(f,0,0):=by
 unfold Fs.clean;rw[if_neg (by rw[h.x.good];simp)];refine Db _ _ λx o=>?_
 have o:=Fs.keys_mem.1 o;by_cases h1:x=Mf.final
 ·rw[h1];unfold Fs.keepN;simp
 by_cases h2:∃s∈S,x=Sg.nameB s.1
 ·obtain⟨s,A,rfl⟩:=h2;exact FR h.x A
 ·have:=h.no x h1 λs A e=>h2 ⟨s,A,e⟩
  rw[Fs.has_look,this]at o;cases o
theorem DiskX.clean (h:DiskX f k ver S M):(Fs.clean f ver (ids S)).2.2=0∧DiskX (Fs.clean f ver (ids S)).1 (k+2*k) ver S M ∧
  ∀n,n≠Mf.final→(∀s∈S,n≠Sg.nameB s.1)→Fs.look (Fs.clean f ver (ids S)).1 n=none:=by
 obtain⟨D,B,C,E,F,o⟩:=Fs.clean_calm h.calm h.inv h.good;obtain⟨A,_⟩:=Fs.clean_sound h.sound (λz hz=>by rw[h.calm.2]at hz;cases hz) ver (ids S);refine⟨D,⟨B,C,A,h.good,⟨by have:=h.small.1;omega,λs hs=>by have:=h.small.2 s hs;omega⟩,?_,λs hs=>?_,h.bat,h.lv,h.len⟩,λn hn hs=>?_⟩
 ·rw[o,if_pos (by unfold Fs.keepN;simp)];exact h.man
 ·rw[o,if_pos (FR h hs)];exact h.seg s hs
 ·rw[o,if_neg];intro e;rcases FP h e with rfl|⟨s,h8,rfl⟩
  ·exact hn rfl
  ·exact hs s h8 rfl
theorem FC:∀{l:List Int} {last x:Int},Mf.incr last l=true→last<x→(∀n∈l,n<x)→x≤2147483647→Mf.incr last (l++[x])=true
 | [],last,x,_,h1,_,h3=>by simp[Mf.incr,h1,h3]
 | y::r,last,x,h,h1,h2,h3=>by
  rw[Mf.incr]at h;simp only[ZA,decide_eq_true_eq]at h;rw[List.cons_append,Mf.incr];simp only[ZA,decide_eq_true_eq];exact⟨h.1,h.2.1,FC h.2.2 (h2 y QP) (λn hn=>h2 n (QT _ hn)) h3⟩
theorem Ch:∀{l:List Int} {last:Int},Mf.incr last l=true→∀n∈l,n≤l.getLastD last
 | [],_,_,n,hn=>by cases hn
 | y::r,last,h,n,hn=>by
  rw[Mf.incr]at h;simp only[ZA,decide_eq_true_eq]at h;rw[List.getLastD_cons];rcases ZX.1 hn with rfl|hn
  ·cases r with
   | nil=>exact Int.le_refl _
   | cons z r =>
    have o:=h.2.2;have A:=Ch o z QP;rw[Mf.incr]at o;simp only[ZA,decide_eq_true_eq]at o;omega
  ·exact Ch h.2.2 n hn
def act (S:List Seg):Int:=(ids S).getLastD 0
theorem ids_app (S T:List Seg):ids (S++T)=ids S++ids T:=List.map_append ..
theorem act_snoc (S:List Seg) (s:Seg):act (S++[s])=s.1:=by
 unfold act;rw[ids_app];simp[ids]
theorem Ba (S T:List Seg):batches (S++T)=batches S++batches T:=List.flatMap_append ..
theorem Disk.nodup (h:DiskX f k ver S M) {id:Int} (hid:act S<id):∀s∈S,s.1≠id:=λs hs e=>by
 have:=Ch (Mf.good_out h.good).2.2 s.1 (List.mem_map.2 ⟨s,hs,rfl⟩);have o:act S=(ids S).getLastD 0:=rfl;omega
theorem Disk.create (h:Disk f k ver S M) {id:Int} (hid:act S<id) (hn:Sg.nameE id=0) (hS:S.length<60) :
  (Sg.create f id).2=0∧Fs.Calm (Sg.create f id).1∧Fs.Inv (Sg.create f id).1∧Fs.Sound (Sg.create f id).1 (k+2)∧(Sg.create f id).1.room=f.room∧(Sg.create f id).1.dir.length≤S.length+2 ∧
   ∀m,Fs.look (Sg.create f id).1 m=if m=Sg.nameB id then some [] else Fs.look f m:=by
 have o:Fs.look f (Sg.nameB id)=none:=h.no _ (λe=>BK id e.symm) λs hs e=>Disk.nodup h.x hid s hs (Sg.name_inj (h.x.name hs) hn e.symm)
 have G:=h.dir;obtain⟨a1,a2,E,a4⟩:=Fs.calm_create h.x.calm h.x.inv (Sg.good_name hn) (Fs.look_none o) (by omega);obtain⟨D,A,C,H,B⟩:=Fs.calm_syncDir a2.calm a2.inv;have F:Sg.create f id=Fs.syncDir (Fs.create f (Sg.nameB id)).1:=by
  unfold Sg.create;rw[if_neg (by rw[hn];simp),if_neg (by rw[a1];simp)]
 rw[F];exact⟨D,A.calm,A.inv,(h.x.sound.create _).syncDir,A.room.trans a2.room,by rw[C,E];omega,λm=>by rw[B];exact a4 m⟩
theorem Disk.len (h:Disk f k ver S M):∀n b,Fs.look f n=some b→b.length≤M:=λn b hb=>by
 by_cases h1:n=Mf.final
 ·rw[h1,h.x.man]at hb;rw[← Option.some.inj hb];exact QQ (Mf.enc_len h.x.good) h.x.len.1
 by_cases h2:∃s∈S,n=Sg.nameB s.1
 ·obtain⟨s,o,rfl⟩:=h2;rw[h.x.seg s o]at hb;rw[← Option.some.inj hb];exact h.x.len.2 s o
 ·rw[h.no n h1 λs o e=>h2 ⟨s,o,e⟩]at hb;cases hb
theorem EA (h:DiskX f k ver S M):∃s∈S,s.1=act S:=by
 have B:=(Mf.good_out h.good).2.1.1;have o:ids S≠[]:=λe=>by rw[e]at B;simp at B
 have:act S=(ids S).getLast o:=by unfold act;rw[List.getLastD_eq_getLast?,List.getLast?_eq_some_getLast o];rfl
 have A:=List.getLast_mem o;rw[← this]at A;obtain⟨s,C,e⟩:=List.mem_map.1 A;exact⟨s,C,e⟩
theorem Disk.room (h:Disk f k ver S M) (hS:S.length<32) (hk:k≤1000000) (hr:((S.length+3)*M+800:Nat)≤f.room) :
  (Sg.create f (act S+1)).2=0∧(Mf.save (Sg.create f (act S+1)).1 (wrap64 (ver+1)) (ids S++[act S+1])).2=0∧wrap64 (ver+1)=ver+1 ∧
   Fs.Sound (Sg.create f (act S+1)).1 (k+2)∧Fs.Calm (Sg.create f (act S+1)).1∧(Mf.save (Sg.create f (act S+1)).1 (wrap64 (ver+1)) (ids S++[act S+1])).1.room=f.room ∧
   Disk (Mf.save (Sg.create f (act S+1)).1 (wrap64 (ver+1)) (ids S++[act S+1])).1 (k+14) (ver+1) (S++[(act S+1,[])]) M:=by
 obtain⟨I,E,ea⟩:=EA h.x;have U:=h.x.small.2 I E;have T:=h.x.small.1;have L:=Mf.good_out h.x.good;have R:1≤act S:=by
  have:=Mf.incr_pos (Int.le_refl 0) L.2.2 I.1 (List.mem_map.2 ⟨I,E,rfl⟩);omega
 have hw:wrap64 (ver+1)=ver+1:=by unfold wrap64;omega
 have D:Sg.nameE (act S+1)=0:=by unfold Sg.nameE;rw[if_neg (by omega)]
 obtain⟨V,O,Z,J,P,c6,G⟩:=h.create (id:=act S+1) (by omega) D (by omega);have N:(ids S).length=S.length:=List.length_map _;have o:Mf.good (ver+1) (ids S++[act S+1])=true:=by
  unfold Mf.good;rw[FC L.2.2 (by omega) (λn hn=>by have:n≤act S:=Ch L.2.2 n hn;omega) (by omega)];simp only[Bool.and_true,ZA,decide_eq_true_eq,QS,List.length_singleton,N];omega
 have C:∀n b,Fs.look (Sg.create f (act S+1)).1 n=some b→b.length≤M:=λn b hb=>by
  rw[G]at hb;split at hb
  ·rw[← Option.some.inj hb];exact ZS _
  ·exact h.len n b hb
 have Q:((Sg.create f (act S+1)).1.dir.length+1)*M≤(S.length+3)*M:=Nat.mul_le_mul_right M (by omega);obtain⟨Y,K,s3,X,s5,H⟩:=Mf.save_calm O Z o (by omega) C (by rw[P];omega) (λx hx=>(J.full x hx).2);obtain⟨W,_⟩:=Bs J (λz hz=>by rw[O.2]at hz;cases hz) (ver+1) (ids S++[act S+1]);have B:Fs.look (Sg.create f (act S+1)).1 Mf.final=some (Mf.enc ver (ids S)):=by rw[G,if_neg (BK _)];exact h.x.man
 have A:ids (S++[(act S+1,[])])=ids S++[act S+1]:=ids_app _ _;have F:¬Mf.draft=Mf.final:=by decide
 rw[hw];refine⟨V,Y,rfl,J,O,K.room.trans P,⟨K.calm,K.inv,W.mono (by omega),by rw[A];exact o,⟨by omega,λs hs=>?_⟩,by rw[H,if_pos rfl,A],λs hs=>?_,?_,?_,⟨h.x.len.1,λs hs=>?_⟩⟩,λn hn hs=>?_,?_⟩
 ·rcases ZI.1 hs with hs|hs
  ·have:=h.x.small.2 s hs;omega
  ·rw[QB.1 hs];show act S+1≤_;omega
 ·rw[H,if_neg (λe=>BK _ e.symm),if_neg (λe=>Cj _ e.symm),G];rcases ZI.1 hs with hs|hs
  ·rw[if_neg (λe=>Disk.nodup h.x (id:=act S+1) (by omega) s hs (Sg.name_inj (h.x.name hs) D e))];exact h.x.seg s hs
  ·rw[QB.1 hs,if_pos rfl];rfl
 ·rw[Ba];show ∀b∈batches S++[],_;rw[ZM];exact h.x.bat
 ·rw[Ba];show Lv (batches S++[]);rw[ZM];exact h.x.lv
 ·rcases ZI.1 hs with hs|hs
  ·exact h.x.len.2 s hs
  ·rw[QB.1 hs];exact ZS _
 ·rw[H,if_neg hn];by_cases hd:n=Mf.draft
  ·rw[if_pos hd]
  ·rw[if_neg hd,G,if_neg (hs (act S+1,[]) (List.mem_append_right _ (QB.2 rfl)))];exact h.no n hn λs h1=>hs s (List.mem_append_left _ h1)
 ·have:=X (by rw[Fs.has_look,B];rfl);rw[QS];simp only[List.length_singleton];omega
end
section
variable {f : Fs.St} {k : Nat} {ver : Int} {S : List Seg} {M : Nat} {a : Int} {bs : List (List Op)} {ops : List Op}
theorem Disk.append (h:Disk f k ver (S++[(a,bs)]) M) (ho:GoodB ops) (hl:live (chgs (ents (S++[(a,bs)])) ops)≤50000) (hM:(fileOf bs).length+(mass ops+9)≤M) (hM2:M≤65536) (hr:((S.length+2)*M+(mass ops+9):Nat)≤f.room) :
  (Sg.append f a 1 (flat ops)).2=0∧(Sg.append f a 1 (flat ops)).1.room=f.room∧Disk (Sg.append f a 1 (flat ops)).1 k ver (S++[(a,bs++[ops])]) M∧ents (S++[(a,bs++[ops])])=chgs (ents (S++[(a,bs)])) ops:=by
 have H:(a,bs)∈S++[(a,bs)]:=List.mem_append_right _ (QB.2 rfl);have C:=h.x.name H;have P:=h.x.seg _ H;have F:=ho.blen;have L:=h.dir;rw[QS,List.length_singleton]at L;have hu:=Fs.used_look h.x.inv h.len;have R:f.dir.length*M≤(S.length+2)*M:=Nat.mul_le_mul_right M (by omega);obtain⟨a1,a2,Y,a4,Q⟩:=Fs.calm_append (b:=Fr.bytes 1 (flat ops)) h.x.calm h.x.inv (Sg.good_name C) P (by simp only;omega) (by rw[F];omega);have E:=Q (Sg.nameB a);rw[if_pos rfl]at E;obtain⟨Z,b2,X,b4,V⟩:=Fs.calm_sync a2.calm a2.inv (Sg.good_name C) E;have J:Sg.append f a 1 (flat ops)=Fs.sync (Fs.append f (Sg.nameB a) (Fr.bytes 1 (flat ops))).1 (Sg.nameB a):=by
  unfold Sg.append;rw[if_neg (by rw[C];simp),if_neg (by rw[ho.enc];simp),if_neg (by rw[a1];simp)]
 have G:ids (S++[(a,bs++[ops])])=ids (S++[(a,bs)]):=by rw[ids_app,ids_app];rfl
 have B:batches (S++[(a,bs++[ops])])=batches (S++[(a,bs)])++[ops]:=by rw[Ba,Ba];simp[batches]
 have A:∀m,Fs.look (Sg.append f a 1 (flat ops)).1 m=if m=Sg.nameB a then some (fileOf bs++Fr.bytes 1 (flat ops)) else Fs.look f m:=λm=>by rw[J,V,Q]
 have K:ents (S++[(a,bs++[ops])])=chgs (ents (S++[(a,bs)])) ops:=by
  unfold ents;rw[B,List.flatten_append,chgs_app];simp
 have N:∀s∈S,Sg.nameB s.1≠Sg.nameB a:=λs hs e=>by
  have I:=Sg.name_inj (h.x.name (List.mem_append_left _ hs)) C e;have T:=(Mf.good_out h.x.good).2.2;have hi:Mf.incr 0 (ids S++[a])=true:=by rw[ids_app]at T;exact T
  have:∀(l:List Int) (last:Int),Mf.incr last (l++[a])=true→last<a∧∀n∈l,n<a:=by
   intro l
   induction l with
   | nil =>
    intro last h;simp[Mf.incr]at h;exact⟨h.1,λn hn=>by cases hn⟩
   | cons y r ih =>
    intro last h;rw[List.cons_append,Mf.incr]at h;simp only[ZA,decide_eq_true_eq]at h;obtain⟨U,W⟩:=ih y h.2.2;exact⟨by omega,λn hn=>by
     rcases ZX.1 hn with rfl|hn
     ·exact U
     ·exact W n hn⟩
  have:=(this (ids S) 0 hi).2 s.1 (List.mem_map.2 ⟨s,hs,rfl⟩);omega
 have o:Fs.Next f (Sg.append f a 1 (flat ops)).1 0:=by rw[J];exact a2.trans b2
 have D:Fs.Sound (Sg.append f a 1 (flat ops)).1 k:=by rw[J];exact (h.x.sound.append _ _).sync _
 refine⟨by rw[J];exact Z,o.room,⟨⟨o.calm,o.inv,D,by rw[G];exact h.x.good,⟨h.x.small.1,λs hs=>?_⟩,by rw[A,if_neg (BK _),G];exact h.x.man,λs hs=>?_,?_,?_,⟨h.x.len.1,λs hs=>?_⟩⟩,λn hn hs=>?_,?_⟩,K⟩
 ·rcases ZI.1 hs with hs|hs
  ·exact h.x.small.2 s (List.mem_append_left _ hs)
  ·rw[QB.1 hs];exact h.x.small.2 (a,bs) H
 ·rw[A];rcases ZI.1 hs with hs|hs
  ·rw[if_neg (N s hs)];exact h.x.seg s (List.mem_append_left _ hs)
  ·rw[QB.1 hs,if_pos rfl,BH]
 ·rw[B];intro b F;rcases ZI.1 F with F|F
  ·exact h.x.bat b F
  ·rw[QB.1 F];exact ho
 ·rw[B];exact h.x.lv.snoc hl
 ·rcases ZI.1 hs with hs|hs
  ·exact h.x.len.2 s (List.mem_append_left _ hs)
  ·rw[QB.1 hs];show (fileOf (bs++[ops])).length≤M;rw[BH,QS,F];exact hM
 ·rw[A,if_neg (hs (a,bs++[ops]) (List.mem_append_right _ (QB.2 rfl)))];refine h.no n hn λs I=>?_
  rcases ZI.1 I with I|I
  ·exact hs s (List.mem_append_left _ I)
  ·rw[QB.1 I];exact hs (a,bs++[ops]) (List.mem_append_right _ (QB.2 rfl))
 ·have O:(Sg.append f a 1 (flat ops)).1.dir=f.dir:=by rw[J,X,Y]
  rw[O,QS,List.length_singleton];omega
theorem Disk.begin {r:Int} (h1:3200≤r) (h2:r≤1048576) :
  (Sg.create (Fs.new r) 1).2=0∧(Mf.save (Sg.create (Fs.new r) 1).1 1 [1]).2=0∧Fs.Sound (Sg.create (Fs.new r) 1).1 3∧Fs.Calm (Sg.create (Fs.new r) 1).1∧(Mf.save (Sg.create (Fs.new r) 1).1 1 [1]).1.room=r ∧
   Disk (Mf.save (Sg.create (Fs.new r) 1).1 1 [1]).1 15 1 [(1,[])] 800:=by
 have Q:Fs.Calm (Fs.new r):=⟨rfl,rfl⟩
 have R:=Fs.Inv.new r;have C:Sg.nameE 1=0:=by decide
 obtain⟨a1,a2,K,a4⟩:=Fs.calm_create Q R (Sg.good_name C) (Fs.look_none (Fs.look_new r _)) (by show 0<64;omega);obtain⟨P,B,J,S,H⟩:=Fs.calm_syncDir a2.calm a2.inv;have L:Sg.create (Fs.new r) 1=Fs.syncDir (Fs.create (Fs.new r) (Sg.nameB 1)).1:=by
  unfold Sg.create;rw[if_neg (by rw[C];simp),if_neg (by rw[a1];simp)]
 have F:Fs.Sound (Fs.new r) 1:=Fs.Sound.new ⟨by omega,h2⟩ 1;have A:Fs.Sound (Fs.syncDir (Fs.create (Fs.new r) (Sg.nameB 1)).1).1 3:=(F.create _).syncDir;have o:∀m,Fs.look (Fs.syncDir (Fs.create (Fs.new r) (Sg.nameB 1)).1).1 m=if m=Sg.nameB 1 then some [] else none:=λm=>by rw[H,a4,Fs.look_new]
 have I:(Fs.syncDir (Fs.create (Fs.new r) (Sg.nameB 1)).1).1.dir.length=1:=by rw[J,K];rfl
 have G:Mf.good 1 [1]=true:=by decide
 rw[L];obtain⟨O,E,T,U,V,D⟩:=Mf.save_calm B.calm B.inv G (by omega) (M:=800) (λn b hb=>by
  rw[o]at hb;split at hb
  ·rw[← Option.some.inj hb];exact ZS _
  ·cases hb) (by rw[I,B.room,a2.room];show ((_:Nat):Int)≤r;omega) (λx hx=>(A.full x hx).2)
 obtain⟨N,_⟩:=Bs A (λz hz=>by rw[B.calm.2]at hz;cases hz) 1 [1];refine⟨P,O,A,B.calm,E.room.trans (B.room.trans a2.room),⟨⟨E.calm,E.inv,N,G,⟨by decide,λs A=>?_⟩,by rw[D,if_pos rfl];rfl,λs A=>?_,λb hb=>(by cases hb),λj=>?_,⟨QM _,λs A=>?_⟩⟩,λn hn A=>?_,?_⟩⟩
 ·rw[QB.1 A];decide
 ·rw[QB.1 A,D,if_neg (λe=>BK _ e.symm),if_neg (λe=>Cj _ e.symm),o,if_pos rfl];rfl
 ·show live (chgs [] (List.take j []).flatten)≤50000;rw[List.take_nil];exact ZS _
 ·rw[QB.1 A];exact ZS _
 ·rw[D,if_neg hn,o,if_neg (A (1,[]) (QB.2 rfl))];split<;>rfl
 ·rw[List.length_singleton];omega
end
end Sto
namespace Sto
def put (S:List Seg) (ops:List Op):List Seg:=match S.getLast? with
 | none=>S
 | some s=>if 4096<(fileOf s.2).length then S++[(s.1+1,[ops])] else S.dropLast++[(s.1,s.2++[ops])]
theorem put_snoc (S:List Seg) (a:Int) (bs:List (List Op)) (ops:List Op) :
  put (S++[(a,bs)]) ops=if 4096<(fileOf bs).length then S++[(a,bs)]++[(a+1,[ops])] else S++[(a,bs++[ops])]:=by
 unfold put;rw[List.getLast?_append];simp
theorem snoc_of {S:List Seg} (h:S≠[]):∃S0 a bs,S=S0++[(a,bs)]:=⟨S.dropLast,(S.getLast h).1,(S.getLast h).2,(List.dropLast_concat_getLast h).symm⟩
theorem Bi (S:List Seg) (a:Int) (bs:List (List Op)):batches (S++[(a,bs)])=batches S++bs:=by rw[Ba];simp[batches]
theorem GH {S:List Seg} (h:S≠[]) (ops:List Op):batches (put S ops)=batches S++[ops]:=by
 obtain⟨o,a,A,rfl⟩:=snoc_of h;rw[put_snoc];split
 ·rw[Bi]
 ·rw[Bi,Bi,List.append_assoc]
theorem ents_put {S:List Seg} (h:S≠[]) (ops:List Op):ents (put S ops)=chgs (ents S) ops:=by
 unfold ents;rw[GH h,List.flatten_append,chgs_app];simp
theorem H6 {S:List Seg} (h:S≠[]) (ops:List Op):S.length≤(put S ops).length∧(put S ops).length≤S.length+1:=by
 obtain⟨o,a,A,rfl⟩:=snoc_of h;rw[put_snoc];split<;>simp
def H7 (S:List Seg):Prop:=∀s∈S.dropLast,4096<(fileOf s.2).length
theorem H7.put {S:List Seg} (h:H7 S) (hne:S≠[]) (ops:List Op):H7 (put S ops):=by
 obtain⟨o,a,A,rfl⟩:=snoc_of hne;unfold H7 at h ⊢;rw[List.dropLast_concat]at h;rw[put_snoc];split
 ·rename_i hb;rw[List.dropLast_concat];intro s hs;rcases ZI.1 hs with hs|hs
  ·exact h s hs
  ·rw[QB.1 hs];exact hb
 ·rw[List.dropLast_concat];exact h
def bytesOf (S:List Seg):Nat:=(S.map λs=>(fileOf s.2).length).sum
structure Can (f:Fs.St) (k:Nat) (S:List Seg) (M:Nat) (ops:List Op):Prop where
 few:(put S ops).length≤32
 len:∀s∈put S ops,(fileOf s.2).length≤M
 max:M≤65536
 room:S.length<(put S ops).length→((S.length+3)*M+800:Nat)≤f.room
 space:(((put S ops).length+1)*M+(mass ops+9):Nat)≤f.room
 small:k≤100000
theorem Disk.mono {f:Fs.St} {k k':Nat} {ver:Int} {S:List Seg} {M M':Nat} (h:Disk f k ver S M) (hk:k≤k') (hM:M≤M'):Disk f k' ver S M' :=
 ⟨⟨h.x.calm,h.x.inv,h.x.sound.mono hk,h.x.good,⟨by have:=h.x.small.1;omega,λs hs=>by have:=h.x.small.2 s hs;omega⟩,h.x.man,h.x.seg,h.x.bat,h.x.lv,⟨QQ h.x.len.1 hM,λs hs=>QQ (h.x.len.2 s hs) hM⟩⟩,h.no,h.dir⟩
theorem DiskX.ne {f:Fs.St} {k:Nat} {ver:Int} {S:List Seg} {M:Nat} (h:DiskX f k ver S M):S≠[]:=λe=>by
 have:=(Mf.good_out h.good).2.1.1;rw[e]at this;simp[ids]at this
section
variable {f : Fs.St} {k : Nat} {ver : Int} {S0 : List Seg} {a : Int} {bs : List (List Op)} {M : Nat} {ops : List Op}
theorem act_ids (h:Disk f k ver (S0++[(a,bs)]) M):(ids (S0++[(a,bs)])).getLastD 0=a:=act_snoc S0 (a,bs)
theorem Disk.grow (h:Disk f k ver (S0++[(a,bs)]) M) (hc:Can f k (S0++[(a,bs)]) M ops) (hb:4096<(fileOf bs).length) :
  (Sg.create f (a+1)).2=0∧(Mf.save (Sg.create f (a+1)).1 (wrap64 (ver+1)) (ids (S0++[(a,bs)])++[a+1])).2=0∧wrap64 (ver+1)=ver+1 ∧
   Fs.Sound (Sg.create f (a+1)).1 (k+2)∧Fs.Calm (Sg.create f (a+1)).1∧(Mf.save (Sg.create f (a+1)).1 (wrap64 (ver+1)) (ids (S0++[(a,bs)])++[a+1])).1.room=f.room ∧
   Disk (Mf.save (Sg.create f (a+1)).1 (wrap64 (ver+1)) (ids (S0++[(a,bs)])++[a+1])).1 (k+14) (ver+1) (S0++[(a,bs)]++[(a+1,[])]) M:=by
 have A:=hc.few;have o:(put (S0++[(a,bs)]) ops).length=(S0++[(a,bs)]).length+1:=by rw[put_snoc,if_pos hb];simp
 rw[o]at A;have:=Disk.room h (by omega) (QQ hc.small (by decide)) (hc.room (by omega));rw[act_snoc]at this;exact this
theorem GoodB.one {ops:List Op} (ho:GoodB ops):(fileOf [ops]).length=mass ops+9:=by
 have:=BH [] ops;rw[ZN]at this;rw[this,QS,ho.blen];show 0+_=_;omega
theorem Disk.add1 {g:Fs.St} {k':Nat} (h:Disk g k' (ver+1) (S0++[(a,bs)]++[(a+1,[])]) M) (hc:Can f k (S0++[(a,bs)]) M ops) (hg:g.room=f.room) (hb:4096<(fileOf bs).length) (ho:GoodB ops) (hl:live (chgs (ents (S0++[(a,bs)])) ops)≤50000) :
  (Sg.append g (a+1) 1 (flat ops)).2=0∧(Sg.append g (a+1) 1 (flat ops)).1.room=f.room∧Disk (Sg.append g (a+1) 1 (flat ops)).1 k' (ver+1) (put (S0++[(a,bs)]) ops) M:=by
 have o:=hc.space;have D:=hc.len (a+1,[ops]) (by rw[put_snoc,if_pos hb];simp);simp only[ho.one]at D;rw[put_snoc,if_pos hb]at o ⊢;rw[QS,List.length_singleton]at o;have E:ents (S0++[(a,bs)]++[(a+1,[])])=ents (S0++[(a,bs)]):=by unfold ents;rw[Bi];simp
 obtain⟨C,B,A,_⟩:=Disk.append h ho (by rw[E];exact hl) (by show 0+_≤_;omega) hc.max (by rw[hg];exact o);rw[ZN]at A;exact⟨C,B.trans hg,A⟩
theorem Disk.add0 (h:Disk f k ver (S0++[(a,bs)]) M) (hc:Can f k (S0++[(a,bs)]) M ops) (hb:¬4096<(fileOf bs).length) (ho:GoodB ops) (hl:live (chgs (ents (S0++[(a,bs)])) ops)≤50000) :
  (Sg.append f a 1 (flat ops)).2=0∧(Sg.append f a 1 (flat ops)).1.room=f.room∧Disk (Sg.append f a 1 (flat ops)).1 k ver (put (S0++[(a,bs)]) ops) M:=by
 have o:=hc.space;have A:=hc.len (a,bs++[ops]) (by rw[put_snoc,if_neg hb];simp);simp only[BH,QS,ho.blen]at A;rw[put_snoc,if_neg hb]at o ⊢;rw[QS,List.length_singleton]at o;obtain⟨D,B,C,_⟩:=Disk.append h ho hl A hc.max (by exact o);exact⟨D,B,C⟩
end
end Sto
open Go.Maps Go.WideMaps
theorem E3 {w:World} {a:Option Addr} {n c:Nat} {zs:List Int} (h:Ints w (.slice a n c) zs) (hn:zs.length≤1000000000) (x:Int) :
  Calls Tryz.prog 74 #[.slice a n c,.int .i64 x] w λe w'=>e=.returned (.bool (zs.contains x))∧w'=w:=by
 obtain⟨G,H,C,A⟩:=h;simp only[Value.slice.injEq]at C;obtain⟨rfl,rfl,rfl⟩:=C;cases zs with
 | nil=>exact (Tryz.slices_Contains_int_empty a c x w).mono (by rintro e w' ⟨rfl,rfl⟩;exact⟨rfl,rfl⟩)
 | cons y r =>
  obtain⟨b,o,F,_,_⟩:=A 0 y rfl;subst F;refine (Tryz.slices_Contains_int b o (y::r).length c (y::r) x w (QM _) (by omega) ?_).mono ?_
  ·intro j hj;obtain⟨I,B,D,_,E⟩:=A j (y::r)[j] (ZG hj);simp only[Option.some.injEq,Addr.mk.injEq,and_true]at D;obtain⟨rfl,rfl⟩:=D;rw[E,List.getD_eq_getElem?_getD,ZG hj];rfl
  ·rintro e w' ⟨rfl,rfl⟩;refine⟨congrArg (λb=>Ending.returned (.bool b)) ?_,rfl⟩;rw[List.take_of_length_le (QM _)]
theorem Ints.others {w w':World} {own own':Nat→Tag} {a:Option Addr} {n c:Nat} {l:List Int} (h:Ints w (.slice a n c) l) (hot:∀p,a=some p→own p.block=.other) (ho:Bo own own' w w'):Ints w' (.slice a n c) l:=by
 obtain⟨D,F,A,E⟩:=h;refine⟨D,F,A,λi x hi=>?_⟩;simp only[Value.slice.injEq]at A;obtain⟨b,o,e,B,C⟩:=E i x hi;obtain⟨H,G⟩:=ho.2 b B (hot ⟨b,o,none⟩ (by rw[A.1,e]));exact⟨b,o,e,Nat.lt_of_lt_of_le B ho.1,by rw[World.cell?_of_block G];exact C⟩
theorem AM.keep_ {own:Nat→Tag} {w w2 wr:World} (hb:Below w.heap.size w w2) (hk:Kept own (·≠.other) w2 wr):Kept own (·≠.other) w wr:=(AB hb).trans hk
theorem AM.end_ {base B:Nat} {st:Fs.St} {V:FsV} {own own':Nat→Tag} {w w2 wr:World} (hb:Below w.heap.size w w2) (h:Aa base B st V own' wr) (ho:∀b,b<w2.heap.size→own' b=own b) (hk:Kept own (·≠.other) w2 wr):AM base B st own w wr :=
 ⟨V,own',h,λb hb2=>ho b (Nat.lt_of_lt_of_le hb2 hb.size),AM.keep_ hb hk⟩
theorem FS (base B:Nat) (st:Fs.St) (V:FsV) (own:Nat→Tag) (ver:Int) (sv:Value) (l:List Int) (w:World) (h:Aa base B st V own w) (hE:Ay base w) (hbase:base≤w.heap.size) (k:Nat) (hS:Fs.Sound st k) (hk:k≤200000) (hP:Fs.PlanOK st)
  (hN:D9 w sv l) (hl:l.length≤1000000000) (hot:∀p n c,sv=.slice (some p) n c→own p.block=.other) :
  Calls Tryz.prog 46 #[.pointer (some ⟨B,0,none⟩),.agg #[.int .i64 ver,sv]] w λe w'=>e=.returned (.tuple #[.int .i64 ((Fs.clean st ver l).2.1:Nat),.int .i64 (Fs.clean st ver l).2.2])∧AM base B (Fs.clean st ver l).1 own w w':=by
 obtain⟨sa,sc,rfl⟩:=hN.form;have ai:Below w.heap.size w (w.alloc (.cells #[.int .i64 ver,.slice sa l.length sc] 47)):=(Below.refl _ _).alloc (QM _) _;have T:=AJ w (.cells #[.int .i64 ver,.slice sa l.length sc] 47);have y0:=AA T 0 _ rfl;have y1:=AA T 1 _ rfl;have H:=QA h;have HE:=QA hE;have HN:=QA hN;have ac:=QA ai;have ay:=QA T;have a1:Hid (∀p,sa=some p→own p.block=.other):=QA λp S=>hot p _ _ (by rw[S])
 have bo:=hS.ndir;clear h hE hN ai T hot;go_enter Tryz.func46,Tryz.ntmps46;go_wp2_with fail;refine (FA ver _ l _ (HN.out.below ac.out) hl).mono ?_;rintro e w1 ⟨rfl,hb1⟩;have P:=QA (ac.out.trans (hb1.mono ac.out.size));have H1:=QA (H.out.kept (AB P.out));have aq:Hid (w1.heap[w.heap.size]?=_):=QA ((hb1.block _ (AC ay.out)).trans ay.out);clear hb1 y0 y1;cases hg:Mf.good ver l
 ·have HE:Hid (Fs.clean st ver l=(st,0,1)):=by unfold Fs.clean;rw[if_pos hg];exact QA rfl
  have HC:Hid (Mf.chk ver l=1):=by unfold Mf.chk;rw[hg];exact QA rfl
  rw[HC.out];clear hg;go_wp2_with fail;refine bodyPost_ret (v:=.tuple #[.int .i64 0,.int .i64 1]) (by simp[results,Tryz.results46,go_sem]) rfl ?_;rw[HE.out];exact⟨rfl,AM.of H.out P.out⟩
 ·have aY:Hid (Fs.clean st ver l=Fs.cleanGo l (Fs.keys st.dir) st 0):=by unfold Fs.clean;rw[if_neg (by rw[hg];simp)];exact QA rfl
  have HC:Hid (Mf.chk ver l=0):=by unfold Mf.chk;rw[hg];exact QA rfl
  rw[HC.out];clear hg HC;go_wp2_with fail;refine (Bu base B st V own w1 H1.out (by omega)).mono ?_;rintro e w2 ⟨v,rfl,hStr,hvo,hb2⟩;obtain⟨la,lc,hv⟩:=hStr.form;subst hv;have F:=QA (P.out.trans (hb2.mono P.out.size));have a5:=QA hb2;have H2:=QA (H.out.kept (AB F.out));have ad:=(hb2.block _ (AC aq.out)).trans aq.out;have aT:=QA ad;have aV:w.heap.size<w2.heap.size:=AC ad;have W:=QA hStr;have aK:Hid (∀p,la=some p→own p.block=.other):=QA λp S=>H.out.fresh _ (by
   have:=hvo p.block (by rw[S];rfl);exact QQ P.out.size this)
  have aU:(strsOf (Fs.keys st.dir)).length≤200000:=by rw[EQ];omega
  have ag:Hid ((strsOf (Fs.keys st.dir)).length=(Fs.keys st.dir).length):=QA (by unfold strsOf;rw[List.length_map]);obtain⟨N,hN⟩:∃N,N=(strsOf (Fs.keys st.dir)).length:=⟨_,rfl⟩
  rw[← hN]at aU ag W ⊢;clear hStr hvo hb2 ad hN;go_wp2_with fail
  go_loopg [7,21] N (λk' s7 s21 wr=>∃(j n:Nat) (A:Fs.St) (V':FsV) (D:Nat→Tag),j≤N∧n≤j∧k'=N-j∧s21=.int .i64 (j:Nat)∧s7=.int .i64 (n:Nat)∧Aa base B A V' D wr∧Fs.Sound A (k+2*j) ∧
   (∀b,b<w2.heap.size→D b=own b)∧Kept own (·≠.other) w2 wr∧Fs.cleanGo l ((Fs.keys st.dir).drop j) A n=Fs.clean st ver l)
  case atStart=>exact⟨0,0,st,V,own,ZS _,QM _,rfl,rfl,rfl,H2.out,hS,λ_ _=>rfl,Kept.refl _ _ _,aY.out.symm⟩
  case round =>
   obtain⟨j,n,A,V',D,hj,bi,ao,rfl,rfl,al,R,X,O,az⟩:=hrel;have HK:=QA ao;have af:=QA al;have Z:=QA R;have E:=QA X;have o:=QA O;have aw:=QA az;have ba:=R.ndir;have bp:=R.nf;have bf:=R.nc;clear ao al R X O az;have bn:(0:Int)≤(j:Int):=Int.natCast_nonneg _;have bm:(0:Int)≤(n:Int):=Int.natCast_nonneg _;by_cases hjn:j<N
   ·have au:(j:Int)<(N:Int):=by omega
    obtain⟨x,hx⟩:∃x,(Fs.keys st.dir)[j]?=some x:=⟨_,ZG (by rw[← ag.out];exact hjn)⟩
    have aC:(strsOf (Fs.keys st.dir))[j]?=some ⟨x.toArray⟩:=by unfold strsOf;rw[List.getElem?_map,hx];rfl
    obtain⟨b,J,rfl,ak,Q⟩:∃b J,la=some ⟨b,J,none⟩∧b<w2.heap.size∧w2.cell? ⟨b,J+j,none⟩=some (.string ⟨x.toArray⟩):=by
     obtain⟨a',c',h1,h2⟩:=W.out;obtain⟨b,J,e1,e2,e3⟩:=h2 j _ aC;simp only[Value.slice.injEq]at h1;exact⟨b,J,by rw[h1.1,e1],e2,e3⟩
    have G:Bo own D w2 wr:=⟨o.out.size,λb hb h1=>⟨(E.out b hb).trans h1,o.out.block b hb (by rw[h1];simp)⟩⟩
    have aD:wr.cell? ⟨b,J+j,none⟩=some (.string ⟨x.toArray⟩):=by
     rw[World.cell?_of_block (G.2 b ak (aK.out _ rfl)).2];exact Q
    have am:wr.heap[w.heap.size]?=some (.cells #[.int .i64 ver,.slice sa l.length sc] 47 (0,0)):=((G.2 _ aV (H.out.fresh _ (QM _))).2).trans aT.out;have ar:=QA ((HN.out.ints.below F.out).others a1.out G);have an:=QA am;have aL:x.length≤20:=by
     obtain⟨p,S,e⟩:=Fs.mhas_mem.1 (Fs.keys_mem.1 (List.mem_of_getElem? hx));rw[← e];exact Fs.good_len (hS.dir p S).2
    obtain⟨s,hs,aj⟩:∃s:ByteArray,s=⟨x.toArray⟩∧s.data.toList=x:=⟨_,rfl,by simp⟩
    have aB:s.size≤1000000:=by rw[hs];show x.toArray.size≤_;simp;omega
    rw[← hs]at aD;have HD:Hid (Fs.clean st ver l=if Fs.keepN l x then Fs.cleanGo l ((Fs.keys st.dir).drop (j+1)) A n else if (Fs.remove A x).2≠0 then ((Fs.remove A x).1,n,(Fs.remove A x).2) else Fs.cleanGo l ((Fs.keys st.dir).drop (j+1)) (Fs.remove A x).1 (n+1)):=by
     rw[← aw.out];obtain⟨h1,h2⟩:=List.getElem?_eq_some_iff.1 hx;rw[List.drop_eq_getElem_cons h1,h2,Fs.cleanGo];exact QA rfl
    have bg:w2.heap.size≤wr.heap.size:=o.out.size;have aW:base≤wr.heap.size:=by omega
    have aS:=QA (HE.out.below (B:=base) (by
     refine⟨o.out.os.trans F.out.os,o.out.tape.trans F.out.tape,o.out.output.trans F.out.output,by omega,λb hb=>?_⟩;rw[o.out.block b (by omega) (by rw[H.out.old b hb];simp),F.out.block b (by omega)]))
    rw[← aj]at HD;clear hx aC Q am ak hs aL aj;go_wp2_with fail;refine (Kw _ wr base aS.out aW aB).mono ?_;rintro e w3 ⟨rfl,hb3⟩;have M:=QA hb3;have be:=hb3.size;have e1:w3.cell? ⟨w.heap.size,1,none⟩=some (.slice sa l.length sc):=AA ((hb3.block _ (AC an.out)).trans an.out) 1 _ rfl;have aE:=QA (ar.out.below hb3);have H3:=QA (af.out.kept (AB hb3));have bh:Hid (Bo own D w2 w3):=QA (G.next (λ_ _=>rfl) (AB hb3));clear hb3 aD G;by_cases hf:s.data.toList=Mf.final
    ·have aJ:s=⟨#[109,97,110,105,102,101,115,116]⟩:=by
      apply ByteArray.ext;apply Array.ext';exact hf
     subst aJ;have K:Hid (Fs.clean st ver l=Fs.cleanGo l ((Fs.keys st.dir).drop (j+1)) A n):=by
      rw[HD.out,if_pos (by unfold Fs.keepN;rw[decide_eq_true hf];rfl)];exact QA rfl
     clear hf;go_wp2_with fail;go_roundg (N-(j+1))
     case measure=>rw[HK.out];omega
     case rel=>exact⟨j+1,n,A,V',D,by omega,by omega,rfl,by simp,rfl,H3.out,Z.out.mono (by omega),E.out,o.out.trans (AB M.out),K.out.symm⟩
    ·have aI:(s.toList==[109,97,110,105,102,101,115,116])=false:=by
      rw[beq_eq_false_iff_ne];intro e;rw[ByteArray.toList_eq]at e;exact hf e
     go_wp2_with fail;refine (E3 aE.out hl _).mono ?_;rintro e w4 ⟨rfl,hw4⟩;subst hw4;obtain⟨q,hq⟩:∃q,q=l.contains (Sg.idOf s.data.toList):=⟨_,rfl⟩
     rw[← hq];cases q
     ·have K:Hid (Fs.clean st ver l=if (Fs.remove A s.data.toList).2≠0 then ((Fs.remove A s.data.toList).1,n,(Fs.remove A s.data.toList).2) else Fs.cleanGo l ((Fs.keys st.dir).drop (j+1)) (Fs.remove A s.data.toList).1 (n+1)):=by
       rw[HD.out,if_neg (by unfold Fs.keepN;rw[decide_eq_false hf,← hq];simp)];exact QA rfl
      clear hf aI hq;go_wp2_with fail;refine (Ej base B A V' D s w4 H3.out (by omega) aB (by omega) (by omega) (by omega)).mono ?_;rintro e w5 ⟨rfl,S⟩;obtain⟨V5,Y,h5,ax,L⟩:=S;have U:Hid (∀b,b<w2.heap.size→Y b=own b):=QA λb hb=>(ax b (by omega)).trans (E.out b hb)
      have av:Hid (Kept own (·≠.other) w2 w5):=by
       refine QA ⟨L.os.trans (M.out.os.trans o.out.os),L.tape.trans (M.out.tape.trans o.out.tape),L.output.trans (M.out.output.trans o.out.output),by have:=L.size;omega,λb hb ht=>?_⟩;rw[L.block b (by omega) (by rw[E.out b hb];exact ht),M.out.block b (by omega)];exact o.out.block b hb ht
      have H5:=QA h5;have aX:=QA (Z.out.remove s.data.toList);obtain⟨C,hC⟩:∃C,C=(Fs.remove A s.data.toList).2:=⟨_,rfl⟩
      rw[← hC];have ae:=QA hC;clear hC h5 ax L;by_cases hC0:C=0
      ·subst hC0;have I:Hid (Fs.cleanGo l ((Fs.keys st.dir).drop (j+1)) (Fs.remove A s.data.toList).1 (n+1)=Fs.clean st ver l):=by
        rw[K.out,if_neg (by rw[← ae.out];simp)];exact QA rfl
       go_wp2_with fail;go_roundg (N-(j+1))
       case measure=>rw[HK.out];omega
       case rel=>exact⟨j+1,n+1,_,V5,Y,by omega,by omega,rfl,by simp,by simp,H5.out,aX.out.mono (by omega),U.out,av.out,I.out⟩
      ·have aN:(C != 0)=true:=by rw[bne_iff_ne];exact hC0
       have a6:(C==0)=false:=by rw[beq_eq_false_iff_ne];exact hC0
       have I:Hid (Fs.clean st ver l=((Fs.remove A s.data.toList).1,n,C)):=by
        rw[K.out,if_pos (by rw[← ae.out];exact hC0),← ae.out];exact QA rfl
       clear hC0;go_wp2_with fail;refine bodyPost_ret (v:=.tuple #[.int .i64 (n:Nat),.int .i64 C]) (by simp[results,Tryz.results46,go_sem]) rfl ?_;rw[I.out];exact⟨rfl,AM.end_ F.out H5.out U.out av.out⟩
     ·have K:Hid (Fs.clean st ver l=Fs.cleanGo l ((Fs.keys st.dir).drop (j+1)) A n):=by
       rw[HD.out,if_pos (by unfold Fs.keepN;rw[← hq];simp)];exact QA rfl
      clear hf hq;go_wp2_with fail;go_roundg (N-(j+1))
      case measure=>rw[HK.out];omega
      case rel=>exact⟨j+1,n,A,V',D,by omega,by omega,rfl,by simp,rfl,H3.out,Z.out.mono (by omega),E.out,o.out.trans (AB M.out),K.out.symm⟩
   ·have au:(N:Int)≤(j:Int):=by omega
    have HD:Hid (Fs.clean st ver l=if n=0 then (A,0,0) else ((Fs.syncDir A).1,n,(Fs.syncDir A).2)):=by
     rw[← aw.out,List.drop_of_length_le (by rw[← ag.out];omega),Fs.cleanGo];exact QA rfl
    by_cases hn:n=0
    ·subst hn;have I:Hid (Fs.clean st ver l=(A,0,0)):=by rw[HD.out,if_pos rfl];exact QA rfl
     go_wp2_with fail;refine bodyPost_ret (v:=.tuple #[.int .i64 0,.int .i64 0]) (by simp[results,Tryz.results46,go_sem]) rfl ?_;rw[I.out];exact⟨rfl,AM.end_ F.out af.out E.out o.out⟩
    ·have aN:((n:Int)==0)=false:=by rw[beq_eq_false_iff_ne];omega
     have bj:0<(n:Int):=by omega
     have I:Hid (Fs.clean st ver l=((Fs.syncDir A).1,n,(Fs.syncDir A).2)):=by rw[HD.out,if_neg hn];exact QA rfl
     clear hn;go_wp2_with fail;refine (CY base B A V' D wr af.out).mono ?_;rintro e w5 ⟨rfl,S⟩;have aP:=QA (AM.step (AM.keep_ F.out o.out) (λb hb=>(E.out b (by omega))) S);clear S;go_wp2_with fail;refine bodyPost_ret (v:=.tuple #[.int .i64 (n:Nat),.int .i64 (Fs.syncDir A).2]) (by simp[results,Tryz.results46,go_sem]) rfl ?_;rw[I.out];exact⟨rfl,aP.out⟩
namespace Fs
structure Like (a b:St):Prop where
 dir:a.dir=b.dir
 files:a.files=b.files
theorem Like.look {a b:St} (h:Like a b) (n:List UInt8):look a n=look b n:=by unfold Fs.look fileAt Fs.idx;rw[h.dir,h.files]
theorem Like.inv {a b:St} (h:Like a b) (hi:Inv b):Inv a:=⟨by rw[h.dir];exact hi.nd,by rw[h.dir];exact hi.inj,by rw[h.dir,h.files];exact hi.known,by rw[h.dir];exact hi.gd⟩
theorem BJ (st:St):Like (step st).1 st:=⟨step_dir st,step_files st⟩
def BP (st:St):St:={ st with left:=-1,plan:=[] }
theorem BL (st:St):Calm (BP st):=⟨rfl,rfl⟩
theorem Be (st:St):Like (BP st) st:=⟨rfl,rfl⟩
structure Any (st st':St):Prop where
 inv:Inv st'
 left:st.left=-1→st'.left=-1
 room:st'.room=st.room
theorem Any.refl {st:St} (hi:Inv st):Any st st:=⟨hi,λh=>h,rfl⟩
theorem Any.trans {a b c:St} (h:Any a b) (g:Any b c):Any a c:=⟨g.inv,λe=>g.left (h.left e),g.room.trans h.room⟩
theorem BM {st:St} (h:st.left=-1):(step st).1.left=-1:=by
 unfold step;rw[if_neg (by rw[h];decide)];show (if 0<st.left then st.left-1 else st.left)=-1;rw[h];rfl
theorem Any.step {st:St} (hi:Inv st):Any st (step st).1:=⟨(BJ st).inv hi,BM,BI st⟩
theorem Cc (st:St):(step (BP st)).2.2=0:=by rw[step_calm (BL st)]
theorem Dq {st:St} {n:List UInt8} (h:openE st n=0):good n=true∧mhas st.dir n=true:=by
 unfold openE at h;split at h
 ·cases h
 split at h
 ·cases h
 ·rename_i h1 h2;exact⟨by simpa using h1,by simpa using h2⟩
section
variable {st : St} {n : List UInt8} (hi : Inv st)
include hi
theorem create_w:Any st (create st n).1∧((create st n).2=0→look st n=none∧∀m,look (create st n).1 m=if m=n then some [] else look st m)∧((create st n).2≠0→∀m,look (create st n).1 m=look st m):=by
 unfold create;split
 ·exact⟨.refl hi,λe=>(by cases e),λ_ _=>rfl⟩
 rename_i A;split
 ·exact⟨.refl hi,λe=>(by cases e),λ_ _=>rfl⟩
 rename_i o;split
 ·exact⟨.refl hi,λe=>(by cases e),λ_ _=>rfl⟩
 rename_i hd;split
 ·rename_i hs;exact⟨.step hi,λe=>absurd e hs,λ_ m=>(BJ st).look m⟩
 ·rename_i hs;have A:good n=true:=by simpa using A
  have o:mhas st.dir n=false:=by simpa using o
  obtain⟨_,D,_,C⟩:=calm_create (BL st) ((Be st).inv hi) A o (by show st.dir.length<64;omega);have B:Like { (Fs.step st).1 with files:=st.files++[([],0)],dir:=mput st.dir n st.files.length,changes:=st.changes++[[(n,(st.files.length:Int))]] } (create (BP st) n).1:=by
   unfold create;rw[if_neg (by rw[A];simp),if_neg (by show ¬mhas st.dir n=true;rw[o];simp),if_neg (by show ¬64≤st.dir.length;omega),if_neg (by rw[Cc];simp)];exact⟨rfl,rfl⟩
  refine⟨⟨B.inv D.inv,λe=>BM e,BI st⟩,λ_=>⟨?_,λm=>(B.look m).trans (C m)⟩,λe=>absurd rfl e⟩;unfold look;rw[o];rfl
theorem JZ {st':St} {b:List UInt8} (hn:mhas st.dir n=true) (hd:st'.dir=st.dir) (hf:st'.files=grow st.files (Fs.idx st n) b):Inv st'∧∀m,look st' m=if m=n then some (fileAt st n++b) else look st m:=by
 obtain⟨f,C,A,_⟩:=hi.idx hn;have o:grow st.files (Fs.idx st n) b=st.files.set (Fs.idx st n) (f.1++b,f.2):=by unfold grow;rw[C]
 obtain⟨B,D⟩:=C9 (st:=BP st) (st':=st') (f':=(f.1++b,f.2)) (BL st) ((Be st).inv hi) hd (hf.trans o) hn;exact⟨B,λm=>by rw[D m,A];rfl⟩
theorem J4 {st':St} (hn:mhas st.dir n=true) (hd:st'.dir=st.dir) (hf:st'.files=flush st.files (Fs.idx st n)):Inv st'∧∀m,look st' m=look st m:=by
 obtain⟨f,C,A,_⟩:=hi.idx hn;have o:flush st.files (Fs.idx st n)=st.files.set (Fs.idx st n) (f.1,f.1.length):=by unfold flush;rw[C]
 obtain⟨B,D⟩:=C9 (st:=BP st) (st':=st') (f':=(f.1,f.1.length)) (BL st) ((Be st).inv hi) hd (hf.trans o) hn;refine⟨B,λm=>?_⟩;rw[D m];by_cases hm:m=n
 ·rw[if_pos hm,hm];unfold look;rw[if_pos hn,A]
 ·rw[if_neg hm];rfl
theorem append_w (b:List UInt8):Any st (append st n b).1∧(∀m,m≠n→look (append st n b).1 m=look st m)∧((append st n b).2=0→∃old,look st n=some old∧look (append st n b).1 n=some (old++b)):=by
 unfold append;split
 ·rename_i h;exact⟨.refl hi,λ_ _=>rfl,λe=>absurd e h⟩
 rename_i B;have B:openE st n=0:=by simpa using B
 obtain⟨_,C⟩:=Dq B;split
 ·exact⟨.refl hi,λ_ _=>rfl,λe=>(by cases e)⟩
 split
 ·rename_i hs;split
  ·obtain⟨A,o⟩:=JZ hi C (st':={ (Fs.step st).1 with files:=grow st.files (Fs.idx st n) (b.take (min (min ((Fs.step st).2.1-3) b.length) (max 0 (st.room-used st))).toNat) }) (step_dir st) rfl;exact⟨⟨A,λe=>BM e,BI st⟩,λm hm=>by rw[o m,if_neg hm],λe=>absurd e hs⟩
  ·exact⟨.step hi,λm _=>(BJ st).look m,λe=>absurd e hs⟩
 split
 ·exact⟨.step hi,λm _=>(BJ st).look m,λe=>(by cases e)⟩
 ·obtain⟨A,o⟩:=JZ hi C (st':={ (Fs.step st).1 with files:=grow st.files (Fs.idx st n) b }) (step_dir st) rfl;exact⟨⟨A,λe=>BM e,BI st⟩,λm hm=>by rw[o m,if_neg hm],λ_=>⟨fileAt st n,by unfold look;rw[if_pos C],by rw[o n,if_pos rfl]⟩⟩
theorem sync_w:Any st (sync st n).1∧∀m,look (sync st n).1 m=look st m:=by
 unfold sync;split
 ·exact⟨.refl hi,λ_=>rfl⟩
 rename_i o;have o:openE st n=0:=by simpa using o
 obtain⟨_,B⟩:=Dq o;split
 ·exact⟨.step hi,λm=>(BJ st).look m⟩
 ·obtain⟨A,C⟩:=J4 hi B (st':={ (Fs.step st).1 with files:=flush st.files (Fs.idx st n) }) (step_dir st) rfl;exact⟨⟨A,λe=>BM e,BI st⟩,C⟩
theorem syncDir_w:Any st (syncDir st).1∧∀m,look (syncDir st).1 m=look st m:=by
 unfold syncDir;split
 ·exact⟨.step hi,λm=>(BJ st).look m⟩
 ·have o:Like { (Fs.step st).1 with sure:=st.dir,changes:=[] } st:=⟨step_dir st,step_files st⟩
  exact⟨⟨o.inv hi,λe=>BM e,BI st⟩,o.look⟩
theorem remove_w:Any st (remove st n).1∧((remove st n).2=0→∀m,look (remove st n).1 m=if m=n then none else look st m)∧((remove st n).2≠0→∀m,look (remove st n).1 m=look st m):=by
 unfold remove;split
 ·rename_i h;exact⟨.refl hi,λe=>absurd e h,λ_ _=>rfl⟩
 rename_i o;have o:openE st n=0:=by simpa using o
 obtain⟨B,C⟩:=Dq o;split
 ·rename_i hs;exact⟨.step hi,λe=>absurd e hs,λ_ m=>(BJ st).look m⟩
 ·obtain⟨_,E,_,_,D⟩:=calm_remove (BL st) ((Be st).inv hi) B C;have A:Like (turned (Fs.step st).1 [(n,-1)]) (remove (BP st) n).1:=by
   unfold remove;rw[if_neg (by rw[show openE (BP st) n=openE st n from rfl,o];simp),if_neg (by rw[Cc];simp)];refine⟨?_,?_⟩
   ·show doAll (Fs.step st).1.dir _=doAll (Fs.step (BP st)).1.dir _;rw[step_dir,step_dir];rfl
   ·show (Fs.step st).1.files=(Fs.step (BP st)).1.files;rw[step_files,step_files];rfl
  exact⟨⟨A.inv E.inv,λe=>BM e,BI st⟩,λ_ m=>(A.look m).trans (D m),λe=>absurd rfl e⟩
theorem rename_w {nt:List UInt8} (hne:n≠nt):Any st (rename st n nt).1∧((rename st n nt).2=0→∃old,look st n=some old∧∀m,look (rename st n nt).1 m=if m=nt then some old else if m=n then none else look st m) ∧
  ((rename st n nt).2≠0→∀m,look (rename st n nt).1 m=look st m):=by
 unfold rename;split
 ·exact⟨.refl hi,λe=>(by cases e),λ_ _=>rfl⟩
 rename_i o;split
 ·exact⟨.refl hi,λe=>(by cases e),λ_ _=>rfl⟩
 rename_i A;have o:(good n&&good nt)=true:=by simpa using o
 have A:mhas st.dir n=true:=by simpa using A
 split
 ·rename_i hs;exact⟨.step hi,λe=>absurd e hs,λ_ m=>(BJ st).look m⟩
 ·rw[ZA]at o;have B:look (BP st) n=some (fileAt st n):=by unfold look;exact if_pos A
  obtain⟨_,E,_,_,_,D⟩:=calm_rename (BL st) ((Be st).inv hi) o.1 o.2 hne B;have C:Like (turned (Fs.step st).1 [(n,-1),(nt,mget st.dir n)]) (rename (BP st) n nt).1:=by
   unfold rename;rw[if_neg (by rw[o.1,o.2];simp),if_neg (by show ¬mhas st.dir n=false;rw[A];simp),if_neg (by rw[Cc];simp)];refine⟨?_,?_⟩
   ·show doAll (Fs.step st).1.dir _=doAll (Fs.step (BP st)).1.dir _;rw[step_dir,step_dir];rfl
   ·show (Fs.step st).1.files=(Fs.step (BP st)).1.files;rw[step_files,step_files];rfl
  exact⟨⟨C.inv E.inv,λe=>BM e,BI st⟩,λ_=>⟨fileAt st n,by unfold look;rw[if_pos A],λm=>(C.look m).trans (D m)⟩,λe=>absurd rfl e⟩
end
end Fs
/-! ### Segments, the manifest, cleaning -/
section
variable {st : Fs.St} (hi : Fs.Inv st)
include hi
theorem Sg.create_w (id:Int):Fs.Any st (Sg.create st id).1∧(∀m,m≠Sg.nameB id→Fs.look (Sg.create st id).1 m=Fs.look st m)∧((Sg.create st id).2=0→Fs.look st (Sg.nameB id)=none∧Fs.look (Sg.create st id).1 (Sg.nameB id)=some []):=by
 unfold Sg.create;split
 ·rename_i h;exact⟨.refl hi,λ_ _=>rfl,λe=>absurd e h⟩
 obtain⟨o,F,C⟩:=Fs.create_w (n:=Sg.nameB id) hi;split
 ·rename_i h;exact⟨o,λm _=>C h m,λe=>absurd e h⟩
 ·rename_i h;obtain⟨E,A⟩:=F (by simpa using h);obtain⟨D,B⟩:=Fs.syncDir_w o.inv;exact⟨o.trans D,λm hm=>by rw[B,A,if_neg hm],λ_=>⟨E,by rw[B,A,if_pos rfl]⟩⟩
theorem Sg.append_w (id k:Int) (p:List UInt8):Fs.Any st (Sg.append st id k p).1∧(∀m,m≠Sg.nameB id→Fs.look (Sg.append st id k p).1 m=Fs.look st m) ∧
  ((Sg.append st id k p).2=0→∃old,Fs.look st (Sg.nameB id)=some old∧Fs.look (Sg.append st id k p).1 (Sg.nameB id)=some (old++Fr.bytes k p)):=by
 unfold Sg.append;split
 ·rename_i h;exact⟨.refl hi,λ_ _=>rfl,λe=>absurd e h⟩
 split
 ·rename_i h;exact⟨.refl hi,λ_ _=>rfl,λe=>absurd e h⟩
 obtain⟨o,A,C⟩:=Fs.append_w (n:=Sg.nameB id) hi (Fr.bytes k p);split
 ·rename_i h;exact⟨o,A,λe=>absurd e h⟩
 ·rename_i h;obtain⟨old,F,E⟩:=C (by simpa using h);obtain⟨D,B⟩:=Fs.sync_w (n:=Sg.nameB id) o.inv;exact⟨o.trans D,λm hm=>by rw[B,A m hm],λ_=>⟨old,F,by rw[B,E]⟩⟩
end
namespace Sto
def A9 (E:Ents):List (List Op):=E.map λe=>[e]
theorem flat_one (e:Op):flat [e]=bytes e:=by unfold flat;simp
theorem Du (id:Int):∀(E:Ents) {st:Fs.St},Fs.Inv st→Fs.Any st (compactGo id E st).1∧(∀m,m≠Sg.nameB id→Fs.look (compactGo id E st).1 m=Fs.look st m) ∧
  ((compactGo id E st).2=0→∀old,Fs.look st (Sg.nameB id)=some old→Fs.look (compactGo id E st).1 (Sg.nameB id)=some (old++fileOf (A9 E)))
 | [],st,hi=>⟨.refl hi,λ_ _=>rfl,λ_ old h=>by
   show Fs.look st (Sg.nameB id)=some (old++[]);rw[ZM];exact h⟩
 | e::r,st,hi=>by
  rw[compactGo];obtain⟨o,A,B⟩:=Sg.append_w hi id 1 (bytes e);split
  ·rename_i h;exact⟨o,A,λe=>absurd e h⟩
  ·rename_i h;obtain⟨old,G,D⟩:=B (by simpa using h);obtain⟨C,H,F⟩:=Du id r o.inv;refine⟨o.trans C,λm hm=>by rw[H m hm,A m hm],λhe old' ho=>?_⟩;rw[G]at ho;cases ho;rw[F he _ D];have:fileOf (A9 (e::r))=Fr.bytes 1 (bytes e)++fileOf (A9 r):=by
    show Fr.flat (((1:Int),flat [e])::EX (A9 r))=_;rw[flat_one];rfl
   rw[this,List.append_assoc]
end Sto
theorem Mf.save_w {st:Fs.St} (hi:Fs.Inv st) {v:Int} {l:List Int} (hg:Mf.good v l=true):Fs.Any st (Mf.save st v l).1∧(∀m,m≠Mf.final→m≠Mf.draft→Fs.look (Mf.save st v l).1 m=Fs.look st m) ∧
  (Fs.look (Mf.save st v l).1 Mf.final=Fs.look st Mf.final∨Fs.look (Mf.save st v l).1 Mf.final=some (Mf.enc v l)) ∧
  ((Mf.save st v l).2=0→Fs.look (Mf.save st v l).1 Mf.final=some (Mf.enc v l)∧Fs.look (Mf.save st v l).1 Mf.draft=none):=by
 have o:Mf.final≠Mf.draft:=by decide
 have C:Mf.draft≠Mf.final:=by decide
 unfold Mf.save;rw[if_neg (by rw[hg];simp)];unfold Mf.steps;have hC:Fs.Any st (Mf.clear st).1∧(∀m,m≠Mf.draft→Fs.look (Mf.clear st).1 m=Fs.look st m):=by
  unfold Mf.clear;split
  ·obtain⟨k1,k2,k3⟩:=Fs.remove_w (n:=Mf.draft) hi;refine⟨k1,λm hm=>?_⟩;by_cases he:(Fs.remove st Mf.draft).2=0
   ·rw[k2 he m,if_neg hm]
   ·exact k3 he m
  ·exact⟨.refl hi,λ_ _=>rfl⟩
 obtain⟨B,A⟩:=hC;rw[Fs.first];split
 ·rename_i h;exact⟨B,λm _ hm=>A m hm,.inl (A _ o),λe=>absurd e h⟩
 obtain⟨s1,O⟩:∃s,(Mf.clear st).1=s:=⟨_,rfl⟩
 rw[O]at B A ⊢;obtain⟨d1,d2,d3⟩:=Fs.create_w (n:=Mf.draft) B.inv;rw[Fs.first];split
 ·rename_i h;exact⟨B.trans d1,λm _ hm=>by rw[d3 h m,A m hm],.inl (by rw[d3 h,A _ o]),λe=>absurd e h⟩
 rename_i h;obtain⟨_,d4⟩:=d2 (by simpa using h);clear h;have H:=λm (hm:m≠Mf.draft)=>(d4 m).trans (by rw[if_neg hm,A m hm])
 have d6:Fs.look (Fs.create s1 Mf.draft).1 Mf.draft=some []:=by rw[d4,if_pos rfl]
 have M:=B.trans d1;obtain⟨s2,T⟩:∃s,(Fs.create s1 Mf.draft).1=s:=⟨_,rfl⟩
 rw[T]at M H d6 ⊢;obtain⟨e1,P,e3⟩:=Fs.append_w (n:=Mf.draft) M.inv (Mf.enc v l);rw[Fs.first];split
 ·rename_i h;exact⟨M.trans e1,λm _ hm=>by rw[P m hm,H m hm],.inl (by rw[P _ o,H _ o]),λe=>absurd e h⟩
 rename_i h;obtain⟨old,Y,V⟩:=e3 (by simpa using h);clear h;rw[d6]at Y;cases Y;rw[ZN]at V;have D:=λm (hm:m≠Mf.draft)=>(P m hm).trans (H m hm)
 have G:=M.trans e1;obtain⟨s3,Q⟩:∃s,(Fs.append s2 Mf.draft (Mf.enc v l)).1=s:=⟨_,rfl⟩
 rw[Q]at G V D ⊢;obtain⟨X,J⟩:=Fs.sync_w (n:=Mf.draft) G.inv;rw[Fs.first];split
 ·rename_i h;exact⟨G.trans X,λm _ hm=>by rw[J,D m hm],.inl (by rw[J,D _ o]),λe=>absurd e h⟩
 have E:=G.trans X;have N:=λm (hm:m≠Mf.draft)=>(J m).trans (D m hm)
 have f4:=(J Mf.draft).trans V;obtain⟨s4,S⟩:∃s,(Fs.sync s3 Mf.draft).1=s:=⟨_,rfl⟩
 rw[S]at E N f4 ⊢;obtain⟨g1,g2,Z⟩:=Fs.rename_w (n:=Mf.draft) (nt:=Mf.final) E.inv C;rw[Fs.first];split
 ·rename_i h;exact⟨E.trans g1,λm _ hm=>by rw[Z h m,N m hm],.inl (by rw[Z h,N _ o]),λe=>absurd e h⟩
 rename_i h;obtain⟨old,g4,L⟩:=g2 (by simpa using h);clear h;rw[f4]at g4;cases g4;have F:=E.trans g1;obtain⟨s5,U⟩:∃s,(Fs.rename s4 Mf.draft Mf.final).1=s:=⟨_,rfl⟩
 rw[U]at F L ⊢;obtain⟨K,I⟩:=Fs.syncDir_w F.inv;have hF:∀s,(∀m,Fs.look s m=Fs.look s5 m)→(∀m,m≠Mf.final→m≠Mf.draft→Fs.look s m=Fs.look st m)∧Fs.look s Mf.final=some (Mf.enc v l)∧Fs.look s Mf.draft=none:=λs hs=>by
  refine⟨λm K I=>?_,?_,?_⟩
  ·rw[hs,L,if_neg K,if_neg I,N m I]
  ·rw[hs,L,if_pos rfl]
  ·rw[hs,L,if_neg C,if_pos rfl]
 obtain⟨W,R,i3⟩:=hF _ I;rw[Fs.first];split
 ·rename_i h;exact⟨F.trans K,W,.inr R,λe=>absurd e h⟩
 ·rw[Fs.first];exact⟨F.trans K,W,.inr R,λ_=>⟨R,i3⟩⟩
theorem Fs.cleanGo_w {l:List Int}:∀(r:List (List UInt8)) (st:Fs.St) (n:Nat),Fs.Inv st→Fs.Any st (Fs.cleanGo l r st n).1∧(∀m,Fs.keepN l m=true→Fs.look (Fs.cleanGo l r st n).1 m=Fs.look st m) ∧
  (∀m,Fs.look st m=none→Fs.look (Fs.cleanGo l r st n).1 m=none)∧((Fs.cleanGo l r st n).2.2=0→∀m∈r,Fs.keepN l m=false→Fs.look (Fs.cleanGo l r st n).1 m=none)
 | [],st,n,hi=>by
  unfold Fs.cleanGo;split
  ·exact⟨.refl hi,λ_ _=>rfl,λ_ h=>h,λ_ m hm=>(by cases hm)⟩
  ·obtain⟨A,o⟩:=Fs.syncDir_w hi;exact⟨A,λm _=>o m,λm h=>by rw[o];exact h,λ_ m hm=>(by cases hm)⟩
 | x::r,st,n,hi=>by
  unfold Fs.cleanGo;split
  ·rename_i hx;obtain⟨A,o,B,E⟩:=Fs.cleanGo_w r st n hi;refine⟨A,o,B,λhe m hm hk=>?_⟩;rcases ZX.1 hm with rfl|hm
   ·rw[hx]at hk;cases hk
   ·exact E he m hm hk
  rename_i hx;obtain⟨C,G,F⟩:=Fs.remove_w (n:=x) hi;split
  ·rename_i h;exact⟨C,λm _=>F h m,λm hm=>by rw[F h];exact hm,λe=>absurd e h⟩
  ·rename_i h;have D:=G (by simpa using h);obtain⟨A,o,B,E⟩:=Fs.cleanGo_w r _ (n+1) C.inv;refine⟨C.trans A,λm hm=>?_,λm hm=>?_,λhe m hm hk=>?_⟩
   ·rw[o m hm,D,if_neg (λe=>hx (by rw[← e];exact hm))]
   ·refine B m ?_;rw[D];split
    ·rfl
    ·exact hm
   ·rcases ZX.1 hm with rfl|hm
    ·exact B m (by rw[D,if_pos rfl])
    ·exact E he m hm hk
theorem Fs.clean_w {st:Fs.St} (hi:Fs.Inv st) {v:Int} {l:List Int} (hg:Mf.good v l=true):Fs.Any st (Fs.clean st v l).1∧(∀m,Fs.keepN l m=true→Fs.look (Fs.clean st v l).1 m=Fs.look st m) ∧
  ((Fs.clean st v l).2.2=0→∀m,Fs.keepN l m=false→Fs.look (Fs.clean st v l).1 m=none):=by
 unfold Fs.clean;rw[if_neg (by rw[hg];simp)];obtain⟨o,B,A,C⟩:=Fs.cleanGo_w (l:=l) (Fs.keys st.dir) st 0 hi;refine⟨o,B,λhe m hk=>?_⟩;by_cases hm:Fs.mhas st.dir m=true
 ·exact C he m (Fs.keys_mem.2 hm) hk
 ·exact A m (by unfold Fs.look;rw[if_neg hm])
end Go.Proofs.YtjldahcckmmenaaGreatDoor
