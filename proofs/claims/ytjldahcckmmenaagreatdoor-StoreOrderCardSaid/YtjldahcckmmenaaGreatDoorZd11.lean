/-
  The store's disk in calm weather (plain): what its files hold, what is opened, a fresh segment, a batch more. A batch is written (plain): which segment it goes to, what the disk must have room for. Manifests: Clean, walked.
-/
import Derived.Test.YtjldahcckmmenaaGreatDoorZd10
import Derived.Test.YtjldahcckmmenaaGreatDoorZd9
open Bool renaming and_eq_true → ZA
open Go.Lib renaming hid → QA
open List renaming mem_singleton → QB, mem_cons_self → QP, length_append → QS, mem_cons_of_mem → QT, getElem?_eq_getElem → ZG, mem_append → ZI, append_nil → ZM
open Nat renaming le_refl → QM, le_trans → QQ, zero_le → ZS
namespace Go.Proofs.YtjldahcckmmenaaGreatDoor
set_option maxRecDepth 100000
set_option maxHeartbeats 4000000
set_option linter.unusedSimpArgs false
set_option linter.unusedVariables false
open Go Go.RowKit
namespace Sto
abbrev Seg:=Int×List (List Op)
def FM (bs:List (List Op)):List Fr.F:=bs.map λops=>((1:Int),flat ops)
def fileOf (bs:List (List Op)):List UInt8:=Fr.flat (FM bs)
def ids (S:List Seg):List Int:=S.map (·.1)
def batches (S:List Seg):List (List Op):=S.flatMap (·.2)
def ents (S:List Seg):Ents:=chgs [] (batches S).flatten
structure GoodB (ops:List Op):Prop where
 chk:chk ops=0
 some':0<ops.length
 key:∀o∈ops,o.1.length=32
theorem GoodB.mass_le {ops:List Op} (h:GoodB ops):mass ops≤8192:=by
 have:=h.chk;unfold Sto.chk at this;split at this
 ·cases this
 split at this
 ·cases this
 split at this
 ·cases this
 ·omega
theorem GoodB.enc {ops:List Op} (h:GoodB ops):Fr.encE 1 (flat ops)=0:=by
 unfold Fr.encE;rw[if_neg (by omega),if_neg (by rw[flat_len ops h.key];have:=h.mass_le;omega)]
theorem GoodB.blen {ops:List Op} (h:GoodB ops):(Fr.bytes 1 (flat ops)).length=mass ops+9:=by rw[Fr.bytes_len,flat_len ops h.key]
def Lv (bs:List (List Op)):Prop:=∀j,live (chgs [] (bs.take j).flatten)≤50000
theorem Lv.snoc {bs:List (List Op)} (h:Lv bs) {ops:List Op} (ho:live (chgs (chgs [] bs.flatten) ops)≤50000):Lv (bs++[ops]):=λj=>by
 by_cases hj:j≤bs.length
 ·rw[List.take_append_of_le_length hj];exact h j
 ·rw[List.take_of_length_le (by simp;omega),List.flatten_append,chgs_app]
  simpa using ho
theorem BH (bs:List (List Op)) (ops:List Op):fileOf (bs++[ops])=fileOf bs++Fr.bytes 1 (flat ops):=by
 unfold fileOf FM;rw[List.map_append,Fr.flat_app];simp[Fr.flat]
def ens (S:List Seg):List Sg.En:=S.flatMap λs=>(FM s.2).map λf=>(s.1,f)
structure DiskX (f:Fs.St) (k:Nat) (ver:Int) (S:List Seg) (M:Nat):Prop where
 calm:Fs.Calm f
 inv:Fs.Inv f
 sound:Fs.Sound f k
 good:Mf.good ver (ids S)=true
 small:ver≤k∧∀s∈S,s.1≤k
 man:Fs.look f Mf.final=some (Mf.enc ver (ids S))
 seg:∀s∈S,Fs.look f (Sg.nameB s.1)=some (fileOf s.2)
 bat:∀b∈batches S,GoodB b
 lv:Lv (batches S)
 len:800≤M∧∀s∈S,(fileOf s.2).length≤M
structure Disk (f:Fs.St) (k:Nat) (ver:Int) (S:List Seg) (M:Nat):Prop where
 x:DiskX f k ver S M
 no:∀n,n≠Mf.final→(∀s∈S,n≠Sg.nameB s.1)→Fs.look f n=none
 dir:f.dir.length≤S.length+1
theorem B4 (id:Int):Mf.final≠Sg.nameB id:=by
 unfold Sg.nameB Mf.final;split<;>simp
theorem Et (id:Int):Mf.draft≠Sg.nameB id:=by
 unfold Sg.nameB Mf.draft;split<;>simp
section
variable {f : Fs.St} {k : Nat} {ver : Int} {S : List Seg} {M : Nat}
theorem DiskX.name (h:DiskX f k ver S M) {s:Seg} (hs:s∈S):Sg.nameE s.1=0:=by
 have:=Mf.incr_pos (Int.le_refl 0) (Mf.good_out h.good).2.2 s.1 (List.mem_map.2 ⟨s,hs,rfl⟩);unfold Sg.nameE;rw[if_neg (by omega)]
theorem DiskX.has (h:DiskX f k ver S M):Fs.mhas f.dir Mf.final=true:=by rw[Fs.has_look,h.man];rfl
theorem DiskX.load (h:DiskX f k ver S M):Mf.load f=((ver,ids S),0):=Mf.load_look h.good h.man
theorem DiskX.at (h:DiskX f k ver S M) {s:Seg} (hs:s∈S):Fs.openE f (Sg.nameB s.1)=0∧Fs.fileAt f (Sg.nameB s.1)=fileOf s.2:=by
 obtain⟨o,A⟩:=Fs.look_some (h.seg s hs);exact⟨Fs.openE_of (Sg.good_name (h.name hs)) o,A⟩
theorem DiskX.read (h:DiskX f k ver S M):Sg.read f (ids S)=(ens S,true,0):=by
 have C:(S.map λs=>((s.1,FM s.2):Sg.Seg)).map (·.1)=ids S:=by rw[List.map_map];rfl
 have B:(S.map λs=>((s.1,FM s.2):Sg.Seg)).flatMap (λs=>s.2.map λf=>(s.1,f))=ens S:=by rw[List.flatMap_map];rfl
 unfold Sg.read;rw[← C,if_neg (by
  rw[Sg.bad_none _ (λs hs=>by
   obtain⟨t,o,rfl⟩:=List.mem_map.1 hs;exact h.name o)];simp),Sg.read_go (l:=S.map λs=>((s.1,FM s.2):Sg.Seg)),B]
 ·rfl
 ·intro s hs;obtain⟨t,o,rfl⟩:=List.mem_map.1 hs;exact (h.at o).1
 ·intro s hs;obtain⟨t,o,rfl⟩:=List.mem_map.1 hs;show Fr.scan (Fs.fileAt f (Sg.nameB t.1))=_;rw[(h.at o).2];have:=Fr.scan_flat [] Fr.stop_nil (FM t.2) (λx hx=>by
   obtain⟨b,A,rfl⟩:=List.mem_map.1 hx;exact (h.bat b (List.mem_flatMap.2 ⟨t,o,A⟩)).enc)
  rwa [ZM]at this
theorem Eo (h:DiskX f k ver S M) {s:Seg} (hs:s∈S):Fs.keepN (ids S) (Sg.nameB s.1)=true:=by
 unfold Fs.keepN;rw[(Sg.id_name (h.name hs)).1,Bool.or_eq_true];exact .inr (List.contains_iff_mem.2 (List.mem_map.2 ⟨s,hs,rfl⟩))
theorem Im (h:DiskX f k ver S M) {n:List UInt8} (hn:Fs.keepN (ids S) n=true):n=Mf.final∨∃s∈S,n=Sg.nameB s.1:=by
 unfold Fs.keepN at hn;rw[Bool.or_eq_true]at hn;rcases hn with hn|hn
 ·exact .inl (of_decide_eq_true hn)
 ·obtain⟨s,A,e⟩:=List.mem_map.1 (List.contains_iff_mem.1 hn);have o:=h.name A;have B:s.1≠0:=λe0=>by rw[e0]at o;exact absurd o (by decide)
  exact .inr ⟨s,A,((Fs.idOf_name e.symm B).1).symm⟩
theorem DD {l:List Int}:∀(r:List (List UInt8)) (st:Fs.St),(∀x∈r,Fs.keepN l x=true)→Fs.cleanGo l r st 0=(st,0,0)
 | [],st,_=>rfl
 | x::r,st,h=>by
  rw[Fs.cleanGo,if_pos (h x QP)];exact DD r st λy hy=>h y (QT _ hy)
theorem Disk.clean (h:Disk f k ver S M):Fs.clean f ver (ids S)=(f,0,0):=by
 unfold Fs.clean;rw[if_neg (by rw[h.x.good];simp)];refine DD _ _ λx o=>?_
 have o:=Fs.keys_mem.1 o;by_cases h1:x=Mf.final
 ·rw[h1];unfold Fs.keepN;simp
 by_cases h2:∃s∈S,x=Sg.nameB s.1
 ·obtain⟨s,A,rfl⟩:=h2;exact Eo h.x A
 ·have:=h.no x h1 λs A e=>h2 ⟨s,A,e⟩
  rw[Fs.has_look,this]at o;cases o
theorem DiskX.clean (h:DiskX f k ver S M):(Fs.clean f ver (ids S)).2.2=0∧DiskX (Fs.clean f ver (ids S)).1 (k+2*k) ver S M ∧
  ∀n,n≠Mf.final→(∀s∈S,n≠Sg.nameB s.1)→Fs.look (Fs.clean f ver (ids S)).1 n=none:=by
 obtain⟨B,C,A,E,F,o⟩:=Fs.clean_calm h.calm h.inv h.good;obtain⟨D,_⟩:=Fs.clean_sound h.sound (λz hz=>by rw[h.calm.2]at hz;cases hz) ver (ids S);refine⟨B,⟨C,A,D,h.good,⟨by have:=h.small.1;omega,λs hs=>by have:=h.small.2 s hs;omega⟩,?_,λs hs=>?_,h.bat,h.lv,h.len⟩,λn hn hs=>?_⟩
 ·rw[o,if_pos (by unfold Fs.keepN;simp)];exact h.man
 ·rw[o,if_pos (Eo h hs)];exact h.seg s hs
 ·rw[o,if_neg];intro e;rcases Im h e with rfl|⟨s,h8,rfl⟩
  ·exact hn rfl
  ·exact hs s h8 rfl
theorem E1:∀{l:List Int} {last x:Int},Mf.incr last l=true→last<x→(∀n∈l,n<x)→x≤2147483647→Mf.incr last (l++[x])=true
 | [],last,x,_,h1,_,h3=>by simp[Mf.incr,h1,h3]
 | y::r,last,x,h,h1,h2,h3=>by
  rw[Mf.incr]at h;simp only[ZA,decide_eq_true_eq]at h;rw[List.cons_append,Mf.incr];simp only[ZA,decide_eq_true_eq];exact⟨h.1,h.2.1,E1 h.2.2 (h2 y QP) (λn hn=>h2 n (QT _ hn)) h3⟩
theorem Ca:∀{l:List Int} {last:Int},Mf.incr last l=true→∀n∈l,n≤l.getLastD last
 | [],_,_,n,hn=>by cases hn
 | y::r,last,h,n,hn=>by
  rw[Mf.incr]at h;simp only[ZA,decide_eq_true_eq]at h;rw[List.getLastD_cons];rcases List.mem_cons.1 hn with rfl|hn
  ·cases r with
   | nil=>exact Int.le_refl _
   | cons z r =>
    have o:=h.2.2;have A:=Ca o z QP;rw[Mf.incr]at o;simp only[ZA,decide_eq_true_eq]at o;omega
  ·exact Ca h.2.2 n hn
def act (S:List Seg):Int:=(ids S).getLastD 0
theorem ids_app (S T:List Seg):ids (S++T)=ids S++ids T:=List.map_append ..
theorem act_snoc (S:List Seg) (s:Seg):act (S++[s])=s.1:=by
 unfold act;rw[ids_app];simp[ids]
theorem BO (S T:List Seg):batches (S++T)=batches S++batches T:=List.flatMap_append ..
theorem Disk.nodup (h:DiskX f k ver S M) {id:Int} (hid:act S<id):∀s∈S,s.1≠id:=λs hs e=>by
 have:=Ca (Mf.good_out h.good).2.2 s.1 (List.mem_map.2 ⟨s,hs,rfl⟩);have o:act S=(ids S).getLastD 0:=rfl;omega
theorem Disk.create (h:Disk f k ver S M) {id:Int} (hid:act S<id) (hn:Sg.nameE id=0) (hS:S.length<60) :
  (Sg.create f id).2=0∧Fs.Calm (Sg.create f id).1∧Fs.Inv (Sg.create f id).1∧Fs.Sound (Sg.create f id).1 (k+2)∧(Sg.create f id).1.room=f.room∧(Sg.create f id).1.dir.length≤S.length+2 ∧
   ∀m,Fs.look (Sg.create f id).1 m=if m=Sg.nameB id then some [] else Fs.look f m:=by
 have o:Fs.look f (Sg.nameB id)=none:=h.no _ (λe=>B4 id e.symm) λs hs e=>Disk.nodup h.x hid s hs (Sg.name_inj (h.x.name hs) hn e.symm)
 have H:=h.dir;obtain⟨a1,a2,D,a4⟩:=Fs.calm_create h.x.calm h.x.inv (Sg.good_name hn) (Fs.look_none o) (by omega);obtain⟨C,A,B,G,F⟩:=Fs.calm_syncDir a2.calm a2.inv;have E:Sg.create f id=Fs.syncDir (Fs.create f (Sg.nameB id)).1:=by
  unfold Sg.create;rw[if_neg (by rw[hn];simp),if_neg (by rw[a1];simp)]
 rw[E];exact⟨C,A.calm,A.inv,(h.x.sound.create _).syncDir,A.room.trans a2.room,by rw[B,D];omega,λm=>by rw[F];exact a4 m⟩
theorem Disk.len (h:Disk f k ver S M):∀n b,Fs.look f n=some b→b.length≤M:=λn b hb=>by
 by_cases h1:n=Mf.final
 ·rw[h1,h.x.man]at hb;rw[← Option.some.inj hb];exact QQ (Mf.enc_len h.x.good) h.x.len.1
 by_cases h2:∃s∈S,n=Sg.nameB s.1
 ·obtain⟨s,o,rfl⟩:=h2;rw[h.x.seg s o]at hb;rw[← Option.some.inj hb];exact h.x.len.2 s o
 ·rw[h.no n h1 λs o e=>h2 ⟨s,o,e⟩]at hb;cases hb
theorem J8 (h:DiskX f k ver S M):∃s∈S,s.1=act S:=by
 have A:=(Mf.good_out h.good).2.1.1;have o:ids S≠[]:=λe=>by rw[e]at A;simp at A
 have:act S=(ids S).getLast o:=by unfold act;rw[List.getLastD_eq_getLast?,List.getLast?_eq_some_getLast o];rfl
 have B:=List.getLast_mem o;rw[← this]at B;obtain⟨s,C,e⟩:=List.mem_map.1 B;exact⟨s,C,e⟩
theorem Disk.room (h:Disk f k ver S M) (hS:S.length<32) (hk:k≤1000000) (hr:((S.length+3)*M+800:Nat)≤f.room) :
  (Sg.create f (act S+1)).2=0∧(Mf.save (Sg.create f (act S+1)).1 (wrap64 (ver+1)) (ids S++[act S+1])).2=0∧wrap64 (ver+1)=ver+1 ∧
   Fs.Sound (Sg.create f (act S+1)).1 (k+2)∧Fs.Calm (Sg.create f (act S+1)).1∧(Mf.save (Sg.create f (act S+1)).1 (wrap64 (ver+1)) (ids S++[act S+1])).1.room=f.room ∧
   Disk (Mf.save (Sg.create f (act S+1)).1 (wrap64 (ver+1)) (ids S++[act S+1])).1 (k+14) (ver+1) (S++[(act S+1,[])]) M:=by
 obtain⟨H,D,ea⟩:=J8 h.x;have W:=h.x.small.2 H D;have T:=h.x.small.1;have I:=Mf.good_out h.x.good;have Z:1≤act S:=by
  have:=Mf.incr_pos (Int.le_refl 0) I.2.2 H.1 (List.mem_map.2 ⟨H,D,rfl⟩);omega
 have hw:wrap64 (ver+1)=ver+1:=by unfold wrap64;omega
 have E:Sg.nameE (act S+1)=0:=by unfold Sg.nameE;rw[if_neg (by omega)]
 obtain⟨X,J,Y,O,P,c6,G⟩:=h.create (id:=act S+1) (by omega) E (by omega);have N:(ids S).length=S.length:=List.length_map _;have o:Mf.good (ver+1) (ids S++[act S+1])=true:=by
  unfold Mf.good;rw[E1 I.2.2 (by omega) (λn hn=>by have:n≤act S:=Ca I.2.2 n hn;omega) (by omega)];simp only[Bool.and_true,ZA,decide_eq_true_eq,QS,List.length_singleton,N];omega
 have C:∀n b,Fs.look (Sg.create f (act S+1)).1 n=some b→b.length≤M:=λn b hb=>by
  rw[G]at hb;split at hb
  ·rw[← Option.some.inj hb];exact ZS _
  ·exact h.len n b hb
 have Q:((Sg.create f (act S+1)).1.dir.length+1)*M≤(S.length+3)*M:=Nat.mul_le_mul_right M (by omega);obtain⟨R,L,s3,V,s5,K⟩:=Mf.save_calm J Y o (by omega) C (by rw[P];omega) (λx hx=>(O.full x hx).2);obtain⟨U,_⟩:=Cp O (λz hz=>by rw[J.2]at hz;cases hz) (ver+1) (ids S++[act S+1]);have B:Fs.look (Sg.create f (act S+1)).1 Mf.final=some (Mf.enc ver (ids S)):=by rw[G,if_neg (B4 _)];exact h.x.man
 have A:ids (S++[(act S+1,[])])=ids S++[act S+1]:=ids_app _ _;have F:¬Mf.draft=Mf.final:=by decide
 rw[hw];refine⟨X,R,rfl,O,J,L.room.trans P,⟨L.calm,L.inv,U.mono (by omega),by rw[A];exact o,⟨by omega,λs hs=>?_⟩,by rw[K,if_pos rfl,A],λs hs=>?_,?_,?_,⟨h.x.len.1,λs hs=>?_⟩⟩,λn hn hs=>?_,?_⟩
 ·rcases ZI.1 hs with hs|hs
  ·have:=h.x.small.2 s hs;omega
  ·rw[QB.1 hs];show act S+1≤_;omega
 ·rw[K,if_neg (λe=>B4 _ e.symm),if_neg (λe=>Et _ e.symm),G];rcases ZI.1 hs with hs|hs
  ·rw[if_neg (λe=>Disk.nodup h.x (id:=act S+1) (by omega) s hs (Sg.name_inj (h.x.name hs) E e))];exact h.x.seg s hs
  ·rw[QB.1 hs,if_pos rfl];rfl
 ·rw[BO];show ∀b∈batches S++[],_;rw[ZM];exact h.x.bat
 ·rw[BO];show Lv (batches S++[]);rw[ZM];exact h.x.lv
 ·rcases ZI.1 hs with hs|hs
  ·exact h.x.len.2 s hs
  ·rw[QB.1 hs];exact ZS _
 ·rw[K,if_neg hn];by_cases hd:n=Mf.draft
  ·rw[if_pos hd]
  ·rw[if_neg hd,G,if_neg (hs (act S+1,[]) (List.mem_append_right _ (QB.2 rfl)))];exact h.no n hn λs h1=>hs s (List.mem_append_left _ h1)
 ·have:=V (by rw[Fs.has_look,B];rfl);rw[QS];simp only[List.length_singleton];omega
end
section
variable {f : Fs.St} {k : Nat} {ver : Int} {S : List Seg} {M : Nat} {a : Int} {bs : List (List Op)} {ops : List Op}
theorem Disk.append (h:Disk f k ver (S++[(a,bs)]) M) (ho:GoodB ops) (hl:live (chgs (ents (S++[(a,bs)])) ops)≤50000) (hM:(fileOf bs).length+(mass ops+9)≤M) (hM2:M≤65536) (hr:((S.length+2)*M+(mass ops+9):Nat)≤f.room) :
  (Sg.append f a 1 (flat ops)).2=0∧(Sg.append f a 1 (flat ops)).1.room=f.room∧Disk (Sg.append f a 1 (flat ops)).1 k ver (S++[(a,bs++[ops])]) M∧ents (S++[(a,bs++[ops])])=chgs (ents (S++[(a,bs)])) ops:=by
 have H:(a,bs)∈S++[(a,bs)]:=List.mem_append_right _ (QB.2 rfl);have D:=h.x.name H;have N:=h.x.seg _ H;have G:=ho.blen;have L:=h.dir;rw[QS,List.length_singleton]at L;have hu:=Fs.used_look h.x.inv h.len;have T:f.dir.length*M≤(S.length+2)*M:=Nat.mul_le_mul_right M (by omega);obtain⟨a1,a2,W,a4,Q⟩:=Fs.calm_append (b:=Fr.bytes 1 (flat ops)) h.x.calm h.x.inv (Sg.good_name D) N (by simp only;omega) (by rw[G];omega);have F:=Q (Sg.nameB a);rw[if_pos rfl]at F;obtain⟨U,Z,X,b4,Y⟩:=Fs.calm_sync a2.calm a2.inv (Sg.good_name D) F;have J:Sg.append f a 1 (flat ops)=Fs.sync (Fs.append f (Sg.nameB a) (Fr.bytes 1 (flat ops))).1 (Sg.nameB a):=by
  unfold Sg.append;rw[if_neg (by rw[D];simp),if_neg (by rw[ho.enc];simp),if_neg (by rw[a1];simp)]
 have E:ids (S++[(a,bs++[ops])])=ids (S++[(a,bs)]):=by rw[ids_app,ids_app];rfl
 have B:batches (S++[(a,bs++[ops])])=batches (S++[(a,bs)])++[ops]:=by rw[BO,BO];simp[batches]
 have A:∀m,Fs.look (Sg.append f a 1 (flat ops)).1 m=if m=Sg.nameB a then some (fileOf bs++Fr.bytes 1 (flat ops)) else Fs.look f m:=λm=>by rw[J,Y,Q]
 have K:ents (S++[(a,bs++[ops])])=chgs (ents (S++[(a,bs)])) ops:=by
  unfold ents;rw[B,List.flatten_append,chgs_app];simp
 have O:∀s∈S,Sg.nameB s.1≠Sg.nameB a:=λs hs e=>by
  have I:=Sg.name_inj (h.x.name (List.mem_append_left _ hs)) D e;have R:=(Mf.good_out h.x.good).2.2;have hi:Mf.incr 0 (ids S++[a])=true:=by rw[ids_app]at R;exact R
  have:∀(l:List Int) (last:Int),Mf.incr last (l++[a])=true→last<a∧∀n∈l,n<a:=by
   intro l
   induction l with
   | nil =>
    intro last h;simp[Mf.incr]at h;exact⟨h.1,λn hn=>by cases hn⟩
   | cons y r ih =>
    intro last h;rw[List.cons_append,Mf.incr]at h;simp only[ZA,decide_eq_true_eq]at h;obtain⟨V,i2⟩:=ih y h.2.2;exact⟨by omega,λn hn=>by
     rcases List.mem_cons.1 hn with rfl|hn
     ·exact V
     ·exact i2 n hn⟩
  have:=(this (ids S) 0 hi).2 s.1 (List.mem_map.2 ⟨s,hs,rfl⟩);omega
 have o:Fs.Next f (Sg.append f a 1 (flat ops)).1 0:=by rw[J];exact a2.trans Z
 have C:Fs.Sound (Sg.append f a 1 (flat ops)).1 k:=by rw[J];exact (h.x.sound.append _ _).sync _
 refine⟨by rw[J];exact U,o.room,⟨⟨o.calm,o.inv,C,by rw[E];exact h.x.good,⟨h.x.small.1,λs hs=>?_⟩,by rw[A,if_neg (B4 _),E];exact h.x.man,λs hs=>?_,?_,?_,⟨h.x.len.1,λs hs=>?_⟩⟩,λn hn hs=>?_,?_⟩,K⟩
 ·rcases ZI.1 hs with hs|hs
  ·exact h.x.small.2 s (List.mem_append_left _ hs)
  ·rw[QB.1 hs];exact h.x.small.2 (a,bs) H
 ·rw[A];rcases ZI.1 hs with hs|hs
  ·rw[if_neg (O s hs)];exact h.x.seg s (List.mem_append_left _ hs)
  ·rw[QB.1 hs,if_pos rfl,BH]
 ·rw[B];intro b G;rcases ZI.1 G with G|G
  ·exact h.x.bat b G
  ·rw[QB.1 G];exact ho
 ·rw[B];exact h.x.lv.snoc hl
 ·rcases ZI.1 hs with hs|hs
  ·exact h.x.len.2 s (List.mem_append_left _ hs)
  ·rw[QB.1 hs];show (fileOf (bs++[ops])).length≤M;rw[BH,QS,G];exact hM
 ·rw[A,if_neg (hs (a,bs++[ops]) (List.mem_append_right _ (QB.2 rfl)))];refine h.no n hn λs I=>?_
  rcases ZI.1 I with I|I
  ·exact hs s (List.mem_append_left _ I)
  ·rw[QB.1 I];exact hs (a,bs++[ops]) (List.mem_append_right _ (QB.2 rfl))
 ·have P:(Sg.append f a 1 (flat ops)).1.dir=f.dir:=by rw[J,X,W]
  rw[P,QS,List.length_singleton];omega
theorem Disk.begin {r:Int} (h1:3200≤r) (h2:r≤1048576) :
  (Sg.create (Fs.new r) 1).2=0∧(Mf.save (Sg.create (Fs.new r) 1).1 1 [1]).2=0∧Fs.Sound (Sg.create (Fs.new r) 1).1 3∧Fs.Calm (Sg.create (Fs.new r) 1).1∧(Mf.save (Sg.create (Fs.new r) 1).1 1 [1]).1.room=r ∧
   Disk (Mf.save (Sg.create (Fs.new r) 1).1 1 [1]).1 15 1 [(1,[])] 800:=by
 have Q:Fs.Calm (Fs.new r):=⟨rfl,rfl⟩
 have R:=Fs.Inv.new r;have C:Sg.nameE 1=0:=by decide
 obtain⟨a1,a2,K,a4⟩:=Fs.calm_create Q R (Sg.good_name C) (Fs.look_none (Fs.look_new r _)) (by show 0<64;omega);obtain⟨H,B,N,V,O⟩:=Fs.calm_syncDir a2.calm a2.inv;have L:Sg.create (Fs.new r) 1=Fs.syncDir (Fs.create (Fs.new r) (Sg.nameB 1)).1:=by
  unfold Sg.create;rw[if_neg (by rw[C];simp),if_neg (by rw[a1];simp)]
 have F:Fs.Sound (Fs.new r) 1:=Fs.Sound.new ⟨by omega,h2⟩ 1;have A:Fs.Sound (Fs.syncDir (Fs.create (Fs.new r) (Sg.nameB 1)).1).1 3:=(F.create _).syncDir;have o:∀m,Fs.look (Fs.syncDir (Fs.create (Fs.new r) (Sg.nameB 1)).1).1 m=if m=Sg.nameB 1 then some [] else none:=λm=>by rw[O,a4,Fs.look_new]
 have P:(Fs.syncDir (Fs.create (Fs.new r) (Sg.nameB 1)).1).1.dir.length=1:=by rw[N,K];rfl
 have G:Mf.good 1 [1]=true:=by decide
 rw[L];obtain⟨I,E,S,T,U,D⟩:=Mf.save_calm B.calm B.inv G (by omega) (M:=800) (λn b hb=>by
  rw[o]at hb;split at hb
  ·rw[← Option.some.inj hb];exact ZS _
  ·cases hb) (by rw[P,B.room,a2.room];show ((_:Nat):Int)≤r;omega) (λx hx=>(A.full x hx).2)
 obtain⟨J,_⟩:=Cp A (λz hz=>by rw[B.calm.2]at hz;cases hz) 1 [1];refine⟨H,I,A,B.calm,E.room.trans (B.room.trans a2.room),⟨⟨E.calm,E.inv,J,G,⟨by decide,λs A=>?_⟩,by rw[D,if_pos rfl];rfl,λs A=>?_,λb hb=>(by cases hb),λj=>?_,⟨QM _,λs A=>?_⟩⟩,λn hn A=>?_,?_⟩⟩
 ·rw[QB.1 A];decide
 ·rw[QB.1 A,D,if_neg (λe=>B4 _ e.symm),if_neg (λe=>Et _ e.symm),o,if_pos rfl];rfl
 ·show live (chgs [] (List.take j []).flatten)≤50000;rw[List.take_nil];exact ZS _
 ·rw[QB.1 A];exact ZS _
 ·rw[D,if_neg hn,o,if_neg (A (1,[]) (QB.2 rfl))];split<;>rfl
 ·rw[List.length_singleton];omega
end
end Sto
namespace Sto
def put (S:List Seg) (ops:List Op):List Seg:=match S.getLast? with
 | none=>S
 | some s=>if 4096<(fileOf s.2).length then S++[(s.1+1,[ops])] else S.dropLast++[(s.1,s.2++[ops])]
theorem put_snoc (S:List Seg) (a:Int) (bs:List (List Op)) (ops:List Op) :
  put (S++[(a,bs)]) ops=if 4096<(fileOf bs).length then S++[(a,bs)]++[(a+1,[ops])] else S++[(a,bs++[ops])]:=by
 unfold put;rw[List.getLast?_append];simp
theorem snoc_of {S:List Seg} (h:S≠[]):∃S0 a bs,S=S0++[(a,bs)]:=⟨S.dropLast,(S.getLast h).1,(S.getLast h).2,(List.dropLast_concat_getLast h).symm⟩
theorem BX (S:List Seg) (a:Int) (bs:List (List Op)):batches (S++[(a,bs)])=batches S++bs:=by rw[BO];simp[batches]
theorem Ft {S:List Seg} (h:S≠[]) (ops:List Op):batches (put S ops)=batches S++[ops]:=by
 obtain⟨o,a,A,rfl⟩:=snoc_of h;rw[put_snoc];split
 ·rw[BX]
 ·rw[BX,BX,List.append_assoc]
theorem ents_put {S:List Seg} (h:S≠[]) (ops:List Op):ents (put S ops)=chgs (ents S) ops:=by
 unfold ents;rw[Ft h,List.flatten_append,chgs_app];simp
theorem Hw {S:List Seg} (h:S≠[]) (ops:List Op):S.length≤(put S ops).length∧(put S ops).length≤S.length+1:=by
 obtain⟨o,a,A,rfl⟩:=snoc_of h;rw[put_snoc];split<;>simp
def Ho (S:List Seg):Prop:=∀s∈S.dropLast,4096<(fileOf s.2).length
theorem Ho.put {S:List Seg} (h:Ho S) (hne:S≠[]) (ops:List Op):Ho (put S ops):=by
 obtain⟨o,a,A,rfl⟩:=snoc_of hne;unfold Ho at h ⊢;rw[List.dropLast_concat]at h;rw[put_snoc];split
 ·rename_i hb;rw[List.dropLast_concat];intro s hs;rcases ZI.1 hs with hs|hs
  ·exact h s hs
  ·rw[QB.1 hs];exact hb
 ·rw[List.dropLast_concat];exact h
def bytesOf (S:List Seg):Nat:=(S.map λs=>(fileOf s.2).length).sum
structure Can (f:Fs.St) (k:Nat) (S:List Seg) (M:Nat) (ops:List Op):Prop where
 few:(put S ops).length≤32
 len:∀s∈put S ops,(fileOf s.2).length≤M
 max:M≤65536
 room:S.length<(put S ops).length→((S.length+3)*M+800:Nat)≤f.room
 space:(((put S ops).length+1)*M+(mass ops+9):Nat)≤f.room
 small:k≤100000
theorem Disk.mono {f:Fs.St} {k k':Nat} {ver:Int} {S:List Seg} {M M':Nat} (h:Disk f k ver S M) (hk:k≤k') (hM:M≤M'):Disk f k' ver S M' :=
 ⟨⟨h.x.calm,h.x.inv,h.x.sound.mono hk,h.x.good,⟨by have:=h.x.small.1;omega,λs hs=>by have:=h.x.small.2 s hs;omega⟩,h.x.man,h.x.seg,h.x.bat,h.x.lv,⟨QQ h.x.len.1 hM,λs hs=>QQ (h.x.len.2 s hs) hM⟩⟩,h.no,h.dir⟩
theorem DiskX.ne {f:Fs.St} {k:Nat} {ver:Int} {S:List Seg} {M:Nat} (h:DiskX f k ver S M):S≠[]:=λe=>by
 have:=(Mf.good_out h.good).2.1.1;rw[e]at this;simp[ids]at this
section
variable {f : Fs.St} {k : Nat} {ver : Int} {S0 : List Seg} {a : Int} {bs : List (List Op)} {M : Nat} {ops : List Op}
theorem act_ids (h:Disk f k ver (S0++[(a,bs)]) M):(ids (S0++[(a,bs)])).getLastD 0=a:=act_snoc S0 (a,bs)
theorem Disk.grow (h:Disk f k ver (S0++[(a,bs)]) M) (hc:Can f k (S0++[(a,bs)]) M ops) (hb:4096<(fileOf bs).length) :
  (Sg.create f (a+1)).2=0∧(Mf.save (Sg.create f (a+1)).1 (wrap64 (ver+1)) (ids (S0++[(a,bs)])++[a+1])).2=0∧wrap64 (ver+1)=ver+1 ∧
   Fs.Sound (Sg.create f (a+1)).1 (k+2)∧Fs.Calm (Sg.create f (a+1)).1∧(Mf.save (Sg.create f (a+1)).1 (wrap64 (ver+1)) (ids (S0++[(a,bs)])++[a+1])).1.room=f.room ∧
   Disk (Mf.save (Sg.create f (a+1)).1 (wrap64 (ver+1)) (ids (S0++[(a,bs)])++[a+1])).1 (k+14) (ver+1) (S0++[(a,bs)]++[(a+1,[])]) M:=by
 have o:=hc.few;have A:(put (S0++[(a,bs)]) ops).length=(S0++[(a,bs)]).length+1:=by rw[put_snoc,if_pos hb];simp
 rw[A]at o;have:=Disk.room h (by omega) (QQ hc.small (by decide)) (hc.room (by omega));rw[act_snoc]at this;exact this
theorem GoodB.one {ops:List Op} (ho:GoodB ops):(fileOf [ops]).length=mass ops+9:=by
 have:=BH [] ops;rw[List.nil_append]at this;rw[this,QS,ho.blen];show 0+_=_;omega
theorem Disk.add1 {g:Fs.St} {k':Nat} (h:Disk g k' (ver+1) (S0++[(a,bs)]++[(a+1,[])]) M) (hc:Can f k (S0++[(a,bs)]) M ops) (hg:g.room=f.room) (hb:4096<(fileOf bs).length) (ho:GoodB ops) (hl:live (chgs (ents (S0++[(a,bs)])) ops)≤50000) :
  (Sg.append g (a+1) 1 (flat ops)).2=0∧(Sg.append g (a+1) 1 (flat ops)).1.room=f.room∧Disk (Sg.append g (a+1) 1 (flat ops)).1 k' (ver+1) (put (S0++[(a,bs)]) ops) M:=by
 have o:=hc.space;have D:=hc.len (a+1,[ops]) (by rw[put_snoc,if_pos hb];simp);simp only[ho.one]at D;rw[put_snoc,if_pos hb]at o ⊢;rw[QS,List.length_singleton]at o;have E:ents (S0++[(a,bs)]++[(a+1,[])])=ents (S0++[(a,bs)]):=by unfold ents;rw[BX];simp
 obtain⟨B,C,A,_⟩:=Disk.append h ho (by rw[E];exact hl) (by show 0+_≤_;omega) hc.max (by rw[hg];exact o);rw[List.nil_append]at A;exact⟨B,C.trans hg,A⟩
theorem Disk.add0 (h:Disk f k ver (S0++[(a,bs)]) M) (hc:Can f k (S0++[(a,bs)]) M ops) (hb:¬4096<(fileOf bs).length) (ho:GoodB ops) (hl:live (chgs (ents (S0++[(a,bs)])) ops)≤50000) :
  (Sg.append f a 1 (flat ops)).2=0∧(Sg.append f a 1 (flat ops)).1.room=f.room∧Disk (Sg.append f a 1 (flat ops)).1 k ver (put (S0++[(a,bs)]) ops) M:=by
 have o:=hc.space;have A:=hc.len (a,bs++[ops]) (by rw[put_snoc,if_neg hb];simp);simp only[BH,QS,ho.blen]at A;rw[put_snoc,if_neg hb]at o ⊢;rw[QS,List.length_singleton]at o;obtain⟨C,D,B,_⟩:=Disk.append h ho hl A hc.max (by exact o);exact⟨C,D,B⟩
end
end Sto
open Go.Maps Go.WideMaps
theorem Eg {w:World} {a:Option Addr} {n c:Nat} {zs:List Int} (h:Ints w (.slice a n c) zs) (hn:zs.length≤1000000000) (x:Int) :
  Calls Tryz.prog 74 #[.slice a n c,.int .i64 x] w λe w'=>e=.returned (.bool (zs.contains x))∧w'=w:=by
 obtain⟨G,H,A,C⟩:=h;simp only[Value.slice.injEq]at A;obtain⟨rfl,rfl,rfl⟩:=A;cases zs with
 | nil=>exact (Tryz.slices_Contains_int_empty a c x w).mono (by rintro e w' ⟨rfl,rfl⟩;exact⟨rfl,rfl⟩)
 | cons y r =>
  obtain⟨b,o,E,_,_⟩:=C 0 y rfl;subst E;refine (Tryz.slices_Contains_int b o (y::r).length c (y::r) x w (QM _) (by omega) ?_).mono ?_
  ·intro j hj;obtain⟨I,B,D,_,F⟩:=C j (y::r)[j] (ZG hj);simp only[Option.some.injEq,Addr.mk.injEq,and_true]at D;obtain⟨rfl,rfl⟩:=D;rw[F,List.getD_eq_getElem?_getD,ZG hj];rfl
  ·rintro e w' ⟨rfl,rfl⟩;refine⟨congrArg (λb=>Ending.returned (.bool b)) ?_,rfl⟩;rw[List.take_of_length_le (QM _)]
theorem Ints.others {w w':World} {own own':Nat→Tag} {a:Option Addr} {n c:Nat} {l:List Int} (h:Ints w (.slice a n c) l) (hot:∀p,a=some p→own p.block=.other) (ho:Bf own own' w w'):Ints w' (.slice a n c) l:=by
 obtain⟨E,F,A,D⟩:=h;refine⟨E,F,A,λi x hi=>?_⟩;simp only[Value.slice.injEq]at A;obtain⟨b,o,e,B,G⟩:=D i x hi;obtain⟨H,C⟩:=ho.2 b B (hot ⟨b,o,none⟩ (by rw[A.1,e]));exact⟨b,o,e,Nat.lt_of_lt_of_le B ho.1,by rw[World.cell?_of_block C];exact G⟩
theorem AQ.keep_ {own:Nat→Tag} {w w2 wr:World} (hb:Below w.heap.size w w2) (hk:Kept own (·≠.other) w2 wr):Kept own (·≠.other) w wr:=(AB hb).trans hk
theorem AQ.end_ {base B:Nat} {st:Fs.St} {V:FsV} {own own':Nat→Tag} {w w2 wr:World} (hb:Below w.heap.size w w2) (h:Aa base B st V own' wr) (ho:∀b,b<w2.heap.size→own' b=own b) (hk:Kept own (·≠.other) w2 wr):AQ base B st own w wr :=
 ⟨V,own',h,λb hb2=>ho b (Nat.lt_of_lt_of_le hb2 hb.size),AQ.keep_ hb hk⟩
theorem IF (base B:Nat) (st:Fs.St) (V:FsV) (own:Nat→Tag) (ver:Int) (sv:Value) (l:List Int) (w:World) (h:Aa base B st V own w) (hE:Aq base w) (hbase:base≤w.heap.size) (k:Nat) (hS:Fs.Sound st k) (hk:k≤200000) (hP:Fs.PlanOK st)
  (hN:Dq w sv l) (hl:l.length≤1000000000) (hot:∀p n c,sv=.slice (some p) n c→own p.block=.other) :
  Calls Tryz.prog 46 #[.pointer (some ⟨B,0,none⟩),.agg #[.int .i64 ver,sv]] w λe w'=>e=.returned (.tuple #[.int .i64 ((Fs.clean st ver l).2.1:Nat),.int .i64 (Fs.clean st ver l).2.2])∧AQ base B (Fs.clean st ver l).1 own w w':=by
 obtain⟨sa,sc,rfl⟩:=hN.form;have av:Below w.heap.size w (w.alloc (.cells #[.int .i64 ver,.slice sa l.length sc] 47)):=(Below.refl _ _).alloc (QM _) _;have T:=AK w (.cells #[.int .i64 ver,.slice sa l.length sc] 47);have y0:=AA T 0 _ rfl;have y1:=AA T 1 _ rfl;have H:=QA h;have HE:=QA hE;have HN:=QA hN;have ad:=QA av;have ax:=QA T;have aI:Hid (∀p,sa=some p→own p.block=.other):=QA λp S=>hot p _ _ (by rw[S])
 have bp:=hS.ndir;clear h hE hN av T hot;go_enter Tryz.func46,Tryz.ntmps46;go_wp2_with fail;refine (E3 ver _ l _ (HN.out.below ad.out) hl).mono ?_;rintro e w1 ⟨rfl,hb1⟩;have P:=QA (ad.out.trans (hb1.mono ad.out.size));have H1:=QA (H.out.kept (AB P.out));have al:Hid (w1.heap[w.heap.size]?=_):=QA ((hb1.block _ (AC ax.out)).trans ax.out);clear hb1 y0 y1;cases hg:Mf.good ver l
 ·have HE:Hid (Fs.clean st ver l=(st,0,1)):=by unfold Fs.clean;rw[if_pos hg];exact QA rfl
  have HC:Hid (Mf.chk ver l=1):=by unfold Mf.chk;rw[hg];exact QA rfl
  rw[HC.out];clear hg;go_wp2_with fail;refine bodyPost_ret (v:=.tuple #[.int .i64 0,.int .i64 1]) (by simp[results,Tryz.results46,go_sem]) rfl ?_;rw[HE.out];exact⟨rfl,AQ.of H.out P.out⟩
 ·have aU:Hid (Fs.clean st ver l=Fs.cleanGo l (Fs.keys st.dir) st 0):=by unfold Fs.clean;rw[if_neg (by rw[hg];simp)];exact QA rfl
  have HC:Hid (Mf.chk ver l=0):=by unfold Mf.chk;rw[hg];exact QA rfl
  rw[HC.out];clear hg HC;go_wp2_with fail;refine (Bc base B st V own w1 H1.out (by omega)).mono ?_;rintro e w2 ⟨v,rfl,hStr,hvo,hb2⟩;obtain⟨la,lc,hv⟩:=hStr.form;subst hv;have F:=QA (P.out.trans (hb2.mono P.out.size));have a6:=QA hb2;have H2:=QA (H.out.kept (AB F.out));have ab:=(hb2.block _ (AC al.out)).trans al.out;have aR:=QA ab;have aS:w.heap.size<w2.heap.size:=AC ab;have X:=QA hStr;have aZ:Hid (∀p,la=some p→own p.block=.other):=QA λp S=>H.out.fresh _ (by
   have:=hvo p.block (by rw[S];rfl);exact QQ P.out.size this)
  have aT:(strsOf (Fs.keys st.dir)).length≤200000:=by rw[EY];omega
  have ae:Hid ((strsOf (Fs.keys st.dir)).length=(Fs.keys st.dir).length):=QA (by unfold strsOf;rw[List.length_map]);obtain⟨N,hN⟩:∃N,N=(strsOf (Fs.keys st.dir)).length:=⟨_,rfl⟩
  rw[← hN]at aT ae X ⊢;clear hStr hvo hb2 ab hN;go_wp2_with fail
  go_loopg [7,21] N (λk' s7 s21 wr=>∃(j n:Nat) (A:Fs.St) (V':FsV) (D:Nat→Tag),j≤N∧n≤j∧k'=N-j∧s21=.int .i64 (j:Nat)∧s7=.int .i64 (n:Nat)∧Aa base B A V' D wr∧Fs.Sound A (k+2*j) ∧
   (∀b,b<w2.heap.size→D b=own b)∧Kept own (·≠.other) w2 wr∧Fs.cleanGo l ((Fs.keys st.dir).drop j) A n=Fs.clean st ver l)
  case atStart=>exact⟨0,0,st,V,own,ZS _,QM _,rfl,rfl,rfl,H2.out,hS,λ_ _=>rfl,Kept.refl _ _ _,aU.out.symm⟩
  case round =>
   obtain⟨j,n,A,V',D,hj,bj,aw,rfl,rfl,ap,O,U,R,aD⟩:=hrel;have HK:=QA aw;have ac:=QA ap;have ag:=QA O;have E:=QA U;have o:=QA R;have aA:=QA aD;have bm:=O.ndir;have bi:=O.nf;have bb:=O.nc;clear aw ap O U R aD;have bg:(0:Int)≤(j:Int):=Int.natCast_nonneg _;have bf:(0:Int)≤(n:Int):=Int.natCast_nonneg _;by_cases hjn:j<N
   ·have aC:(j:Int)<(N:Int):=by omega
    obtain⟨x,hx⟩:∃x,(Fs.keys st.dir)[j]?=some x:=⟨_,ZG (by rw[← ae.out];exact hjn)⟩
    have aq:(strsOf (Fs.keys st.dir))[j]?=some ⟨x.toArray⟩:=by unfold strsOf;rw[List.getElem?_map,hx];rfl
    obtain⟨b,L,rfl,aB,Q⟩:∃b L,la=some ⟨b,L,none⟩∧b<w2.heap.size∧w2.cell? ⟨b,L+j,none⟩=some (.string ⟨x.toArray⟩):=by
     obtain⟨a',c',Z,h2⟩:=X.out;obtain⟨b,L,e1,e2,e3⟩:=h2 j _ aq;simp only[Value.slice.injEq]at Z;exact⟨b,L,by rw[Z.1,e1],e2,e3⟩
    have G:Bf own D w2 wr:=⟨o.out.size,λb hb Z=>⟨(E.out b hb).trans Z,o.out.block b hb (by rw[Z];simp)⟩⟩
    have an:wr.cell? ⟨b,L+j,none⟩=some (.string ⟨x.toArray⟩):=by
     rw[World.cell?_of_block (G.2 b aB (aZ.out _ rfl)).2];exact Q
    have aE:wr.heap[w.heap.size]?=some (.cells #[.int .i64 ver,.slice sa l.length sc] 47 (0,0)):=((G.2 _ aS (H.out.fresh _ (QM _))).2).trans aR.out;have az:=QA ((HN.out.ints.below F.out).others aI.out G);have aj:=QA aE;have aV:x.length≤20:=by
     obtain⟨p,S,e⟩:=Fs.mhas_mem.1 (Fs.keys_mem.1 (List.mem_of_getElem? hx));rw[← e];exact Fs.good_len (hS.dir p S).2
    obtain⟨s,hs,am⟩:∃s:ByteArray,s=⟨x.toArray⟩∧s.data.toList=x:=⟨_,rfl,by simp⟩
    have au:s.size≤1000000:=by rw[hs];show x.toArray.size≤_;simp;omega
    rw[← hs]at an;have HD:Hid (Fs.clean st ver l=if Fs.keepN l x then Fs.cleanGo l ((Fs.keys st.dir).drop (j+1)) A n else if (Fs.remove A x).2≠0 then ((Fs.remove A x).1,n,(Fs.remove A x).2) else Fs.cleanGo l ((Fs.keys st.dir).drop (j+1)) (Fs.remove A x).1 (n+1)):=by
     rw[← aA.out];obtain⟨Z,h2⟩:=List.getElem?_eq_some_iff.1 hx;rw[List.drop_eq_getElem_cons Z,h2,Fs.cleanGo];exact QA rfl
    have bq:w2.heap.size≤wr.heap.size:=o.out.size;have aY:base≤wr.heap.size:=by omega
    have aM:=QA (HE.out.below (B:=base) (by
     refine⟨o.out.os.trans F.out.os,o.out.tape.trans F.out.tape,o.out.output.trans F.out.output,by omega,λb hb=>?_⟩;rw[o.out.block b (by omega) (by rw[H.out.old b hb];simp),F.out.block b (by omega)]))
    rw[← am]at HD;clear hx aq Q aE aB hs aV am;go_wp2_with fail;refine (K1 _ wr base aM.out aY au).mono ?_;rintro e w3 ⟨rfl,hb3⟩;have M:=QA hb3;have be:=hb3.size;have e1:w3.cell? ⟨w.heap.size,1,none⟩=some (.slice sa l.length sc):=AA ((hb3.block _ (AC aj.out)).trans aj.out) 1 _ rfl;have ar:=QA (az.out.below hb3);have H3:=QA (ac.out.kept (AB hb3));have bl:Hid (Bf own D w2 w3):=QA (G.next (λ_ _=>rfl) (AB hb3));clear hb3 an G;by_cases hf:s.data.toList=Mf.final
    ·have aK:s=⟨#[109,97,110,105,102,101,115,116]⟩:=by
      apply ByteArray.ext;apply Array.ext';exact hf
     subst aK;have K:Hid (Fs.clean st ver l=Fs.cleanGo l ((Fs.keys st.dir).drop (j+1)) A n):=by
      rw[HD.out,if_pos (by unfold Fs.keepN;rw[decide_eq_true hf];rfl)];exact QA rfl
     clear hf;go_wp2_with fail;go_roundg (N-(j+1))
     case measure=>rw[HK.out];omega
     case rel=>exact⟨j+1,n,A,V',D,by omega,by omega,rfl,by simp,rfl,H3.out,ag.out.mono (by omega),E.out,o.out.trans (AB M.out),K.out.symm⟩
    ·have aQ:(s.toList==[109,97,110,105,102,101,115,116])=false:=by
      rw[beq_eq_false_iff_ne];intro e;rw[ByteArray.toList_eq]at e;exact hf e
     go_wp2_with fail;refine (Eg ar.out hl _).mono ?_;rintro e w4 ⟨rfl,hw4⟩;subst hw4;obtain⟨q,hq⟩:∃q,q=l.contains (Sg.idOf s.data.toList):=⟨_,rfl⟩
     rw[← hq];cases q
     ·have K:Hid (Fs.clean st ver l=if (Fs.remove A s.data.toList).2≠0 then ((Fs.remove A s.data.toList).1,n,(Fs.remove A s.data.toList).2) else Fs.cleanGo l ((Fs.keys st.dir).drop (j+1)) (Fs.remove A s.data.toList).1 (n+1)):=by
       rw[HD.out,if_neg (by unfold Fs.keepN;rw[decide_eq_false hf,← hq];simp)];exact QA rfl
      clear hf aQ hq;go_wp2_with fail;refine (ED base B A V' D s w4 H3.out (by omega) au (by omega) (by omega) (by omega)).mono ?_;rintro e w5 ⟨rfl,S⟩;obtain⟨V5,Y,h5,ao,J⟩:=S;have W:Hid (∀b,b<w2.heap.size→Y b=own b):=QA λb hb=>(ao b (by omega)).trans (E.out b hb)
      have ay:Hid (Kept own (·≠.other) w2 w5):=by
       refine QA ⟨J.os.trans (M.out.os.trans o.out.os),J.tape.trans (M.out.tape.trans o.out.tape),J.output.trans (M.out.output.trans o.out.output),by have:=J.size;omega,λb hb ht=>?_⟩;rw[J.block b (by omega) (by rw[E.out b hb];exact ht),M.out.block b (by omega)];exact o.out.block b hb ht
      have H5:=QA h5;have aJ:=QA (ag.out.remove s.data.toList);obtain⟨C,hC⟩:∃C,C=(Fs.remove A s.data.toList).2:=⟨_,rfl⟩
      rw[← hC];have aa:=QA hC;clear hC h5 ao J;by_cases hC0:C=0
      ·subst hC0;have I:Hid (Fs.cleanGo l ((Fs.keys st.dir).drop (j+1)) (Fs.remove A s.data.toList).1 (n+1)=Fs.clean st ver l):=by
        rw[K.out,if_neg (by rw[← aa.out];simp)];exact QA rfl
       go_wp2_with fail;go_roundg (N-(j+1))
       case measure=>rw[HK.out];omega
       case rel=>exact⟨j+1,n+1,_,V5,Y,by omega,by omega,rfl,by simp,by simp,H5.out,aJ.out.mono (by omega),W.out,ay.out,I.out⟩
      ·have aN:(C != 0)=true:=by rw[bne_iff_ne];exact hC0
       have a5:(C==0)=false:=by rw[beq_eq_false_iff_ne];exact hC0
       have I:Hid (Fs.clean st ver l=((Fs.remove A s.data.toList).1,n,C)):=by
        rw[K.out,if_pos (by rw[← aa.out];exact hC0),← aa.out];exact QA rfl
       clear hC0;go_wp2_with fail;refine bodyPost_ret (v:=.tuple #[.int .i64 (n:Nat),.int .i64 C]) (by simp[results,Tryz.results46,go_sem]) rfl ?_;rw[I.out];exact⟨rfl,AQ.end_ F.out H5.out W.out ay.out⟩
     ·have K:Hid (Fs.clean st ver l=Fs.cleanGo l ((Fs.keys st.dir).drop (j+1)) A n):=by
       rw[HD.out,if_pos (by unfold Fs.keepN;rw[← hq];simp)];exact QA rfl
      clear hf hq;go_wp2_with fail;go_roundg (N-(j+1))
      case measure=>rw[HK.out];omega
      case rel=>exact⟨j+1,n,A,V',D,by omega,by omega,rfl,by simp,rfl,H3.out,ag.out.mono (by omega),E.out,o.out.trans (AB M.out),K.out.symm⟩
   ·have aC:(N:Int)≤(j:Int):=by omega
    have HD:Hid (Fs.clean st ver l=if n=0 then (A,0,0) else ((Fs.syncDir A).1,n,(Fs.syncDir A).2)):=by
     rw[← aA.out,List.drop_of_length_le (by rw[← ae.out];omega),Fs.cleanGo];exact QA rfl
    by_cases hn:n=0
    ·subst hn;have I:Hid (Fs.clean st ver l=(A,0,0)):=by rw[HD.out,if_pos rfl];exact QA rfl
     go_wp2_with fail;refine bodyPost_ret (v:=.tuple #[.int .i64 0,.int .i64 0]) (by simp[results,Tryz.results46,go_sem]) rfl ?_;rw[I.out];exact⟨rfl,AQ.end_ F.out ac.out E.out o.out⟩
    ·have aN:((n:Int)==0)=false:=by rw[beq_eq_false_iff_ne];omega
     have bn:0<(n:Int):=by omega
     have I:Hid (Fs.clean st ver l=((Fs.syncDir A).1,n,(Fs.syncDir A).2)):=by rw[HD.out,if_neg hn];exact QA rfl
     clear hn;go_wp2_with fail;refine (CX base B A V' D wr ac.out).mono ?_;rintro e w5 ⟨rfl,S⟩;have aO:=QA (AQ.step (AQ.keep_ F.out o.out) (λb hb=>(E.out b (by omega))) S);clear S;go_wp2_with fail;refine bodyPost_ret (v:=.tuple #[.int .i64 (n:Nat),.int .i64 (Fs.syncDir A).2]) (by simp[results,Tryz.results46,go_sem]) rfl ?_;rw[I.out];exact⟨rfl,aO.out⟩
end Go.Proofs.YtjldahcckmmenaaGreatDoor
