/-
  The store's disk in calm weather (plain): what its files hold, what is opened, a fresh segment, a batch more. A batch is written (plain): which segment it goes to, what the disk must have room for. Manifests: Clean, walked.
-/
import Derived.Test.YtjldahcckmmenaaGreatDoorZa10
import Derived.Test.YtjldahcckmmenaaGreatDoorZa9
open Bool renaming and_eq_true → ZA
open Go.Lib renaming hid → QA
open List renaming mem_singleton → QB, mem_cons_self → QP, length_append → QS, mem_cons_of_mem → QT, getElem?_eq_getElem → ZG, mem_append → ZI, append_nil → ZM, nil_append → ZN
open Nat renaming le_refl → QM, le_trans → QQ, zero_le → ZS
namespace Go.Proofs.YtjldahcckmmenaaGreatDoor
set_option maxRecDepth 100000
set_option maxHeartbeats 4000000
set_option linter.unusedSimpArgs false
set_option linter.unusedVariables false
open Go Go.RowKit
namespace Sto
abbrev Seg:=Int×List (List Op)
def GH (bs:List (List Op)):List Fr.F:=bs.map λops=>((1:Int),flat ops)
def fileOf (bs:List (List Op)):List UInt8:=Fr.flat (GH bs)
def ids (S:List Seg):List Int:=S.map (·.1)
def batches (S:List Seg):List (List Op):=S.flatMap (·.2)
def ents (S:List Seg):Ents:=chgs [] (batches S).flatten
structure GoodB (ops:List Op):Prop where
 chk:chk ops=0
 some':0<ops.length
 key:∀o∈ops,o.1.length=32
theorem GoodB.mass_le {ops:List Op} (h:GoodB ops):mass ops≤8192:=by
 have:=h.chk;unfold Sto.chk at this;split at this
 ·cases this
 split at this
 ·cases this
 split at this
 ·cases this
 ·omega
theorem GoodB.enc {ops:List Op} (h:GoodB ops):Fr.encE 1 (flat ops)=0:=by
 unfold Fr.encE;rw[if_neg (by omega),if_neg (by rw[flat_len ops h.key];have:=h.mass_le;omega)]
theorem GoodB.blen {ops:List Op} (h:GoodB ops):(Fr.bytes 1 (flat ops)).length=mass ops+9:=by rw[Fr.bytes_len,flat_len ops h.key]
def Lv (bs:List (List Op)):Prop:=∀j,live (chgs [] (bs.take j).flatten)≤50000
theorem Lv.snoc {bs:List (List Op)} (h:Lv bs) {ops:List Op} (ho:live (chgs (chgs [] bs.flatten) ops)≤50000):Lv (bs++[ops]):=λj=>by
 by_cases hj:j≤bs.length
 ·rw[List.take_append_of_le_length hj];exact h j
 ·rw[List.take_of_length_le (by simp;omega),List.flatten_append,chgs_app]
  simpa using ho
theorem A1 (bs:List (List Op)) (ops:List Op):fileOf (bs++[ops])=fileOf bs++Fr.bytes 1 (flat ops):=by
 unfold fileOf GH;rw[List.map_append,Fr.flat_app];simp[Fr.flat]
def ens (S:List Seg):List Sg.En:=S.flatMap λs=>(GH s.2).map λf=>(s.1,f)
structure DiskX (f:Fs.St) (k:Nat) (ver:Int) (S:List Seg) (M:Nat):Prop where
 calm:Fs.Calm f
 inv:Fs.Inv f
 sound:Fs.Sound f k
 good:Mf.good ver (ids S)=true
 small:ver≤k∧∀s∈S,s.1≤k
 man:Fs.look f Mf.final=some (Mf.enc ver (ids S))
 seg:∀s∈S,Fs.look f (Sg.nameB s.1)=some (fileOf s.2)
 bat:∀b∈batches S,GoodB b
 lv:Lv (batches S)
 len:800≤M∧∀s∈S,(fileOf s.2).length≤M
structure Disk (f:Fs.St) (k:Nat) (ver:Int) (S:List Seg) (M:Nat):Prop where
 x:DiskX f k ver S M
 no:∀n,n≠Mf.final→(∀s∈S,n≠Sg.nameB s.1)→Fs.look f n=none
 dir:f.dir.length≤S.length+1
theorem CF (id:Int):Mf.final≠Sg.nameB id:=by
 unfold Sg.nameB Mf.final;split<;>simp
theorem FM (id:Int):Mf.draft≠Sg.nameB id:=by
 unfold Sg.nameB Mf.draft;split<;>simp
section
variable {f : Fs.St} {k : Nat} {ver : Int} {S : List Seg} {M : Nat}
theorem DiskX.name (h:DiskX f k ver S M) {s:Seg} (hs:s∈S):Sg.nameE s.1=0:=by
 have:=Mf.incr_pos (Int.le_refl 0) (Mf.good_out h.good).2.2 s.1 (List.mem_map.2 ⟨s,hs,rfl⟩);unfold Sg.nameE;rw[if_neg (by omega)]
theorem DiskX.has (h:DiskX f k ver S M):Fs.mhas f.dir Mf.final=true:=by rw[Fs.has_look,h.man];rfl
theorem DiskX.load (h:DiskX f k ver S M):Mf.load f=((ver,ids S),0):=Mf.load_look h.good h.man
theorem DiskX.at (h:DiskX f k ver S M) {s:Seg} (hs:s∈S):Fs.openE f (Sg.nameB s.1)=0∧Fs.fileAt f (Sg.nameB s.1)=fileOf s.2:=by
 obtain⟨A,o⟩:=Fs.look_some (h.seg s hs);exact⟨Fs.openE_of (Sg.good_name (h.name hs)) A,o⟩
theorem DiskX.read (h:DiskX f k ver S M):Sg.read f (ids S)=(ens S,true,0):=by
 have C:(S.map λs=>((s.1,GH s.2):Sg.Seg)).map (·.1)=ids S:=by rw[List.map_map];rfl
 have B:(S.map λs=>((s.1,GH s.2):Sg.Seg)).flatMap (λs=>s.2.map λf=>(s.1,f))=ens S:=by rw[List.flatMap_map];rfl
 unfold Sg.read;rw[← C,if_neg (by
  rw[Sg.bad_none _ (λs hs=>by
   obtain⟨t,o,rfl⟩:=List.mem_map.1 hs;exact h.name o)];simp),Sg.read_go (l:=S.map λs=>((s.1,GH s.2):Sg.Seg)),B]
 ·rfl
 ·intro s hs;obtain⟨t,o,rfl⟩:=List.mem_map.1 hs;exact (h.at o).1
 ·intro s hs;obtain⟨t,o,rfl⟩:=List.mem_map.1 hs;show Fr.scan (Fs.fileAt f (Sg.nameB t.1))=_;rw[(h.at o).2];have:=Fr.scan_flat [] Fr.stop_nil (GH t.2) (λx hx=>by
   obtain⟨b,A,rfl⟩:=List.mem_map.1 hx;exact (h.bat b (List.mem_flatMap.2 ⟨t,o,A⟩)).enc)
  rwa [ZM]at this
theorem FK (h:DiskX f k ver S M) {s:Seg} (hs:s∈S):Fs.keepN (ids S) (Sg.nameB s.1)=true:=by
 unfold Fs.keepN;rw[(Sg.id_name (h.name hs)).1,Bool.or_eq_true];exact .inr (List.contains_iff_mem.2 (List.mem_map.2 ⟨s,hs,rfl⟩))
theorem I5 (h:DiskX f k ver S M) {n:List UInt8} (hn:Fs.keepN (ids S) n=true):n=Mf.final∨∃s∈S,n=Sg.nameB s.1:=by
 unfold Fs.keepN at hn;rw[Bool.or_eq_true]at hn;rcases hn with hn|hn
 ·exact .inl (of_decide_eq_true hn)
 ·obtain⟨s,A,e⟩:=List.mem_map.1 (List.contains_iff_mem.1 hn);have o:=h.name A;have B:s.1≠0:=λe0=>by rw[e0]at o;exact absurd o (by decide)
  exact .inr ⟨s,A,((Fs.idOf_name e.symm B).1).symm⟩
theorem DL {l:List Int}:∀(r:List (List UInt8)) (st:Fs.St),(∀x∈r,Fs.keepN l x=true)→Fs.cleanGo l r st 0=(st,0,0)
 | [],st,_=>rfl
 | x::r,st,h=>by
  rw[Fs.cleanGo,if_pos (h x QP)];exact DL r st λy hy=>h y (QT _ hy)
theorem Disk.clean (h:Disk f k ver S M):Fs.clean f ver (ids S)=(f,0,0):=by
 unfold Fs.clean;rw[if_neg (by rw[h.x.good];simp)];refine DL _ _ λx o=>?_
 have o:=Fs.keys_mem.1 o;by_cases h1:x=Mf.final
 ·rw[h1];unfold Fs.keepN;simp
 by_cases h2:∃s∈S,x=Sg.nameB s.1
 ·obtain⟨s,A,rfl⟩:=h2;exact FK h.x A
 ·have:=h.no x h1 λs A e=>h2 ⟨s,A,e⟩
  rw[Fs.has_look,this]at o;cases o
theorem DiskX.clean (h:DiskX f k ver S M):(Fs.clean f ver (ids S)).2.2=0∧DiskX (Fs.clean f ver (ids S)).1 (k+2*k) ver S M ∧
  ∀n,n≠Mf.final→(∀s∈S,n≠Sg.nameB s.1)→Fs.look (Fs.clean f ver (ids S)).1 n=none:=by
 obtain⟨C,B,A,F,E,o⟩:=Fs.clean_calm h.calm h.inv h.good;obtain⟨D,_⟩:=Fs.clean_sound h.sound (λz hz=>by rw[h.calm.2]at hz;cases hz) ver (ids S);refine⟨C,⟨B,A,D,h.good,⟨by have:=h.small.1;omega,λs hs=>by have:=h.small.2 s hs;omega⟩,?_,λs hs=>?_,h.bat,h.lv,h.len⟩,λn hn hs=>?_⟩
 ·rw[o,if_pos (by unfold Fs.keepN;simp)];exact h.man
 ·rw[o,if_pos (FK h hs)];exact h.seg s hs
 ·rw[o,if_neg];intro e;rcases I5 h e with rfl|⟨s,h8,rfl⟩
  ·exact hn rfl
  ·exact hs s h8 rfl
theorem FW:∀{l:List Int} {last x:Int},Mf.incr last l=true→last<x→(∀n∈l,n<x)→x≤2147483647→Mf.incr last (l++[x])=true
 | [],last,x,_,h1,_,h3=>by simp[Mf.incr,h1,h3]
 | y::r,last,x,h,h1,h2,h3=>by
  rw[Mf.incr]at h;simp only[ZA,decide_eq_true_eq]at h;rw[List.cons_append,Mf.incr];simp only[ZA,decide_eq_true_eq];exact⟨h.1,h.2.1,FW h.2.2 (h2 y QP) (λn hn=>h2 n (QT _ hn)) h3⟩
theorem Ci:∀{l:List Int} {last:Int},Mf.incr last l=true→∀n∈l,n≤l.getLastD last
 | [],_,_,n,hn=>by cases hn
 | y::r,last,h,n,hn=>by
  rw[Mf.incr]at h;simp only[ZA,decide_eq_true_eq]at h;rw[List.getLastD_cons];rcases List.mem_cons.1 hn with rfl|hn
  ·cases r with
   | nil=>exact Int.le_refl _
   | cons z r =>
    have o:=h.2.2;have A:=Ci o z QP;rw[Mf.incr]at o;simp only[ZA,decide_eq_true_eq]at o;omega
  ·exact Ci h.2.2 n hn
def act (S:List Seg):Int:=(ids S).getLastD 0
theorem ids_app (S T:List Seg):ids (S++T)=ids S++ids T:=List.map_append ..
theorem act_snoc (S:List Seg) (s:Seg):act (S++[s])=s.1:=by
 unfold act;rw[ids_app];simp[ids]
theorem BV (S T:List Seg):batches (S++T)=batches S++batches T:=List.flatMap_append ..
theorem Disk.nodup (h:DiskX f k ver S M) {id:Int} (hid:act S<id):∀s∈S,s.1≠id:=λs hs e=>by
 have:=Ci (Mf.good_out h.good).2.2 s.1 (List.mem_map.2 ⟨s,hs,rfl⟩);have o:act S=(ids S).getLastD 0:=rfl;omega
theorem Disk.create (h:Disk f k ver S M) {id:Int} (hid:act S<id) (hn:Sg.nameE id=0) (hS:S.length<60) :
  (Sg.create f id).2=0∧Fs.Calm (Sg.create f id).1∧Fs.Inv (Sg.create f id).1∧Fs.Sound (Sg.create f id).1 (k+2)∧(Sg.create f id).1.room=f.room∧(Sg.create f id).1.dir.length≤S.length+2 ∧
   ∀m,Fs.look (Sg.create f id).1 m=if m=Sg.nameB id then some [] else Fs.look f m:=by
 have A:Fs.look f (Sg.nameB id)=none:=h.no _ (λe=>CF id e.symm) λs hs e=>Disk.nodup h.x hid s hs (Sg.name_inj (h.x.name hs) hn e.symm)
 have G:=h.dir;obtain⟨a1,a2,B,a4⟩:=Fs.calm_create h.x.calm h.x.inv (Sg.good_name hn) (Fs.look_none A) (by omega);obtain⟨C,o,E,H,D⟩:=Fs.calm_syncDir a2.calm a2.inv;have F:Sg.create f id=Fs.syncDir (Fs.create f (Sg.nameB id)).1:=by
  unfold Sg.create;rw[if_neg (by rw[hn];simp),if_neg (by rw[a1];simp)]
 rw[F];exact⟨C,o.calm,o.inv,(h.x.sound.create _).syncDir,o.room.trans a2.room,by rw[E,B];omega,λm=>by rw[D];exact a4 m⟩
theorem Disk.len (h:Disk f k ver S M):∀n b,Fs.look f n=some b→b.length≤M:=λn b hb=>by
 by_cases h1:n=Mf.final
 ·rw[h1,h.x.man]at hb;rw[← Option.some.inj hb];exact QQ (Mf.enc_len h.x.good) h.x.len.1
 by_cases h2:∃s∈S,n=Sg.nameB s.1
 ·obtain⟨s,o,rfl⟩:=h2;rw[h.x.seg s o]at hb;rw[← Option.some.inj hb];exact h.x.len.2 s o
 ·rw[h.no n h1 λs o e=>h2 ⟨s,o,e⟩]at hb;cases hb
theorem Kq (h:DiskX f k ver S M):∃s∈S,s.1=act S:=by
 have B:=(Mf.good_out h.good).2.1.1;have o:ids S≠[]:=λe=>by rw[e]at B;simp at B
 have:act S=(ids S).getLast o:=by unfold act;rw[List.getLastD_eq_getLast?,List.getLast?_eq_some_getLast o];rfl
 have A:=List.getLast_mem o;rw[← this]at A;obtain⟨s,C,e⟩:=List.mem_map.1 A;exact⟨s,C,e⟩
theorem Disk.room (h:Disk f k ver S M) (hS:S.length<32) (hk:k≤1000000) (hr:((S.length+3)*M+800:Nat)≤f.room) :
  (Sg.create f (act S+1)).2=0∧(Mf.save (Sg.create f (act S+1)).1 (wrap64 (ver+1)) (ids S++[act S+1])).2=0∧wrap64 (ver+1)=ver+1 ∧
   Fs.Sound (Sg.create f (act S+1)).1 (k+2)∧Fs.Calm (Sg.create f (act S+1)).1∧(Mf.save (Sg.create f (act S+1)).1 (wrap64 (ver+1)) (ids S++[act S+1])).1.room=f.room ∧
   Disk (Mf.save (Sg.create f (act S+1)).1 (wrap64 (ver+1)) (ids S++[act S+1])).1 (k+14) (ver+1) (S++[(act S+1,[])]) M:=by
 obtain⟨K,E,ea⟩:=Kq h.x;have T:=h.x.small.2 K E;have X:=h.x.small.1;have H:=Mf.good_out h.x.good;have V:1≤act S:=by
  have:=Mf.incr_pos (Int.le_refl 0) H.2.2 K.1 (List.mem_map.2 ⟨K,E,rfl⟩);omega
 have U:wrap64 (ver+1)=ver+1:=by unfold wrap64;omega
 have D:Sg.nameE (act S+1)=0:=by unfold Sg.nameE;rw[if_neg (by omega)]
 obtain⟨R,J,W,N,Q,c6,G⟩:=h.create (id:=act S+1) (by omega) D (by omega);have I:(ids S).length=S.length:=List.length_map _;have o:Mf.good (ver+1) (ids S++[act S+1])=true:=by
  unfold Mf.good;rw[FW H.2.2 (by omega) (λn hn=>by have:n≤act S:=Ci H.2.2 n hn;omega) (by omega)];simp only[Bool.and_true,ZA,decide_eq_true_eq,QS,List.length_singleton,I];omega
 have C:∀n b,Fs.look (Sg.create f (act S+1)).1 n=some b→b.length≤M:=λn b hb=>by
  rw[G]at hb;split at hb
  ·rw[← Option.some.inj hb];exact ZS _
  ·exact h.len n b hb
 have P:((Sg.create f (act S+1)).1.dir.length+1)*M≤(S.length+3)*M:=Nat.mul_le_mul_right M (by omega);obtain⟨Y,O,s3,Z,s5,L⟩:=Mf.save_calm J W o (by omega) C (by rw[Q];omega) (λx hx=>(N.full x hx).2);obtain⟨s7,_⟩:=C3 N (λz hz=>by rw[J.2]at hz;cases hz) (ver+1) (ids S++[act S+1]);have B:Fs.look (Sg.create f (act S+1)).1 Mf.final=some (Mf.enc ver (ids S)):=by rw[G,if_neg (CF _)];exact h.x.man
 have A:ids (S++[(act S+1,[])])=ids S++[act S+1]:=ids_app _ _;have F:¬Mf.draft=Mf.final:=by decide
 rw[U];refine⟨R,Y,rfl,N,J,O.room.trans Q,⟨O.calm,O.inv,s7.mono (by omega),by rw[A];exact o,⟨by omega,λs hs=>?_⟩,by rw[L,if_pos rfl,A],λs hs=>?_,?_,?_,⟨h.x.len.1,λs hs=>?_⟩⟩,λn hn hs=>?_,?_⟩
 ·rcases ZI.1 hs with hs|hs
  ·have:=h.x.small.2 s hs;omega
  ·rw[QB.1 hs];show act S+1≤_;omega
 ·rw[L,if_neg (λe=>CF _ e.symm),if_neg (λe=>FM _ e.symm),G];rcases ZI.1 hs with hs|hs
  ·rw[if_neg (λe=>Disk.nodup h.x (id:=act S+1) (by omega) s hs (Sg.name_inj (h.x.name hs) D e))];exact h.x.seg s hs
  ·rw[QB.1 hs,if_pos rfl];rfl
 ·rw[BV];show ∀b∈batches S++[],_;rw[ZM];exact h.x.bat
 ·rw[BV];show Lv (batches S++[]);rw[ZM];exact h.x.lv
 ·rcases ZI.1 hs with hs|hs
  ·exact h.x.len.2 s hs
  ·rw[QB.1 hs];exact ZS _
 ·rw[L,if_neg hn];by_cases hd:n=Mf.draft
  ·rw[if_pos hd]
  ·rw[if_neg hd,G,if_neg (hs (act S+1,[]) (List.mem_append_right _ (QB.2 rfl)))];exact h.no n hn λs h1=>hs s (List.mem_append_left _ h1)
 ·have:=Z (by rw[Fs.has_look,B];rfl);rw[QS];simp only[List.length_singleton];omega
end
section
variable {f : Fs.St} {k : Nat} {ver : Int} {S : List Seg} {M : Nat} {a : Int} {bs : List (List Op)} {ops : List Op}
theorem Disk.append (h:Disk f k ver (S++[(a,bs)]) M) (ho:GoodB ops) (hl:live (chgs (ents (S++[(a,bs)])) ops)≤50000) (hM:(fileOf bs).length+(mass ops+9)≤M) (hM2:M≤65536) (hr:((S.length+2)*M+(mass ops+9):Nat)≤f.room) :
  (Sg.append f a 1 (flat ops)).2=0∧(Sg.append f a 1 (flat ops)).1.room=f.room∧Disk (Sg.append f a 1 (flat ops)).1 k ver (S++[(a,bs++[ops])]) M∧ents (S++[(a,bs++[ops])])=chgs (ents (S++[(a,bs)])) ops:=by
 have H:(a,bs)∈S++[(a,bs)]:=List.mem_append_right _ (QB.2 rfl);have C:=h.x.name H;have P:=h.x.seg _ H;have F:=ho.blen;have J:=h.dir;rw[QS,List.length_singleton]at J;have hu:=Fs.used_look h.x.inv h.len;have Q:f.dir.length*M≤(S.length+2)*M:=Nat.mul_le_mul_right M (by omega);obtain⟨a1,a2,Y,a4,T⟩:=Fs.calm_append (b:=Fr.bytes 1 (flat ops)) h.x.calm h.x.inv (Sg.good_name C) P (by simp only;omega) (by rw[F];omega);have G:=T (Sg.nameB a);rw[if_pos rfl]at G;obtain⟨b1,U,b3,b4,X⟩:=Fs.calm_sync a2.calm a2.inv (Sg.good_name C) G;have K:Sg.append f a 1 (flat ops)=Fs.sync (Fs.append f (Sg.nameB a) (Fr.bytes 1 (flat ops))).1 (Sg.nameB a):=by
  unfold Sg.append;rw[if_neg (by rw[C];simp),if_neg (by rw[ho.enc];simp),if_neg (by rw[a1];simp)]
 have E:ids (S++[(a,bs++[ops])])=ids (S++[(a,bs)]):=by rw[ids_app,ids_app];rfl
 have B:batches (S++[(a,bs++[ops])])=batches (S++[(a,bs)])++[ops]:=by rw[BV,BV];simp[batches]
 have A:∀m,Fs.look (Sg.append f a 1 (flat ops)).1 m=if m=Sg.nameB a then some (fileOf bs++Fr.bytes 1 (flat ops)) else Fs.look f m:=λm=>by rw[K,X,T]
 have L:ents (S++[(a,bs++[ops])])=chgs (ents (S++[(a,bs)])) ops:=by
  unfold ents;rw[B,List.flatten_append,chgs_app];simp
 have O:∀s∈S,Sg.nameB s.1≠Sg.nameB a:=λs hs e=>by
  have I:=Sg.name_inj (h.x.name (List.mem_append_left _ hs)) C e;have R:=(Mf.good_out h.x.good).2.2;have W:Mf.incr 0 (ids S++[a])=true:=by rw[ids_app]at R;exact R
  have:∀(l:List Int) (last:Int),Mf.incr last (l++[a])=true→last<a∧∀n∈l,n<a:=by
   intro l
   induction l with
   | nil =>
    intro last h;simp[Mf.incr]at h;exact⟨h.1,λn hn=>by cases hn⟩
   | cons y r ih =>
    intro last h;rw[List.cons_append,Mf.incr]at h;simp only[ZA,decide_eq_true_eq]at h;obtain⟨V,Z⟩:=ih y h.2.2;exact⟨by omega,λn hn=>by
     rcases List.mem_cons.1 hn with rfl|hn
     ·exact V
     ·exact Z n hn⟩
  have:=(this (ids S) 0 W).2 s.1 (List.mem_map.2 ⟨s,hs,rfl⟩);omega
 have o:Fs.Next f (Sg.append f a 1 (flat ops)).1 0:=by rw[K];exact a2.trans U
 have D:Fs.Sound (Sg.append f a 1 (flat ops)).1 k:=by rw[K];exact (h.x.sound.append _ _).sync _
 refine⟨by rw[K];exact b1,o.room,⟨⟨o.calm,o.inv,D,by rw[E];exact h.x.good,⟨h.x.small.1,λs hs=>?_⟩,by rw[A,if_neg (CF _),E];exact h.x.man,λs hs=>?_,?_,?_,⟨h.x.len.1,λs hs=>?_⟩⟩,λn hn hs=>?_,?_⟩,L⟩
 ·rcases ZI.1 hs with hs|hs
  ·exact h.x.small.2 s (List.mem_append_left _ hs)
  ·rw[QB.1 hs];exact h.x.small.2 (a,bs) H
 ·rw[A];rcases ZI.1 hs with hs|hs
  ·rw[if_neg (O s hs)];exact h.x.seg s (List.mem_append_left _ hs)
  ·rw[QB.1 hs,if_pos rfl,A1]
 ·rw[B];intro b F;rcases ZI.1 F with F|F
  ·exact h.x.bat b F
  ·rw[QB.1 F];exact ho
 ·rw[B];exact h.x.lv.snoc hl
 ·rcases ZI.1 hs with hs|hs
  ·exact h.x.len.2 s (List.mem_append_left _ hs)
  ·rw[QB.1 hs];show (fileOf (bs++[ops])).length≤M;rw[A1,QS,F];exact hM
 ·rw[A,if_neg (hs (a,bs++[ops]) (List.mem_append_right _ (QB.2 rfl)))];refine h.no n hn λs I=>?_
  rcases ZI.1 I with I|I
  ·exact hs s (List.mem_append_left _ I)
  ·rw[QB.1 I];exact hs (a,bs++[ops]) (List.mem_append_right _ (QB.2 rfl))
 ·have N:(Sg.append f a 1 (flat ops)).1.dir=f.dir:=by rw[K,b3,Y]
  rw[N,QS,List.length_singleton];omega
theorem Disk.begin {r:Int} (h1:3200≤r) (h2:r≤1048576) :
  (Sg.create (Fs.new r) 1).2=0∧(Mf.save (Sg.create (Fs.new r) 1).1 1 [1]).2=0∧Fs.Sound (Sg.create (Fs.new r) 1).1 3∧Fs.Calm (Sg.create (Fs.new r) 1).1∧(Mf.save (Sg.create (Fs.new r) 1).1 1 [1]).1.room=r ∧
   Disk (Mf.save (Sg.create (Fs.new r) 1).1 1 [1]).1 15 1 [(1,[])] 800:=by
 have N:Fs.Calm (Fs.new r):=⟨rfl,rfl⟩
 have I:=Fs.Inv.new r;have C:Sg.nameE 1=0:=by decide
 obtain⟨a1,a2,K,a4⟩:=Fs.calm_create N I (Sg.good_name C) (Fs.look_none (Fs.look_new r _)) (by show 0<64;omega);obtain⟨O,B,P,S,J⟩:=Fs.calm_syncDir a2.calm a2.inv;have L:Sg.create (Fs.new r) 1=Fs.syncDir (Fs.create (Fs.new r) (Sg.nameB 1)).1:=by
  unfold Sg.create;rw[if_neg (by rw[C];simp),if_neg (by rw[a1];simp)]
 have F:Fs.Sound (Fs.new r) 1:=Fs.Sound.new ⟨by omega,h2⟩ 1;have A:Fs.Sound (Fs.syncDir (Fs.create (Fs.new r) (Sg.nameB 1)).1).1 3:=(F.create _).syncDir;have o:∀m,Fs.look (Fs.syncDir (Fs.create (Fs.new r) (Sg.nameB 1)).1).1 m=if m=Sg.nameB 1 then some [] else none:=λm=>by rw[J,a4,Fs.look_new]
 have H:(Fs.syncDir (Fs.create (Fs.new r) (Sg.nameB 1)).1).1.dir.length=1:=by rw[P,K];rfl
 have G:Mf.good 1 [1]=true:=by decide
 rw[L];obtain⟨Q,E,U,V,T,D⟩:=Mf.save_calm B.calm B.inv G (by omega) (M:=800) (λn b hb=>by
  rw[o]at hb;split at hb
  ·rw[← Option.some.inj hb];exact ZS _
  ·cases hb) (by rw[H,B.room,a2.room];show ((_:Nat):Int)≤r;omega) (λx hx=>(A.full x hx).2)
 obtain⟨R,_⟩:=C3 A (λz hz=>by rw[B.calm.2]at hz;cases hz) 1 [1];refine⟨O,Q,A,B.calm,E.room.trans (B.room.trans a2.room),⟨⟨E.calm,E.inv,R,G,⟨by decide,λs A=>?_⟩,by rw[D,if_pos rfl];rfl,λs A=>?_,λb hb=>(by cases hb),λj=>?_,⟨QM _,λs A=>?_⟩⟩,λn hn A=>?_,?_⟩⟩
 ·rw[QB.1 A];decide
 ·rw[QB.1 A,D,if_neg (λe=>CF _ e.symm),if_neg (λe=>FM _ e.symm),o,if_pos rfl];rfl
 ·show live (chgs [] (List.take j []).flatten)≤50000;rw[List.take_nil];exact ZS _
 ·rw[QB.1 A];exact ZS _
 ·rw[D,if_neg hn,o,if_neg (A (1,[]) (QB.2 rfl))];split<;>rfl
 ·rw[List.length_singleton];omega
end
end Sto
namespace Sto
def put (S:List Seg) (ops:List Op):List Seg:=match S.getLast? with
 | none=>S
 | some s=>if 4096<(fileOf s.2).length then S++[(s.1+1,[ops])] else S.dropLast++[(s.1,s.2++[ops])]
theorem put_snoc (S:List Seg) (a:Int) (bs:List (List Op)) (ops:List Op) :
  put (S++[(a,bs)]) ops=if 4096<(fileOf bs).length then S++[(a,bs)]++[(a+1,[ops])] else S++[(a,bs++[ops])]:=by
 unfold put;rw[List.getLast?_append];simp
theorem snoc_of {S:List Seg} (h:S≠[]):∃S0 a bs,S=S0++[(a,bs)]:=⟨S.dropLast,(S.getLast h).1,(S.getLast h).2,(List.dropLast_concat_getLast h).symm⟩
theorem Bg (S:List Seg) (a:Int) (bs:List (List Op)):batches (S++[(a,bs)])=batches S++bs:=by rw[BV];simp[batches]
theorem G0 {S:List Seg} (h:S≠[]) (ops:List Op):batches (put S ops)=batches S++[ops]:=by
 obtain⟨A,a,o,rfl⟩:=snoc_of h;rw[put_snoc];split
 ·rw[Bg]
 ·rw[Bg,Bg,List.append_assoc]
theorem ents_put {S:List Seg} (h:S≠[]) (ops:List Op):ents (put S ops)=chgs (ents S) ops:=by
 unfold ents;rw[G0 h,List.flatten_append,chgs_app];simp
theorem IH {S:List Seg} (h:S≠[]) (ops:List Op):S.length≤(put S ops).length∧(put S ops).length≤S.length+1:=by
 obtain⟨A,a,o,rfl⟩:=snoc_of h;rw[put_snoc];split<;>simp
def D6 (S:List Seg):Prop:=∀s∈S.dropLast,4096<(fileOf s.2).length
theorem D6.put {S:List Seg} (h:D6 S) (hne:S≠[]) (ops:List Op):D6 (put S ops):=by
 obtain⟨A,a,o,rfl⟩:=snoc_of hne;unfold D6 at h ⊢;rw[List.dropLast_concat]at h;rw[put_snoc];split
 ·rename_i hb;rw[List.dropLast_concat];intro s hs;rcases ZI.1 hs with hs|hs
  ·exact h s hs
  ·rw[QB.1 hs];exact hb
 ·rw[List.dropLast_concat];exact h
def bytesOf (S:List Seg):Nat:=(S.map λs=>(fileOf s.2).length).sum
theorem Bj (S:List Seg) (s:Seg):bytesOf (S++[s])=bytesOf S+(fileOf s.2).length:=by unfold bytesOf;simp
theorem GQ {S:List Seg} (hne:S≠[]) {ops:List Op} (ho:GoodB ops):bytesOf (put S ops)=bytesOf S+(mass ops+9):=by
 obtain⟨B,a,A,rfl⟩:=snoc_of hne;rw[put_snoc];have o:(fileOf [ops]).length=mass ops+9:=by
  have:=A1 [] ops;rw[ZN]at this;rw[this,QS,ho.blen];show 0+_=_;omega
 split
 ·rw[Bj (B++[(a,A)])];simp only[o]
 ·rw[Bj,Bj];simp only[A1,QS,ho.blen];omega
theorem D6.bound:∀{S:List Seg},D6 S→4097*S.length≤bytesOf S+4097
 | S,h=>by
  by_cases hne:S=[]
  ·subst hne;simp
  ·obtain⟨A,a,C,rfl⟩:=snoc_of hne;unfold D6 at h;rw[List.dropLast_concat]at h;have:∀l:List Seg,(∀s∈l,4096<(fileOf s.2).length)→4097*l.length≤bytesOf l:=by
    intro l
    induction l with
    | nil=>intro _;simp
    | cons s r ih =>
     intro h;have o:=ih λx hx=>h x (QT _ hx)
     have B:=h s QP;unfold bytesOf at o ⊢;simp only[List.map_cons,List.sum_cons,List.length_cons];omega
   have:=this A h;rw[Bj,QS,List.length_singleton];omega
structure Can (f:Fs.St) (k:Nat) (S:List Seg) (M:Nat) (ops:List Op):Prop where
 few:(put S ops).length≤32
 len:∀s∈put S ops,(fileOf s.2).length≤M
 max:M≤65536
 room:S.length<(put S ops).length→((S.length+3)*M+800:Nat)≤f.room
 space:(((put S ops).length+1)*M+(mass ops+9):Nat)≤f.room
 small:k≤100000
theorem Disk.mono {f:Fs.St} {k k':Nat} {ver:Int} {S:List Seg} {M M':Nat} (h:Disk f k ver S M) (hk:k≤k') (hM:M≤M'):Disk f k' ver S M' :=
 ⟨⟨h.x.calm,h.x.inv,h.x.sound.mono hk,h.x.good,⟨by have:=h.x.small.1;omega,λs hs=>by have:=h.x.small.2 s hs;omega⟩,h.x.man,h.x.seg,h.x.bat,h.x.lv,⟨QQ h.x.len.1 hM,λs hs=>QQ (h.x.len.2 s hs) hM⟩⟩,h.no,h.dir⟩
theorem DiskX.ne {f:Fs.St} {k:Nat} {ver:Int} {S:List Seg} {M:Nat} (h:DiskX f k ver S M):S≠[]:=λe=>by
 have:=(Mf.good_out h.good).2.1.1;rw[e]at this;simp[ids]at this
section
variable {f : Fs.St} {k : Nat} {ver : Int} {S0 : List Seg} {a : Int} {bs : List (List Op)} {M : Nat} {ops : List Op}
theorem act_ids (h:Disk f k ver (S0++[(a,bs)]) M):(ids (S0++[(a,bs)])).getLastD 0=a:=act_snoc S0 (a,bs)
theorem Disk.grow (h:Disk f k ver (S0++[(a,bs)]) M) (hc:Can f k (S0++[(a,bs)]) M ops) (hb:4096<(fileOf bs).length) :
  (Sg.create f (a+1)).2=0∧(Mf.save (Sg.create f (a+1)).1 (wrap64 (ver+1)) (ids (S0++[(a,bs)])++[a+1])).2=0∧wrap64 (ver+1)=ver+1 ∧
   Fs.Sound (Sg.create f (a+1)).1 (k+2)∧Fs.Calm (Sg.create f (a+1)).1∧(Mf.save (Sg.create f (a+1)).1 (wrap64 (ver+1)) (ids (S0++[(a,bs)])++[a+1])).1.room=f.room ∧
   Disk (Mf.save (Sg.create f (a+1)).1 (wrap64 (ver+1)) (ids (S0++[(a,bs)])++[a+1])).1 (k+14) (ver+1) (S0++[(a,bs)]++[(a+1,[])]) M:=by
 have o:=hc.few;have A:(put (S0++[(a,bs)]) ops).length=(S0++[(a,bs)]).length+1:=by rw[put_snoc,if_pos hb];simp
 rw[A]at o;have:=Disk.room h (by omega) (QQ hc.small (by decide)) (hc.room (by omega));rw[act_snoc]at this;exact this
theorem GoodB.one {ops:List Op} (ho:GoodB ops):(fileOf [ops]).length=mass ops+9:=by
 have:=A1 [] ops;rw[ZN]at this;rw[this,QS,ho.blen];show 0+_=_;omega
theorem Disk.add1 {g:Fs.St} {k':Nat} (h:Disk g k' (ver+1) (S0++[(a,bs)]++[(a+1,[])]) M) (hc:Can f k (S0++[(a,bs)]) M ops) (hg:g.room=f.room) (hb:4096<(fileOf bs).length) (ho:GoodB ops) (hl:live (chgs (ents (S0++[(a,bs)])) ops)≤50000) :
  (Sg.append g (a+1) 1 (flat ops)).2=0∧(Sg.append g (a+1) 1 (flat ops)).1.room=f.room∧Disk (Sg.append g (a+1) 1 (flat ops)).1 k' (ver+1) (put (S0++[(a,bs)]) ops) M:=by
 have o:=hc.space;have C:=hc.len (a+1,[ops]) (by rw[put_snoc,if_pos hb];simp);simp only[ho.one]at C;rw[put_snoc,if_pos hb]at o ⊢;rw[QS,List.length_singleton]at o;have E:ents (S0++[(a,bs)]++[(a+1,[])])=ents (S0++[(a,bs)]):=by unfold ents;rw[Bg];simp
 obtain⟨D,B,A,_⟩:=Disk.append h ho (by rw[E];exact hl) (by show 0+_≤_;omega) hc.max (by rw[hg];exact o);rw[ZN]at A;exact⟨D,B.trans hg,A⟩
theorem Disk.add0 (h:Disk f k ver (S0++[(a,bs)]) M) (hc:Can f k (S0++[(a,bs)]) M ops) (hb:¬4096<(fileOf bs).length) (ho:GoodB ops) (hl:live (chgs (ents (S0++[(a,bs)])) ops)≤50000) :
  (Sg.append f a 1 (flat ops)).2=0∧(Sg.append f a 1 (flat ops)).1.room=f.room∧Disk (Sg.append f a 1 (flat ops)).1 k ver (put (S0++[(a,bs)]) ops) M:=by
 have o:=hc.space;have A:=hc.len (a,bs++[ops]) (by rw[put_snoc,if_neg hb];simp);simp only[A1,QS,ho.blen]at A;rw[put_snoc,if_neg hb]at o ⊢;rw[QS,List.length_singleton]at o;obtain⟨D,C,B,_⟩:=Disk.append h ho hl A hc.max (by exact o);exact⟨D,C,B⟩
end
end Sto
open Go.Maps Go.WideMaps
theorem E5 {w:World} {a:Option Addr} {n c:Nat} {zs:List Int} (h:Ints w (.slice a n c) zs) (hn:zs.length≤1000000000) (x:Int) :
  Calls Tryz.prog 74 #[.slice a n c,.int .i64 x] w λe w'=>e=.returned (.bool (zs.contains x))∧w'=w:=by
 obtain⟨G,I,B,A⟩:=h;simp only[Value.slice.injEq]at B;obtain⟨rfl,rfl,rfl⟩:=B;cases zs with
 | nil=>exact (Tryz.slices_Contains_int_empty a c x w).mono (by rintro e w' ⟨rfl,rfl⟩;exact⟨rfl,rfl⟩)
 | cons y r =>
  obtain⟨b,o,E,_,_⟩:=A 0 y rfl;subst E;refine (Tryz.slices_Contains_int b o (y::r).length c (y::r) x w (QM _) (by omega) ?_).mono ?_
  ·intro j hj;obtain⟨H,D,C,_,F⟩:=A j (y::r)[j] (ZG hj);simp only[Option.some.injEq,Addr.mk.injEq,and_true]at C;obtain⟨rfl,rfl⟩:=C;rw[F,List.getD_eq_getElem?_getD,ZG hj];rfl
  ·rintro e w' ⟨rfl,rfl⟩;refine⟨congrArg (λb=>Ending.returned (.bool b)) ?_,rfl⟩;rw[List.take_of_length_le (QM _)]
theorem Ints.others {w w':World} {own own':Nat→Tag} {a:Option Addr} {n c:Nat} {l:List Int} (h:Ints w (.slice a n c) l) (hot:∀p,a=some p→own p.block=.other) (ho:Bq own own' w w'):Ints w' (.slice a n c) l:=by
 obtain⟨D,E,A,C⟩:=h;refine⟨D,E,A,λi x hi=>?_⟩;simp only[Value.slice.injEq]at A;obtain⟨b,o,e,B,F⟩:=C i x hi;obtain⟨H,G⟩:=ho.2 b B (hot ⟨b,o,none⟩ (by rw[A.1,e]));exact⟨b,o,e,Nat.lt_of_lt_of_le B ho.1,by rw[World.cell?_of_block G];exact F⟩
theorem AV.keep_ {own:Nat→Tag} {w w2 wr:World} (hb:Below w.heap.size w w2) (hk:Kept own (·≠.other) w2 wr):Kept own (·≠.other) w wr:=(AC hb).trans hk
theorem AV.end_ {base B:Nat} {st:Fs.St} {V:FsV} {own own':Nat→Tag} {w w2 wr:World} (hb:Below w.heap.size w w2) (h:Ae base B st V own' wr) (ho:∀b,b<w2.heap.size→own' b=own b) (hk:Kept own (·≠.other) w2 wr):AV base B st own w wr :=
 ⟨V,own',h,λb hb2=>ho b (Nat.lt_of_lt_of_le hb2 hb.size),AV.keep_ hb hk⟩
theorem I2 (base B:Nat) (st:Fs.St) (V:FsV) (own:Nat→Tag) (ver:Int) (sv:Value) (l:List Int) (w:World) (h:Ae base B st V own w) (hE:A0 base w) (hbase:base≤w.heap.size) (k:Nat) (hS:Fs.Sound st k) (hk:k≤200000) (hP:Fs.PlanOK st)
  (hN:C7 w sv l) (hl:l.length≤1000000000) (hot:∀p n c,sv=.slice (some p) n c→own p.block=.other) :
  Calls Tryz.prog 46 #[.pointer (some ⟨B,0,none⟩),.agg #[.int .i64 ver,sv]] w λe w'=>e=.returned (.tuple #[.int .i64 ((Fs.clean st ver l).2.1:Nat),.int .i64 (Fs.clean st ver l).2.2])∧AV base B (Fs.clean st ver l).1 own w w':=by
 obtain⟨sa,sc,rfl⟩:=hN.form;have ai:Below w.heap.size w (w.alloc (.cells #[.int .i64 ver,.slice sa l.length sc] 47)):=(Below.refl _ _).alloc (QM _) _;have T:=AJ w (.cells #[.int .i64 ver,.slice sa l.length sc] 47);have y0:=AA T 0 _ rfl;have y1:=AA T 1 _ rfl;have H:=QA h;have HE:=QA hE;have HN:=QA hN;have ag:=QA ai;have ak:=QA T;have aK:Hid (∀p,sa=some p→own p.block=.other):=QA λp S=>hot p _ _ (by rw[S])
 have ba:=hS.ndir;clear h hE hN ai T hot;go_enter Tryz.func46,Tryz.ntmps46;go_wp2_with fail;refine (FU ver _ l _ (HN.out.below ag.out) hl).mono ?_;rintro e w1 ⟨rfl,hb1⟩;have O:=QA (ag.out.trans (hb1.mono ag.out.size));have H1:=QA (H.out.kept (AC O.out));have av:Hid (w1.heap[w.heap.size]?=_):=QA ((hb1.block _ (AD ak.out)).trans ak.out);clear hb1 y0 y1;cases hg:Mf.good ver l
 ·have HE:Hid (Fs.clean st ver l=(st,0,1)):=by unfold Fs.clean;rw[if_pos hg];exact QA rfl
  have HC:Hid (Mf.chk ver l=1):=by unfold Mf.chk;rw[hg];exact QA rfl
  rw[HC.out];clear hg;go_wp2_with fail;refine bodyPost_ret (v:=.tuple #[.int .i64 0,.int .i64 1]) (by simp[results,Tryz.results46,go_sem]) rfl ?_;rw[HE.out];exact⟨rfl,AV.of H.out O.out⟩
 ·have aT:Hid (Fs.clean st ver l=Fs.cleanGo l (Fs.keys st.dir) st 0):=by unfold Fs.clean;rw[if_neg (by rw[hg];simp)];exact QA rfl
  have HC:Hid (Mf.chk ver l=0):=by unfold Mf.chk;rw[hg];exact QA rfl
  rw[HC.out];clear hg HC;go_wp2_with fail;refine (Ca base B st V own w1 H1.out (by omega)).mono ?_;rintro e w2 ⟨v,rfl,hStr,hvo,hb2⟩;obtain⟨la,lc,hv⟩:=hStr.form;subst hv;have F:=QA (O.out.trans (hb2.mono O.out.size));have a3:=QA hb2;have H2:=QA (H.out.kept (AC F.out));have ab:=(hb2.block _ (AD av.out)).trans av.out;have a1:=QA ab;have aZ:w.heap.size<w2.heap.size:=AD ab;have Y:=QA hStr;have aI:Hid (∀p,la=some p→own p.block=.other):=QA λp S=>H.out.fresh _ (by
   have:=hvo p.block (by rw[S];rfl);exact QQ O.out.size this)
  have aX:(strsOf (Fs.keys st.dir)).length≤200000:=by rw[EX];omega
  have Z:Hid ((strsOf (Fs.keys st.dir)).length=(Fs.keys st.dir).length):=QA (by unfold strsOf;rw[List.length_map]);obtain⟨N,hN⟩:∃N,N=(strsOf (Fs.keys st.dir)).length:=⟨_,rfl⟩
  rw[← hN]at aX Z Y ⊢;clear hStr hvo hb2 ab hN;go_wp2_with fail
  go_loopg [7,21] N (λk' s7 s21 wr=>∃(j n:Nat) (A:Fs.St) (V':FsV) (D:Nat→Tag),j≤N∧n≤j∧k'=N-j∧s21=.int .i64 (j:Nat)∧s7=.int .i64 (n:Nat)∧Ae base B A V' D wr∧Fs.Sound A (k+2*j) ∧
   (∀b,b<w2.heap.size→D b=own b)∧Kept own (·≠.other) w2 wr∧Fs.cleanGo l ((Fs.keys st.dir).drop j) A n=Fs.clean st ver l)
  case atStart=>exact⟨0,0,st,V,own,ZS _,QM _,rfl,rfl,rfl,H2.out,hS,λ_ _=>rfl,Kept.refl _ _ _,aT.out.symm⟩
  case round =>
   obtain⟨j,n,A,V',D,hj,a9,aD,rfl,rfl,aq,P,W,R,ay⟩:=hrel;have HK:=QA aD;have ad:=QA aq;have aa:=QA P;have E:=QA W;have o:=QA R;have aA:=QA ay;have bk:=P.ndir;have bj:=P.nf;have br:=P.nc;clear aD aq P W R ay;have bf:(0:Int)≤(j:Int):=Int.natCast_nonneg _;have bb:(0:Int)≤(n:Int):=Int.natCast_nonneg _;by_cases hjn:j<N
   ·have aE:(j:Int)<(N:Int):=by omega
    obtain⟨x,hx⟩:∃x,(Fs.keys st.dir)[j]?=some x:=⟨_,ZG (by rw[← Z.out];exact hjn)⟩
    have al:(strsOf (Fs.keys st.dir))[j]?=some ⟨x.toArray⟩:=by unfold strsOf;rw[List.getElem?_map,hx];rfl
    obtain⟨b,K,rfl,ar,Q⟩:∃b K,la=some ⟨b,K,none⟩∧b<w2.heap.size∧w2.cell? ⟨b,K+j,none⟩=some (.string ⟨x.toArray⟩):=by
     obtain⟨a',c',h1,h2⟩:=Y.out;obtain⟨b,K,e1,e2,e3⟩:=h2 j _ al;simp only[Value.slice.injEq]at h1;exact⟨b,K,by rw[h1.1,e1],e2,e3⟩
    have G:Bq own D w2 wr:=⟨o.out.size,λb hb h1=>⟨(E.out b hb).trans h1,o.out.block b hb (by rw[h1];simp)⟩⟩
    have aC:wr.cell? ⟨b,K+j,none⟩=some (.string ⟨x.toArray⟩):=by
     rw[World.cell?_of_block (G.2 b ar (aI.out _ rfl)).2];exact Q
    have au:wr.heap[w.heap.size]?=some (.cells #[.int .i64 ver,.slice sa l.length sc] 47 (0,0)):=((G.2 _ aZ (H.out.fresh _ (QM _))).2).trans a1.out;have an:=QA ((HN.out.ints.below F.out).others aK.out G);have ap:=QA au;have aY:x.length≤20:=by
     obtain⟨p,S,e⟩:=Fs.mhas_mem.1 (Fs.keys_mem.1 (List.mem_of_getElem? hx));rw[← e];exact Fs.good_len (hS.dir p S).2
    obtain⟨s,hs,am⟩:∃s:ByteArray,s=⟨x.toArray⟩∧s.data.toList=x:=⟨_,rfl,by simp⟩
    have aw:s.size≤1000000:=by rw[hs];show x.toArray.size≤_;simp;omega
    rw[← hs]at aC;have HD:Hid (Fs.clean st ver l=if Fs.keepN l x then Fs.cleanGo l ((Fs.keys st.dir).drop (j+1)) A n else if (Fs.remove A x).2≠0 then ((Fs.remove A x).1,n,(Fs.remove A x).2) else Fs.cleanGo l ((Fs.keys st.dir).drop (j+1)) (Fs.remove A x).1 (n+1)):=by
     rw[← aA.out];obtain⟨h1,h2⟩:=List.getElem?_eq_some_iff.1 hx;rw[List.drop_eq_getElem_cons h1,h2,Fs.cleanGo];exact QA rfl
    have bm:w2.heap.size≤wr.heap.size:=o.out.size;have aJ:base≤wr.heap.size:=by omega
    have aN:=QA (HE.out.below (B:=base) (by
     refine⟨o.out.os.trans F.out.os,o.out.tape.trans F.out.tape,o.out.output.trans F.out.output,by omega,λb hb=>?_⟩;rw[o.out.block b (by omega) (by rw[H.out.old b hb];simp),F.out.block b (by omega)]))
    rw[← am]at HD;clear hx al Q au ar hs aY am;go_wp2_with fail;refine (LE _ wr base aN.out aJ aw).mono ?_;rintro e w3 ⟨rfl,hb3⟩;have M:=QA hb3;have bi:=hb3.size;have e1:w3.cell? ⟨w.heap.size,1,none⟩=some (.slice sa l.length sc):=AA ((hb3.block _ (AD ap.out)).trans ap.out) 1 _ rfl;have az:=QA (an.out.below hb3);have H3:=QA (ad.out.kept (AC hb3));have bg:Hid (Bq own D w2 w3):=QA (G.next (λ_ _=>rfl) (AC hb3));clear hb3 aC G;by_cases hf:s.data.toList=Mf.final
    ·have aW:s=⟨#[109,97,110,105,102,101,115,116]⟩:=by
      apply ByteArray.ext;apply Array.ext';exact hf
     subst aW;have J:Hid (Fs.clean st ver l=Fs.cleanGo l ((Fs.keys st.dir).drop (j+1)) A n):=by
      rw[HD.out,if_pos (by unfold Fs.keepN;rw[decide_eq_true hf];rfl)];exact QA rfl
     clear hf;go_wp2_with fail;go_roundg (N-(j+1))
     case measure=>rw[HK.out];omega
     case rel=>exact⟨j+1,n,A,V',D,by omega,by omega,rfl,by simp,rfl,H3.out,aa.out.mono (by omega),E.out,o.out.trans (AC M.out),J.out.symm⟩
    ·have aS:(s.toList==[109,97,110,105,102,101,115,116])=false:=by
      rw[beq_eq_false_iff_ne];intro e;rw[ByteArray.toList_eq]at e;exact hf e
     go_wp2_with fail;refine (E5 az.out hl _).mono ?_;rintro e w4 ⟨rfl,hw4⟩;subst hw4;obtain⟨q,hq⟩:∃q,q=l.contains (Sg.idOf s.data.toList):=⟨_,rfl⟩
     rw[← hq];cases q
     ·have J:Hid (Fs.clean st ver l=if (Fs.remove A s.data.toList).2≠0 then ((Fs.remove A s.data.toList).1,n,(Fs.remove A s.data.toList).2) else Fs.cleanGo l ((Fs.keys st.dir).drop (j+1)) (Fs.remove A s.data.toList).1 (n+1)):=by
       rw[HD.out,if_neg (by unfold Fs.keepN;rw[decide_eq_false hf,← hq];simp)];exact QA rfl
      clear hf aS hq;go_wp2_with fail;refine (EV base B A V' D s w4 H3.out (by omega) aw (by omega) (by omega) (by omega)).mono ?_;rintro e w5 ⟨rfl,S⟩;obtain⟨V5,X,h5,ax,L⟩:=S;have U:Hid (∀b,b<w2.heap.size→X b=own b):=QA λb hb=>(ax b (by omega)).trans (E.out b hb)
      have aB:Hid (Kept own (·≠.other) w2 w5):=by
       refine QA ⟨L.os.trans (M.out.os.trans o.out.os),L.tape.trans (M.out.tape.trans o.out.tape),L.output.trans (M.out.output.trans o.out.output),by have:=L.size;omega,λb hb ht=>?_⟩;rw[L.block b (by omega) (by rw[E.out b hb];exact ht),M.out.block b (by omega)];exact o.out.block b hb ht
      have H5:=QA h5;have aQ:=QA (aa.out.remove s.data.toList);obtain⟨C,hC⟩:∃C,C=(Fs.remove A s.data.toList).2:=⟨_,rfl⟩
      rw[← hC];have ae:=QA hC;clear hC h5 ax L;by_cases hC0:C=0
      ·subst hC0;have I:Hid (Fs.cleanGo l ((Fs.keys st.dir).drop (j+1)) (Fs.remove A s.data.toList).1 (n+1)=Fs.clean st ver l):=by
        rw[J.out,if_neg (by rw[← ae.out];simp)];exact QA rfl
       go_wp2_with fail;go_roundg (N-(j+1))
       case measure=>rw[HK.out];omega
       case rel=>exact⟨j+1,n+1,_,V5,X,by omega,by omega,rfl,by simp,by simp,H5.out,aQ.out.mono (by omega),U.out,aB.out,I.out⟩
      ·have aM:(C != 0)=true:=by rw[bne_iff_ne];exact hC0
       have a4:(C==0)=false:=by rw[beq_eq_false_iff_ne];exact hC0
       have I:Hid (Fs.clean st ver l=((Fs.remove A s.data.toList).1,n,C)):=by
        rw[J.out,if_pos (by rw[← ae.out];exact hC0),← ae.out];exact QA rfl
       clear hC0;go_wp2_with fail;refine bodyPost_ret (v:=.tuple #[.int .i64 (n:Nat),.int .i64 C]) (by simp[results,Tryz.results46,go_sem]) rfl ?_;rw[I.out];exact⟨rfl,AV.end_ F.out H5.out U.out aB.out⟩
     ·have J:Hid (Fs.clean st ver l=Fs.cleanGo l ((Fs.keys st.dir).drop (j+1)) A n):=by
       rw[HD.out,if_pos (by unfold Fs.keepN;rw[← hq];simp)];exact QA rfl
      clear hf hq;go_wp2_with fail;go_roundg (N-(j+1))
      case measure=>rw[HK.out];omega
      case rel=>exact⟨j+1,n,A,V',D,by omega,by omega,rfl,by simp,rfl,H3.out,aa.out.mono (by omega),E.out,o.out.trans (AC M.out),J.out.symm⟩
   ·have aE:(N:Int)≤(j:Int):=by omega
    have HD:Hid (Fs.clean st ver l=if n=0 then (A,0,0) else ((Fs.syncDir A).1,n,(Fs.syncDir A).2)):=by
     rw[← aA.out,List.drop_of_length_le (by rw[← Z.out];omega),Fs.cleanGo];exact QA rfl
    by_cases hn:n=0
    ·subst hn;have I:Hid (Fs.clean st ver l=(A,0,0)):=by rw[HD.out,if_pos rfl];exact QA rfl
     go_wp2_with fail;refine bodyPost_ret (v:=.tuple #[.int .i64 0,.int .i64 0]) (by simp[results,Tryz.results46,go_sem]) rfl ?_;rw[I.out];exact⟨rfl,AV.end_ F.out ad.out E.out o.out⟩
    ·have aM:((n:Int)==0)=false:=by rw[beq_eq_false_iff_ne];omega
     have be:0<(n:Int):=by omega
     have I:Hid (Fs.clean st ver l=((Fs.syncDir A).1,n,(Fs.syncDir A).2)):=by rw[HD.out,if_neg hn];exact QA rfl
     clear hn;go_wp2_with fail;refine (Cd base B A V' D wr ad.out).mono ?_;rintro e w5 ⟨rfl,S⟩;have aR:=QA (AV.step (AV.keep_ F.out o.out) (λb hb=>(E.out b (by omega))) S);clear S;go_wp2_with fail;refine bodyPost_ret (v:=.tuple #[.int .i64 (n:Nat),.int .i64 (Fs.syncDir A).2]) (by simp[results,Tryz.results46,go_sem]) rfl ?_;rw[I.out];exact⟨rfl,aR.out⟩
end Go.Proofs.YtjldahcckmmenaaGreatDoor
