/-
  A law's store, in calm weather: what stands between its calls. StoreAgain, walked. The store's Compact in any weather, walked; a law's store behind it.
-/
import Derived.Test.YtjldahcckmmenaaGreatDoorZc20
import Derived.Test.YtjldahcckmmenaaGreatDoorZc14
open Go.Lib renaming hid → QA
open Nat renaming le_refl → QM, le_trans → QQ
namespace Go.Proofs.YtjldahcckmmenaaGreatDoor
set_option maxRecDepth 100000
set_option maxHeartbeats 4000000
set_option linter.unusedSimpArgs false
set_option linter.unusedVariables false
open Go Go.RowKit
open Go.Maps Go.WideMaps
namespace Sto
theorem Gw:∀(ops:List Op) {E:Ents} {e:Op},e∈chgs E ops→e∈E∨e∈ops
 | [],E,e,h=>.inl h
 | o::r,E,e,h=>by
  have A:e∈chgs (chg E o) r:=h;rcases Gw r A with h2|h2
  ·unfold chg at h2;split at h2
   ·exact .inl (CQ.1 h2).1
   ·rcases DG.1 h2 with rfl|h2
    ·exact .inr List.mem_cons_self
    ·exact .inl (CQ.1 h2).1
  ·exact .inr (List.mem_cons_of_mem _ h2)
theorem J2 {ops:List Op} (h:chk ops=0) {o:Op} (ho:o∈ops):0≤o.2.1∧o.2.1≤9∧o.2.2.length≤8192:=by
 obtain⟨B,D⟩:=chk_len h;have C:35+o.2.2.length≤mass ops:=by
  unfold mass;exact le_sum (List.mem_map.2 ⟨o,ho,rfl⟩)
 unfold chk at h;split at h
 ·cases h
 split at h
 ·cases h
 rename_i hb;have A:badK o=false:=by
  cases h2:badK o
  ·rfl
  ·exact absurd (List.any_eq_true.2 ⟨o,ho,h2⟩) hb
 unfold badK at A;simp only[Bool.or_eq_false_iff,decide_eq_false_iff_not]at A;omega
theorem DiskX.entOk {f:Fs.St} {k:Nat} {ver:Int} {S:List Seg} {M:Nat} (h:DiskX f k ver S M) {e:Op} (he:e∈ents S):e.1.length=32∧(0≤e.2.1∧e.2.1≤9)∧e.2.2.length≤8192:=by
 rcases Gw _ he with h1|h1
 ·cases h1
 ·obtain⟨b,D,o⟩:=List.mem_flatten.1 h1;have A:=h.bat b D;obtain⟨C,E,B⟩:=J2 A.chk o;exact⟨A.key e o,⟨C,E⟩,B⟩
theorem wrote_len {S:List Seg} (h:S≠[]) (ops:List Op):(wrote S ops).length≤S.length+1:=by
 unfold wrote;split
 ·exact (H6 h ops).2
 ·omega
end Sto
theorem Cy {f:Fs.St} {k:Nat} {ver:Int} {S:List Sto.Seg} {M:Nat} (h:Sto.DiskX f k ver S M):HZ (Sto.ents S):=by
 have D:=h.live;have C:=Sto.live_len (Sto.ents S);refine⟨by omega,λo ho=>?_⟩;obtain⟨A,E,B⟩:=h.entOk ho;exact⟨A,by omega,by omega⟩
structure Fsn (base r:Nat) (x:World) (f:Fs.St) (V:FsV) (own:Nat→Tag) (ver:Int) (sv:Value) (mb:Nat) (l:Sto.ME) (S:List Sto.Seg) (R:Int) (n:Nat):Prop where
 fs:Aa base (base+2) f V own x
 at_:A6 x own (base+2) r ⟨ver,Sto.ids S,Sto.ents S,false⟩ mb sv l
 disk:Sto.Disk f (15+14*n) ver S 12297
 room:f.room=R
 len:S.length≤n+1
 le:base≤x.heap.size
section
variable {base r : Nat} {x : World} {f : Fs.St} {V : FsV} {own : Nat → Tag} {ver : Int} {sv : Value} {mb : Nat} {l : Sto.ME} {S : List Sto.Seg} {R : Int} {n : Nat}
theorem Fsn.below {y:World} (h:Fsn base r x f V own ver sv mb l S R n) (hb:Below x.heap.size x y):Fsn base r y f V own ver sv mb l S R n :=
 ⟨h.fs.kept (AB hb),h.at_.below hb,h.disk,h.room,h.len,QQ h.le hb.size⟩
theorem Fsn.more {m:Nat} (h:Fsn base r x f V own ver sv mb l S R n) (hm:n≤m):Fsn base r x f V own ver sv mb l S R m :=
 ⟨h.fs,h.at_,h.disk.mono (by omega) (QM _),h.room,by have:=h.len;omega,h.le⟩
theorem Fsn.low {m:Nat} (h:Fsn base r x f V own ver sv mb l S R n) (hr:base≤r) (hm:m≤base):∀b,b<m→SF r own b:=λb hb=>⟨h.fs.old b (by omega),by omega⟩
theorem Fsn.fresh (h:Fsn base r x f V own ver sv mb l S R n):∀b,x.heap.size≤b→SF r own b:=λb hb=>⟨h.fs.fresh b hb,by have:=AC h.at_.root;omega⟩
theorem Fsn.entsM (h:Fsn base r x f V own ver sv mb l S R n):A4 x (SF r own) mb l:=⟨h.at_.ents.map,h.at_.ents.key,h.at_.ents.val⟩
theorem Fsn.efit (h:Fsn base r x f V own ver sv mb l S R n):HZ (l.map (·.1)):=by rw[h.at_.is];exact Cy h.disk.x
theorem Fsn.srt (h:Fsn base r x f V own ver sv mb l S R n):Sto.Srt (l.map (·.1)):=by rw[h.at_.is];exact h.at_.srt
theorem Fsn.entries (h:Fsn base r x f V own ver sv mb l S R n):Calls Tryz.prog 16 #[.pointer (some ⟨r,0,none⟩)] x λe w'=>∃v,e=.returned v∧C4 w' x.heap.size v (Sto.ents S)∧Below x.heap.size x w':=by
 have:=An r (base+2) mb ver sv false l x (SF r own) h.at_.root h.entsM h.srt h.efit
 rwa [h.at_.is]at this
theorem Fsn.live (h:Fsn base r x f V own ver sv mb l S R n):Calls Tryz.prog 17 #[.map (some mb)] x λe w'=>e=.returned (.int .i64 (Sto.live (Sto.ents S):Nat))∧Below x.heap.size x w':=by
 have A:l.map (·.1)=Sto.ents S:=h.at_.is;have D:Sto.Srt (Sto.ents S):=h.at_.srt;have C:=Sto.DiskX.live h.disk.x;have o:(l.map λp=>p.1.1).Nodup:=by
  have B:((Sto.ents S).map (·.1)).Nodup:=by
   rw[List.Nodup,List.pairwise_map];exact List.Pairwise.imp (R:=λa b:Sto.Op=>a.1<b.1) (λ{a b} h e=>by rw[e]at h;exact List.lt_irrefl _ h) D
  rw[← A,List.map_map]at B;exact B
 have:=B8 mb l x (SF r own) h.entsM o (by rw[A];omega)
 rwa [A]at this
theorem room_le {s m:Nat} {R:Int} (h:s≤m) (hR:(((m+3)*12297+800:Nat):Int)≤R):(((s+3)*12297+800:Nat):Int)≤R :=
 Int.le_trans (Int.ofNat_le.2 (Nat.add_le_add_right (Nat.mul_le_mul_right 12297 (by omega)) 800)) hR
def LR (base r:Nat) (x:World) (S:List Sto.Seg) (R:Int) (n:Nat) (own:Nat→Tag) (e:Ending) (w':World):Prop :=
 ∃f' V' own' ver' mb' sv' l',Fsn base r w' f' V' own' ver' sv' mb' l' S R n∧SFr r own own' x w'∧Below base x w'
theorem Fsn.write (h:Fsn base r x f V own ver sv mb l S R n) (hr:base≤r) (hE:Ay base x) (v:Value) (ops:Sto.ME) {F:Nat→Prop} (ho:BQ x F v ops) (hF:∀b,b<x.heap.size→F b→SF r own b)
  (hol:ops.length≤1000000000) (hbl:∀p∈ops,p.1.2.2.length≤1000000000) (hn:n≤1000) (h31:S.length≤31) (hR:(((S.length+3)*12297+800:Nat):Int)≤R) :
  Calls Tryz.prog 13 #[.pointer (some ⟨r,0,none⟩),v] x λe w'=>e=.returned (.int .i64 (Sto.wcode S (Sto.opsOf ops)))∧LR base r x (Sto.wrote S (Sto.opsOf ops)) R (n+1) own e w':=by
 have C:∀p∈ops,p.1.1.length=32:=λp A=>by
  obtain⟨i,G⟩:=List.getElem?_of_mem A;obtain⟨a,cap,H,_,E⟩:=ho;exact (E i p G).1
 have B:=h.len;refine (Ev base (base+2) r mb f V own ver sv S 12297 (15+14*n) l v ops x h.fs hE h.le hr h.at_ h.disk (ho.mv ⟨QM _,λb hb hf=>⟨hF b hb hf,rfl⟩⟩) hol hbl C (λhg=>?_)).mono ?_
 ·have D:Sto.GoodB (Sto.opsOf ops):=⟨hg.1,hg.2.2,λo ho=>by
   obtain⟨p,A,rfl⟩:=List.mem_map.1 ho;exact C p A⟩
  exact Sto.Can.of h.disk D h31 (by rw[h.room];exact hR) (by omega)
 ·rintro e w' ⟨rfl,f',V',own',ver',mb',sv',l',k1,k2,k3,k4,k5,k6⟩;refine⟨rfl,f',V',own',ver',mb',sv',l',⟨k1,k4,k5.mono (by omega) (QM _),k6.trans h.room,?_,QQ h.le k3.size⟩,k2,k3⟩;have:=Sto.wrote_len h.disk.x.ne (Sto.opsOf ops);omega
end
def LQ (R:Int) (w:World) (e:Ending) (w':World):Prop :=
 ∃r f V own sv mb,e=.returned (.tuple #[.pointer (some ⟨w.heap.size+2,0,none⟩),.pointer (some ⟨r,0,none⟩)])∧w.heap.size≤r∧Fsn w.heap.size r w' f V own 1 sv mb [] [(1,[])] R 0∧Below w.heap.size w w'
theorem Ij (base:Nat) (R:Int) (w:World) (hE:Ay base w) (hbase:base≤w.heap.size) (h1:3200≤R) (h2:R≤1048576):Calls Tryz.prog 10 #[.int .i64 R] w (LQ R w):=by
 refine (Eu base R w hE hbase h1 h2).mono ?_;rintro e w' ⟨r,V,own,sv,mb,rfl,k1,k2,k3,k4⟩;obtain⟨C,B,E,D,o,A⟩:=Sto.Disk.begin h1 h2;exact⟨r,_,V,own,sv,mb,rfl,k1,⟨k2,k4,A.mono (QM _) (by omega),o,QM _,k3.size⟩,k3⟩
open Go.Maps Go.WideMaps
theorem SFr.mvPast {q r:Nat} {own own':Nat→Tag} {w w':World} (hf:SFr q own own' w w') (hq:w.heap.size≤q):MV (SF r own) (SF r own') w w' :=
 ⟨hf.size,λb hb hf2=>⟨⟨(hf.tags b hb).trans hf2.1,hf2.2⟩,hf.block b hb hf2.1 (by omega)⟩⟩
open Go.Maps Go.WideMaps
def Ky (base B r mb:Nat) (c:Fs.St×Sto.St×Int) (own:Nat→Tag) (w:World) (e:Ending) (w':World):Prop :=
 e=.returned (.int .i64 c.2.2)∧∃V' own' sv',Aa base B c.1 V' own' w'∧SFr r own own' w w'∧Below base w w'∧w'.heap[r]?=some (.cells (AF c.2.1.ver sv' mb B (decide (c.2.2≠0))) 51 (0,0))∧own' r=.other∧Ca w' (SF r own') sv' c.2.1.segs
theorem DY (base B r mb:Nat) (f:Fs.St) (V:FsV) (own:Nat→Tag) (ver:Int) (sv:Value) (segs:List Int) (l:Sto.ME) (k:Nat) (w:World)
  (h:Aa base B f V own w) (hE:Ay base w) (hbase:base≤w.heap.size) (hrb:base≤r) (hroot:w.heap[r]?=some (.cells (AF ver sv mb B false) 51 (0,0))) (hr0:own r=.other)
  (hN:Ca w (SF r own) sv segs) (hne:segs≠[]) (hfew:segs.length≤1000000) (hent:CU w (SF r own) mb l) (hsrt:Sto.Srt (l.map (·.1))) (hll:l.length≤1000000) (hgood:∀p∈l,(0≤p.1.2.1∧p.1.2.1≤9)∧p.1.2.2.length≤8192)
  (hS:Fs.Sound f k) (hk:k≤100000) (hP:Fs.PlanOK f) (hact:-1000000000≤segs.getLastD 0∧segs.getLastD 0≤1000000000) (c:Fs.St×Sto.St×Int) (hc:Sto.compact f ⟨ver,segs,l.map (·.1),false⟩=c) :
  Calls Tryz.prog 25 #[.pointer (some ⟨r,0,none⟩)] w (Ky base B r mb c own w):=by
 have J:=AC hroot;have T:=QA (F5 base B r mb f V own ver sv segs false l k w h hE hbase hrb hroot hr0 hN hne hfew hent hsrt hll hgood hS hk hP hact);have F:=QA hc;have I:=QA hr0;have O:=rc0 hroot;have U:=rc1 hroot;have P:=rc2 hroot;have N:=rc3 hroot;have R:=rc4 hroot;clear h hE hroot hr0 hN hent hsrt hgood hS hP hc hact;go_enter Tryz.func25,Tryz.ntmps25;go_wp2_with fail;refine T.out.mono ?_;rw[F.out];rintro e w1 ⟨rfl,V1,own1,sv1,hf1,hs1,hb1,hr1,hi1⟩;obtain⟨g,S,M⟩:=c;simp only at hf1 hr1 hi1 ⊢;have D:=(hs1.tags r J).trans I.out;have G:=QA hf1;have A:=QA hs1;have L:=QA hb1;have H:=QA hr1;have K:=QA hi1;have C:=QA D;clear hf1 hs1 hb1 hr1 hi1 D O U P N R;go_wp2_with fail;refine (DD w1 r B mb S.ver sv1 false M H.out).mono ?_;rintro e w2 ⟨rfl,hr2,hall⟩;rw[Bool.false_or]at hr2;have E:=QA hr2;have o:=QA hall;clear hr2 hall;go_wp2_with fail;refine bodyPost_ret (v:=.int .i64 M) (by simp[results,Tryz.results25,go_sem]) rfl ?_;have Q:base≤w1.heap.size:=QQ hbase A.out.size;exact⟨rfl,V1,own1,sv1,G.out.kept (SFr.kept_of (o.out own1) C.out o.out),A.out.trans (o.out own1),L.out.trans (SFr.below_of o.out hrb Q),E.out,C.out,K.out.mv (o.out own1).mv⟩
end Go.Proofs.YtjldahcckmmenaaGreatDoor
