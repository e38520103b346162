/-
  The file system: a file more, with its bytes and its name (for a crash). Segments: the document's names and ids. The document's frames: Sum, Four, Number, walked. The document's frames: Encode, Decode, walked. The document's frames: Decode, walked. Manifests: what is good, its bytes, and that both ways of reading them are one (plain). Saving and loading a manifest (plain); in calm weather.
-/
import Derived.Test.YtmlekglfdiacpaaGreatDoorZp11
import Derived.Test.YtmlekglfdiacpaaGreatDoorZp5
import Derived.Test.YtmlekglfdiacpaaGreatDoorZp10
import Derived.Test.YtmlekglfdiacpaaGreatDoorZp6
import Derived.Test.YtmlekglfdiacpaaGreatDoorZp8
import Derived.Lib.Join
open Bool renaming and_eq_true → ZA
open Go.Lib renaming hid → QA
open List renaming length_cons → QO, length_append → QS, getElem?_eq_getElem → ZG, getElem?_append_left → ZL, map_cons → ZP
open Nat renaming le_refl → QM, zero_le → ZS
namespace Go.Proofs.YtmlekglfdiacpaaGreatDoor
set_option maxRecDepth 100000
set_option maxHeartbeats 4000000
set_option linter.unusedSimpArgs false
set_option linter.unusedVariables false
open Go Go.RowKit
open Go.Maps Go.WideMaps
theorem Ad.plant {base B:Nat} {st:Fs.St} {V:FsV} {own:Nat→Tag} {w w1 w5:World} {fv' d:Value} {l n:List UInt8} (h:Ad base B st V own w)
  (hk1:Kept own (·=.dir) w w1) (hm:Ah w1 V.md (Fs.mput st.dir n st.files.length)) (hd:w.ownsRow base 5 1 d l.length (AR l)) (hdo:∀k,d.ownBlock=some k→own k=.other)
  (hrow:w5.ownsRow base 106 1 fv' (st.files.length+1) ((V.fb.map λb=>(.pointer (some ⟨b,0,none⟩):Value))++[.pointer (some ⟨w1.heap.size,0,none⟩)]))
  (hg:((w1.alloc (.cells #[d,.int .i64 l.length] 111)).alloc (.cells #[.pointer (some ⟨w1.heap.size,0,none⟩)] 106)).grownBy w5 V.fv.ownBlock)
  (hloc:fv'.ownBlock=V.fv.ownBlock∨fv'.ownBlock=some ((w1.alloc (.cells #[d,.int .i64 l.length] 111)).alloc (.cells #[.pointer (some ⟨w1.heap.size,0,none⟩)] 106)).heap.size) (hbase:base≤w.heap.size) :
  ∃own',Ad base B { st with files:=st.files++[(l,l.length)],dir:=Fs.mput st.dir n st.files.length } { V with fv:=fv',fb:=V.fb++[w1.heap.size],dv:=V.dv++[d] } own' (w5.setCell ⟨B,4,none⟩ fv') ∧
   (∀k,k<w.heap.size→d.ownBlock≠some k→own' k=own k)∧Kept own (λt=>t=.root∨t=.files∨t=.dir) w (w5.setCell ⟨B,4,none⟩ fv'):=by
 have o:=h.at_;have hB:=AE o.root;have ag:=hk1.size;have s1:(w1.alloc (.cells #[d,.int .i64 l.length] 111)).heap.size=w1.heap.size+1:=by simp
 have s2:((w1.alloc (.cells #[d,.int .i64 l.length] 111)).alloc (.cells #[.pointer (some ⟨w1.heap.size,0,none⟩)] 106)).heap.size=w1.heap.size+2:=by simp
 have Y:=AH w1 (.cells #[d,.int .i64 l.length] 111);have X:((w1.alloc (.cells #[d,.int .i64 l.length] 111)).alloc (.cells #[.pointer (some ⟨w1.heap.size,0,none⟩)] 106)).heap[w1.heap.size]?=some (.cells #[d,.int .i64 l.length] 111 (0,0)):=by
  rw[Lib.alloc_old _ _ _ (by omega)];exact Y
 have b4:Below w1.heap.size w1 ((w1.alloc (.cells #[d,.int .i64 l.length] 111)).alloc (.cells #[.pointer (some ⟨w1.heap.size,0,none⟩)] 106)) :=
  ((Below.refl _ _).alloc (QM _) _).alloc (by omega) _
 generalize hw4:((w1.alloc (.cells #[d,.int .i64 l.length] 111)).alloc (.cells #[.pointer (some ⟨w1.heap.size,0,none⟩)] 106))=w4 at *
 have E:Kept own (·=.dir) w w4:=hk1.below b4;have G:∀k,V.fv.ownBlock=some k→k<w.heap.size:=λk C=>(AJ o.files k C).2
 have H:∀k,d.ownBlock=some k→k<w.heap.size:=λk C=>(AJ hd k C).2
 have N:w4.ownsRow base 106 1 V.fv st.files.length (V.fb.map λb=>.pointer (some ⟨b,0,none⟩)):=AQ o.files (λg hg2=>E.block g (G g hg2) (by rw[o.tfiles g hg2];simp));obtain⟨A,P,R,J⟩:∃A:Nat→Tag,(∀k,k<w.heap.size→own k≠.other→A k=own k)∧(∀k,d.ownBlock=some k→A k=.data st.files.length)∧(∀k,d.ownBlock≠some k→A k=own k):=by
  cases hdb:d.ownBlock with
  | none=>exact⟨own,λ_ _ _=>rfl,λk e=>(by cases e),λ_ _=>rfl⟩
  | some g =>
   refine⟨Br own g (.data st.files.length),λk _ hne=>if_neg (λe=>hne (by rw[e];exact hdo g hdb)),λk e=>?_,λk e=>if_neg (λx=>e (by rw[x]))⟩;cases e;exact if_pos rfl
 have T:∀k,w.heap.size≤k→A k=.other:=λk C=>by
  rw[J k (λe=>by have:=H k e;omega)];exact h.fresh k C
 have O:∀k,k<base→A k=.other:=λk C=>by
  rw[J k (λe=>by have:=(AJ hd k e).1;omega)];exact h.old k C
 have S:∀k,w4.heap.size≤k→Br A w1.heap.size (.file st.files.length) k=.other:=λk C=>by
  unfold Br;rw[if_neg (by omega)];exact T k (by omega)
 obtain⟨own',U,o2,o3,o4,C⟩:=retag (own:=Br A w1.heap.size (.file st.files.length)) N hrow hg hloc (λk C=>by
   have:=G k C;have D:=o.tfiles k C;rw[Aj (by omega),P k this (by rw[D];simp)];exact D) S
  (λk C=>by rw[Aj (by omega)];exact O k C) (by omega)
 have K:∀k,k<w.heap.size→own k≠.other→own' k=own k:=λk hk2 hne=>(U k (by omega)).trans ((Aj (by omega)).trans (P k hk2 hne))
 have Z:∀k,d.ownBlock=some k→own' k=.data st.files.length:=λk hk2=>by
  have:=H k hk2;exact (U k (by omega)).trans ((Aj (by omega)).trans (R k hk2))
 have L:Kept own (λt=>t=.files∨t=.dir) w w5:=by
  refine⟨C.os.trans E.os,C.tape.trans E.tape,C.output.trans E.output,Nat.le_trans E.size C.size,λk hk2 ht=>?_⟩;rw[C.block k (by omega) (by
   rw[Aj (by omega)];by_cases e:d.ownBlock=some k
   ·rw[R k e];simp
   ·rw[J k e];exact λx=>ht (.inl x))]
  exact E.block k hk2 (λx=>ht (.inr x))
 have I:Kept own (λt=>t=.root∨t=.files∨t=.dir) w (w5.setCell ⟨B,4,none⟩ fv'):=(L.mono (λt ht=>.inr ht)).setCell ⟨B,4,none⟩ (.inl o.tB) _;have F:Kept own' (λt=>t=.root∨t=.files∨t=.dir) w (w5.setCell ⟨B,4,none⟩ fv'):=I.tagsO K (by simp);have M:own B≠.other:=by rw[o.tB];simp
 have ab:w5.heap[B]?=some (.cells (Am st V) 70 (0,0)):=by rw[L.block B hB (by rw[o.tB];simp)];exact o.root
 have ac:(w5.setCell ⟨B,4,none⟩ fv').heap[w1.heap.size]?=some (.cells #[d,.int .i64 l.length] 111 (0,0)):=by
  rw[Below.heap_setCell _ _ _ _ (show w1.heap.size≠(⟨B,4,none⟩:Addr).block by simp;omega),C.block w1.heap.size (by omega) (by rw[BM];simp)];exact X
 have Q:(w5.setCell ⟨B,4,none⟩ fv').heap[V.md]?=w1.heap[V.md]?:=by
  have aa:=o.dir.lt;rw[Below.heap_setCell _ _ _ _ (show V.md≠(⟨B,4,none⟩:Addr).block from λe=>by have D:=o.tdir;rw[e,o.tB]at D;cases D),
   C.block V.md (by omega) (by rw[Aj (by omega),P V.md aa (by rw[o.tdir];simp),o.tdir];simp)]
  exact b4.block V.md (by omega)
 refine⟨own',⟨⟨heap_set ab _,(K B hB M).trans o.tB,o.lo,o.left,(o.plan.tags K).kept F (by simp),?_,o2,?_,?_,?_,hm.heap Q,(K _ o.dir.lt (by rw[o.tdir];simp)).trans o.tdir,
  o.sure.heap (I.block _ o.sure.lt (by rw[o.tsure];simp)),(K _ o.sure.lt (by rw[o.tsure];simp)).trans o.tsure,(o.chg.tags K).kept F (by simp) (by simp),?_,o.bl⟩,λk hk2=>o3 k ?_,o4⟩,λk hk2 hne=>(U k (by omega)).trans ((Aj (by omega)).trans (J k hne)),I⟩
 ·rw[QS,List.length_singleton,List.map_append];refine AQ hrow (λg hg2=>Below.heap_setCell _ _ _ _ (λe=>?_));have D:=o2 g hg2;rw[e]at D;rw[show (⟨B,4,none⟩:Addr).block=B from rfl,K B hB M,o.tB]at D;cases D
 ·simp[o.nfb]
 ·simp[o.ndv]
 ·intro i f b d' D h2 h3;by_cases hi:i<st.files.length
  ·rw[ZL hi]at D;rw[ZL (by rw[o.nfb];exact hi)]at h2;rw[ZL (by rw[o.ndv];exact hi)]at h3;exact ((o.file i f b d' D h2 h3).tags K).kept F (by simp) (by simp)
  ·have W:i=st.files.length:=by
    have:=(List.getElem?_eq_some_iff.1 D).1;simp at this;omega
   subst W;rw[List.getElem?_append_right (QM _),Nat.sub_self]at D;rw[← o.nfb,List.getElem?_append_right (QM _),Nat.sub_self]at h2;rw[← o.ndv,List.getElem?_append_right (QM _),Nat.sub_self]at h3;simp at D h2 h3;subst D h2 h3;exact⟨ac,(U _ (by omega)).trans BM,AQ hd (λg hg2=>I.block g (H g hg2) (by rw[hdo g hg2];simp)),Z⟩
 ·intro p hp;rw[QS,List.length_singleton];rcases Fs.mput_mem.1 hp with rfl|⟨hp,_⟩
  ·simp;omega
  ·have:=o.known p hp;omega
 ·simpa [World.setCell] using hk2
open Go.Maps Go.WideMaps
theorem Co (n:Nat):∀(w:World),n≤9223372036854775807 →
  Calls Tryz.prog 79 #[.int .i64 (n:Nat)] w λe w'=>e=.returned (.string ⟨(Lib.decDigits n).toArray⟩)∧Below w.heap.size w w':=by
 induction n using Nat.strongRecOn with
 | _ n ih =>
  intro w hn;have S:(0:Int)≤(n:Int):=Int.natCast_nonneg _;have W:(n:Int)≤9223372036854775807:=by omega
  by_cases h10:n<10
  ·have T:(n:Int)<10:=by omega
   have L:Hid (Lib.decDigits n=[UInt8.ofNat (48+n)]):=QA (Lib.decDigits_one h10);have Z:(48+(n:Int)) % 256=48+(n:Int):=by omega
   have J:=Cq (Ii w n h10);obtain⟨x,H⟩:∃x,x=UInt8.ofNat (48+n):=⟨_,rfl⟩
   rw[← H]at J;have X:=QA H;clear h10 H;go_enter Tryz.func79,Tryz.ntmps79;go_wp2_with fail;go_ret;exact⟨by rw[L.out,← X.out];rfl,(Below.refl _ _).alloc (QM _) _⟩
  ·have T:10≤(n:Int):=by omega
   have L:Hid (Lib.decDigits n=Lib.decDigits (n / 10)++Lib.decDigits (n % 10)):=by
    rw[Lib.decDigits,dif_neg h10,Lib.decDigits_one (i:=n % 10) (by omega)];exact QA rfl
   have O:(n:Int) / 10=((n / 10:Nat):Int):=by omega
   have P:(n:Int) % 10=((n % 10:Nat):Int):=by omega
   have A:((Lib.decDigits (n / 10)).length)≤21:=by
    have:=Lib.itoa_length_le ((n / 10:Nat):Int) (by omega) (by omega)
    rwa [Lib.itoa_nonneg]at this
   have o:((Lib.decDigits (n % 10)).length)≤21:=by
    have:=Lib.itoa_length_le ((n % 10:Nat):Int) (by omega) (by omega)
    rwa [Lib.itoa_nonneg]at this
   obtain⟨M,B⟩:∃s:ByteArray,s=⟨(Lib.decDigits (n / 10)).toArray⟩:=⟨_,rfl⟩
   obtain⟨N,C⟩:∃s:ByteArray,s=⟨(Lib.decDigits (n % 10)).toArray⟩:=⟨_,rfl⟩
   have Q:M.size≤21:=by rw[B];show (Lib.decDigits (n / 10)).toArray.size≤21;simpa using A
   have Y:N.size≤21:=by rw[C];show (Lib.decDigits (n % 10)).toArray.size≤21;simpa using o
   have V:(M.size:Int)+(N.size:Int)≤42:=by omega
   have F:=QA B;have E:=QA C;have U:=QA O;have R:=QA P;have K:=QA (ih (n / 10) (by omega));have G:=QA (ih (n % 10) (by omega));clear B C O P A o ih h10;go_enter Tryz.func79,Tryz.ntmps79;go_wp2_with fail;rw[U.out];refine (K.out w (by omega)).mono ?_;rintro e w1 ⟨rfl,hb1⟩;rw[← F.out];have D:=QA hb1;clear hb1;go_wp2_with fail;rw[R.out];refine (G.out w1 (by omega)).mono ?_;rintro e w2 ⟨rfl,hb2⟩;rw[← E.out];have I:=QA (D.out.trans (hb2.mono D.out.size));clear hb2;go_wp2_with fail;go_ret;refine⟨?_,I.out⟩;rw[L.out,← DX,← F.out,← E.out];rfl
theorem FY (id:Int) (w:World) :
  Calls Tryz.prog 52 #[.int .i64 id] w λe w'=>e=.returned (.tuple #[.string ⟨(Sg.nameB id).toArray⟩,.int .i64 (Sg.nameE id)])∧Below w.heap.size w w':=by
 by_cases hid:id<1∨2147483647<id
 ·have C:Hid (Sg.nameB id=[]):=by unfold Sg.nameB;rw[if_pos hid];exact QA rfl
  have B:Hid (Sg.nameE id=1):=by unfold Sg.nameE;rw[if_pos hid];exact QA rfl
  rcases hid with h|h
  ·go_enter Tryz.func52,Tryz.ntmps52;go_wp2_with fail;refine bodyPost_ret (v:=.tuple #[.string ⟨#[]⟩,.int .i64 1]) (by simp[results,Tryz.results52,go_sem]) rfl ?_;exact⟨by rw[C.out,B.out],Below.refl _ _⟩
  ·have F:1≤id:=by omega
   go_enter Tryz.func52,Tryz.ntmps52;go_wp2_with fail;refine bodyPost_ret (v:=.tuple #[.string ⟨#[]⟩,.int .i64 1]) (by simp[results,Tryz.results52,go_sem]) rfl ?_;exact⟨by rw[C.out,B.out],Below.refl _ _⟩
 ·obtain⟨n,rfl⟩:∃n:Nat,id=(n:Int):=⟨id.toNat,by omega⟩
  have H:1≤(n:Int):=by omega
  have F:(n:Int)≤2147483647:=by omega
  have C:Hid (Sg.nameB (n:Int)=[115,101,103,45]++Lib.decDigits n):=by unfold Sg.nameB;rw[if_neg hid,Lib.itoa_nonneg];exact QA rfl
  have B:Hid (Sg.nameE (n:Int)=0):=by unfold Sg.nameE;rw[if_neg hid];exact QA rfl
  have o:=Lib.itoa_length_le (n:Int) (by omega) (by omega);rw[Lib.itoa_nonneg]at o;clear hid;go_enter Tryz.func52,Tryz.ntmps52;go_wp2_with fail;refine (Co n w (by omega)).mono ?_;rintro e w1 ⟨rfl,hb⟩;have D:=QA hb;obtain⟨s,A⟩:∃s:ByteArray,s=⟨(Lib.decDigits n).toArray⟩:=⟨_,rfl⟩
  have G:(s.size:Int)≤21:=by
   rw[A];show ((Lib.decDigits n).toArray.size:Int)≤21;simp;omega
  rw[← A];have E:=QA A;clear A o hb;go_wp2_with fail;refine bodyPost_ret (v:=.tuple #[.string (⟨#[115,101,103,45]⟩++s),.int .i64 0]) (by simp[results,Tryz.results52,go_sem]) rfl ?_;exact⟨by rw[C.out,B.out,E.out,← DX],D.out⟩
open Go.Maps Go.WideMaps
theorem Jb (a b:Nat) (ha:a<4294967296) (hb:b<4294967296):bits .xor .u32 (a:Int) (b:Int)=((a ^^^ b:Nat):Int):=u32_xor_nat a b ha hb
theorem Ih (s:ByteArray) (a:Nat) (h:a<s.size) (c:Nat):(s.data.toList.take (a+1)).foldl (λc x=>Fr.its 8 (c ^^^ x.toNat)) c=Fr.its 8 ((s.data.toList.take a).foldl (λc x=>Fr.its 8 (c ^^^ x.toNat)) c ^^^ (bt s a).toNat):=by
 have o:a<s.data.toList.length:=by simpa using h
 rw[List.take_add_one,ZG o,List.foldl_append];unfold bt;rw[List.getD_eq_getElem?_getD,ZG o];rfl
theorem Fj (s:ByteArray) (w:World) (hs:s.size≤9223372036854775807) :
  Calls Tryz.prog 99 #[.string s] w λe w'=>e=.returned (.int .u32 (Fr.sum s.data.toList))∧w'=w:=by
 have S:(0:Int)≤(s.size:Int):=Int.natCast_nonneg _;go_enter Tryz.func99,Tryz.ntmps99;go_wp2_with fail
 go_loopg [3,4] s.size (λk s3 s4 wr=>∃a c:Nat,a≤s.size∧k=s.size-a∧s4=.int .i64 (a:Nat)∧s3=.int .u32 (c:Nat)∧c=(s.data.toList.take a).foldl (λc x=>Fr.its 8 (c ^^^ x.toNat)) 4294967295∧c<4294967296∧wr=w)
 case atStart=>exact⟨0,4294967295,ZS _,by omega,rfl,rfl,rfl,by omega,rfl⟩
 case round =>
  obtain⟨a,c,Z,L,rfl,rfl,K,A,rfl⟩:=hrel;have R:=QA L;have M:=QA K;clear L K;have T:(0:Int)≤(a:Int):=Int.natCast_nonneg _;have Y:(0:Int)≤(c:Int):=Int.natCast_nonneg _;by_cases hlt:a<s.size
  ·have D:(a:Int)<(s.size:Int):=by omega
   have U:=QA (Ih s a hlt 4294967295);have F:=Fr.xor_byte A (bt s a);have W:=Jb c (bt s a).toNat A (by have:=De s a;omega);go_wp2_with fail
   go_loopg [3,5,6] 8 (λk s3 s5 s6 wq=>∃b d:Nat,b≤8∧k=8-b∧s5=.int .i64 (b:Nat)∧s3=.int .u32 (d:Nat)∧d=Fr.its b (c ^^^ (bt s a).toNat)∧d<4294967296∧wq=wr)
   case atStart=>exact⟨0,c ^^^ (bt s a).toNat,ZS _,by omega,rfl,by rw[show (((bt s a).toNat:Int) % 4294967296)=((bt s a).toNat:Int) by have:=De s a;omega,W],rfl,F,rfl⟩
   case round =>
    obtain⟨b,d,hb,C,rfl,rfl,N,B,rfl⟩:=hrel;have E:=QA C;have Q:=QA N;clear C N;have X:(0:Int)≤(b:Int):=Int.natCast_nonneg _;have V:(0:Int)≤(d:Int):=Int.natCast_nonneg _;by_cases hb8:b<8
    ·have O:(b:Int)<8:=by omega
     have J:=Fr.st_lt B;have P:Hid (Fr.its (b+1) (c ^^^ (bt s a).toNat)=Fr.st d):=by rw[Q.out];exact QA rfl
     rcases Nat.mod_two_eq_zero_or_one d with hm|hm
     ·have G:(d:Int) % 2=0:=by omega
      have o:Hid (Fr.st d=d / 2):=by unfold Fr.st;rw[if_neg (by omega),Nat.xor_zero];exact QA rfl
      go_wp2_with fail;go_roundg (8-(b+1))
      case measure=>rw[E.out];omega
      case rel=>exact⟨b+1,d / 2,by omega,rfl,by simp,by simp,by rw[P.out,o.out],by omega,rfl⟩
     ·have G:(d:Int) % 2=1:=by omega
      have I:=Jb (d / 2) 2197175160 (by omega) (by omega);have o:Hid (Fr.st d=d / 2 ^^^ 2197175160):=by unfold Fr.st;rw[if_pos hm];exact QA rfl
      have H:d / 2 ^^^ 2197175160<4294967296:=by rw[← o.out];exact J
      go_wp2_with fail;go_roundg (8-(b+1))
      case measure=>rw[E.out];omega
      case rel=>exact⟨b+1,d / 2 ^^^ 2197175160,by omega,rfl,by simp,by simpa using I,by rw[P.out,o.out],H,rfl⟩
    ·obtain rfl:b=8:=by omega
     go_wp2_with fail;go_roundg (s.size-(a+1))
     case measure=>rw[R.out];omega
     case rel=>exact⟨a+1,d,by omega,rfl,by simp,rfl,by rw[U.out,← M.out];exact Q.out,B,rfl⟩
  ·have D:(s.size:Int)≤(a:Int):=by omega
   go_wp2_with fail;go_ret;refine⟨congrArg (λx=>Ending.returned (.int .u32 x)) ?_,rfl⟩;rw[Fr.sum_ref];have:=Jb c 4294967295 A (by omega);rw[show (4294967295:Int)=((4294967295:Nat):Int) from rfl,this];unfold Fr.refC;rw[M.out,List.take_of_length_le (by simp;omega)]
theorem JM {w:World} (l:List UInt8) (cs:Array Value) (fz:Nat×Nat) (hc:cs=(AR l).toArray):Al (w.alloc (.cells cs 5 fz)) (.slice (some ⟨w.heap.size,0,none⟩) l.length l.length) l:=by
 subst hc;refine⟨_,_,rfl,QM _,(λe=>by cases e),λi x hi=>⟨w.heap.size,0,rfl,by simp,?_⟩⟩;rw[Nat.zero_add,cell_of_row _ _ _ _ _ _ (AH w _)];simp[AR,hi]
theorem C9 (n:Int) (w:World) (h0:0≤n) (h1:n<4294967296) :
  Calls Tryz.prog 98 #[.int .u32 n] w λe w'=>e=.returned (.string ⟨(Fr.four n).toArray⟩)∧Below w.heap.size w w':=by
 have o:=Cq (JM (w:=w) (Fr.four n) #[.int .u8 (n % 256),.int .u8 (n / 256 % 256),.int .u8 (n / 65536 % 256),.int .u8 (n / 16777216)] (0,0) (by simp[AR,Fr.four,Fr.byte_val];omega));have A:(Fr.four n).length=4:=rfl;rw[A]at o;clear A;obtain⟨t,B⟩:∃t:ByteArray,t=⟨(Fr.four n).toArray⟩:=⟨_,rfl⟩
 rw[← B]at o ⊢;clear B;go_enter Tryz.func98,Tryz.ntmps98;go_wp2_with fail;go_ret;exact⟨rfl,(Below.refl _ _).alloc (QM _) _⟩
theorem Jk (s:ByteArray):Fr.num s.data.toList=(bt s 0).toNat+256*(bt s 1).toNat+65536*(bt s 2).toNat+16777216*(bt s 3).toNat:=rfl
theorem FH (s:ByteArray) (w:World) (h4:4≤s.size) :
  Calls Tryz.prog 106 #[.string s] w λe w'=>e=.returned (.int .i64 (Fr.num s.data.toList))∧∃n,w'=w.drewN n:=by
 have A:(4:Int)≤(s.size:Int):=by omega
 have o:=QA (Jk s);have b0:=De s 0;have B:=De s 1;have C:=De s 2;have D:=De s 3;go_enter Tryz.func106,Tryz.ntmps106;go_wp2_with fail;refine AO [] (by kernel_rfl) (by kernel_rfl) ?_;simp only[Ap,List.take_succ_cons,List.take_zero,List.drop_succ_cons,List.drop_zero,Nat.sub_zero,Nat.reduceSub,Nat.reduceAdd]
 repeat (go_big_quiet_step (fail))
 refine wpQuiet_nil ?_;rintro _ ⟨nq,rfl⟩;go_wp2_with fail;go_ret;refine⟨congrArg (λx=>Ending.returned (.int .i64 x)) ?_,nq,rfl⟩;rw[o.out];omega
open Go.Maps Go.WideMaps
theorem BS (a b:ByteArray):(a++b).data.toList=a.data.toList++b.data.toList:=by simp
theorem Bs (s:ByteArray):s.data.toList.length=s.size:=by simp
def Do (k:Int) (l:List UInt8) (e:Ending):Prop:=e=.returned (.tuple #[.string ⟨(if Fr.encE k l=0 then Fr.bytes k l else []).toArray⟩,.int .i64 (Fr.encE k l)])
theorem Do.bad {k:Int} {l:List UInt8} {c:Int} (h:Fr.encE k l=c) (hc:c≠0):Do k l (.returned (.tuple #[.string ⟨#[]⟩,.int .i64 c])):=by
 unfold Do;rw[h,if_neg hc]
theorem Do.ok {k:Int} {l:List UInt8} {s:ByteArray} (h:Fr.encE k l=0) (hs:s.data.toList=Fr.bytes k l):Do k l (.returned (.tuple #[.string s,.int .i64 0])):=by
 unfold Do;rw[h,if_pos rfl,← hs]
theorem Ib (k:Int) (s:ByteArray) (w:World) (hs:s.size≤9223372036854775807) :
  Calls Tryz.prog 80 #[.int .i64 k,.string s] w λe w'=>Do k s.data.toList e∧Below w.heap.size w w':=by
 have L:(0:Int)≤(s.size:Int):=Int.natCast_nonneg _;have H:=Bs s;go_enter Tryz.func80,Tryz.ntmps80;by_cases h1:k<1
 ·have D:Hid (Fr.encE k s.data.toList=1):=by unfold Fr.encE;rw[if_pos (.inl h1)];exact QA rfl
  clear H;go_wp2_with fail;refine bodyPost_ret (v:=.tuple #[.string ⟨#[]⟩,.int .i64 1]) (by simp[results,Tryz.results80,go_sem]) rfl ?_;exact⟨Do.bad D.out (by decide),Below.refl _ _⟩
 by_cases h2:9<k
 ·have D:Hid (Fr.encE k s.data.toList=1):=by unfold Fr.encE;rw[if_pos (.inr h2)];exact QA rfl
  have Q:1≤k:=by omega
  clear H;go_wp2_with fail;refine bodyPost_ret (v:=.tuple #[.string ⟨#[]⟩,.int .i64 1]) (by simp[results,Tryz.results80,go_sem]) rfl ?_;exact⟨Do.bad D.out (by decide),Below.refl _ _⟩
 have Q:1≤k:=by omega
 have ac:k≤9:=by omega
 by_cases h3:8192<s.size
 ·have D:Hid (Fr.encE k s.data.toList=5):=by unfold Fr.encE;rw[if_neg (by omega),if_pos (by omega)];exact QA rfl
  have K:(8192:Int)<(s.size:Int):=by omega
  clear H;go_wp2_with fail;refine bodyPost_ret (v:=.tuple #[.string ⟨#[]⟩,.int .i64 5]) (by simp[results,Tryz.results80,go_sem]) rfl ?_;exact⟨Do.bad D.out (by decide),Below.refl _ _⟩
 ·have D:Hid (Fr.encE k s.data.toList=0):=by unfold Fr.encE;rw[if_neg (by omega),if_neg (by omega)];exact QA rfl
  have K:(s.size:Int)≤8192:=by omega
  have F:=Cq (JM (w:=w) [Fr.byte k] #[.int .u8 k] (0,0) (by simp[AR,Fr.byte_val];omega));obtain⟨S,A⟩:∃t:ByteArray,t=⟨[Fr.byte k].toArray⟩:=⟨_,rfl⟩
  rw[← A]at F;have V:(S.size:Int)=1:=by rw[A];rfl
  have X:(s.size:Int) % 4294967296=(s.size:Int):=by omega
  have ab:k % 256=k:=by omega
  have HL:=QA H;have R:=QA A;simp only[List.length_singleton]at F;clear A H;go_wp2_with fail;refine (C9 (s.size:Int) _ L (by omega)).mono ?_;rintro e w2 ⟨rfl,hb2⟩;obtain⟨U,o⟩:∃t:ByteArray,t=⟨(Fr.four (s.size:Int)).toArray⟩:=⟨_,rfl⟩
  have Z:(U.size:Int)=4:=by rw[o];rfl
  have M:=QA o;rw[← o];have I:=QA (((Below.refl w.heap.size w).alloc (QM _) (.cells #[.int .u8 k] 5)).trans (hb2.mono (by simp)));obtain⟨G,B⟩:∃t:ByteArray,t=S++s:=⟨_,rfl⟩
  have Y:(G.size:Int)=1+(s.size:Int):=by rw[B];simp;omega
  rw[← B];have P:=QA B;clear o B F hb2;go_wp2_with fail;refine (Fj G w2 (by omega)).mono ?_;rintro e w3 ⟨rfl,rfl⟩;have E:0≤Fr.sum G.data.toList∧Fr.sum G.data.toList<4294967296:=ES _ _ _;obtain⟨z,J⟩:∃z,z=Fr.sum G.data.toList:=⟨_,rfl⟩
  rw[← J]at E ⊢;have HZ:=QA J;clear J;go_wp2_with fail;refine (C9 z _ E.1 E.2).mono ?_;rintro e w4 ⟨rfl,hb4⟩;obtain⟨T,C⟩:∃t:ByteArray,t=⟨(Fr.four z).toArray⟩:=⟨_,rfl⟩
  have W:(T.size:Int)=4:=by rw[C];rfl
  have O:=QA C;rw[← C];have N:=QA (I.out.trans (hb4.mono I.out.size));clear C hb4;go_wp2_with fail;refine bodyPost_ret (v:=.tuple #[.string (U++G++T),.int .i64 0]) (by simp[results,Tryz.results80,go_sem]) rfl ?_;refine⟨Do.ok D.out ?_,N.out⟩;rw[BS,BS,M.out,O.out,HZ.out,P.out,BS,R.out];unfold Fr.bytes Fr.inner;rw[HL.out];simp
open Go.Maps Go.WideMaps
def CG (l:List UInt8) (e:Ending):Prop:=e=.returned (.tuple #[.agg #[.int .i64 (if Fr.decE l=0 then Fr.kind l else 0),.string ⟨(if Fr.decE l=0 then Fr.pay l else []).toArray⟩],.int .i64 (Fr.decE l)])
theorem CG.bad {l:List UInt8} {c:Int} (h:Fr.decE l=c) (hc:c≠0):CG l (.returned (.tuple #[.agg #[.int .i64 0,.string ⟨#[]⟩],.int .i64 c])):=by
 unfold CG;rw[h,if_neg hc,if_neg hc]
theorem CG.ok {l:List UInt8} {s:ByteArray} {k:Int} (h:Fr.decE l=0) (hk:k=Fr.kind l) (hs:s.data.toList=Fr.pay l):CG l (.returned (.tuple #[.agg #[.int .i64 k,.string s],.int .i64 0])):=by
 unfold CG;rw[h,if_pos rfl,if_pos rfl,← hs,hk]
theorem Hw {l:List UInt8} (h:l.length=4):Fr.four (Fr.num l:Nat)=l:=by
 match l,h with
 | [a,b,c,d],_ =>
  have B:=UInt8.toNat_lt a;have hb:=UInt8.toNat_lt b;have o:=UInt8.toNat_lt c;have A:=UInt8.toNat_lt d;unfold Fr.four Fr.num;simp only[List.getD_cons_zero,List.getD_cons_succ,List.cons.injEq,and_true];refine⟨UInt8.toNat_inj.1 ?_,UInt8.toNat_inj.1 ?_,UInt8.toNat_inj.1 ?_,UInt8.toNat_inj.1 ?_⟩ <;>
  ·have:=Fr.byte_val ((a.toNat+256*b.toNat+65536*c.toNat+16777216*d.toNat:Nat):Int);have:=Fr.byte_val (((a.toNat+256*b.toNat+65536*c.toNat+16777216*d.toNat:Nat):Int) / 256);have:=Fr.byte_val (((a.toNat+256*b.toNat+65536*c.toNat+16777216*d.toNat:Nat):Int) / 65536);have:=Fr.byte_val (((a.toNat+256*b.toNat+65536*c.toNat+16777216*d.toNat:Nat):Int) / 16777216);omega
theorem ext_list (s:ByteArray) (a b:Nat):(s.extract a b).data.toList=(s.data.toList.drop a).take (b-a):=by simp
theorem Ie (s:ByteArray):(s.extract 4 (s.size-4)).data.toList=Fr.body s.data.toList:=by
 rw[ext_list];unfold Fr.body;rw[Bs];congr 1
theorem I6 (s:ByteArray):(s.extract 5 (s.size-4)).data.toList=Fr.pay s.data.toList:=by
 rw[ext_list];unfold Fr.pay;rw[Bs];congr 1
theorem Ir (s:ByteArray):(s.extract (s.size-4) s.size).data.toList=s.data.toList.drop (s.data.toList.length-4):=by
 rw[ext_list,Bs];exact List.take_of_length_le (by rw[List.length_drop,Bs];omega)
theorem JG {z:Int} (h0:0≤z) (h1:z<4294967296) {l:List UInt8} (hl:l.length=4):Fr.four z=l↔z=(Fr.num l:Nat):=by
 constructor
 ·intro h;have:=Fr.num_four z h0 h1 [];rw[List.append_nil,h]at this;exact this.symm
 ·intro h;rw[h];exact Hw hl
theorem Cr {Q:Ending→World→Prop} {a:Act} {W:World} (g:Nat) (k c:Int) (s:ByteArray) (h2:a.tmps[2]?=some (.pointer (some ⟨g,0,none⟩))) (h3:a.tmps[3]?=some (.int .i64 c)) (hd:a.defers=[])
  (hW:W.heap[g]?=some (.cells #[.int .i64 k,.string s] 157 (0,0))) (hQ:Q (.returned (.tuple #[.agg #[.int .i64 k,.string s],.int .i64 c])) W):bodyPost Tryz.prog Tryz.f89 Q .ret a W:=by
 have A:W.cell? ⟨g,0,none⟩=some (.int .i64 k):=AA hW 0 _ rfl;have o:W.cell? ⟨g,1,none⟩=some (.string s):=AA hW 1 _ rfl;exact bodyPost_ret (v:=.tuple #[.agg #[.int .i64 k,.string s],.int .i64 c]) (by simp[results,Tryz.results89,go_sem,h2,h3,A,o]) hd hQ
theorem CX {l:List UInt8} {a:Act} {w:World} (n:Nat) (k c:Int) (s:ByteArray) (h2:a.tmps[2]?=some (.pointer (some ⟨w.heap.size,0,none⟩))) (h3:a.tmps[3]?=some (.int .i64 c)) (hd:a.defers=[]) (hQ:CG l (.returned (.tuple #[.agg #[.int .i64 k,.string s],.int .i64 c]))) :
  bodyPost Tryz.prog Tryz.f89 (λe w'=>CG l e∧Below w.heap.size w w') .ret a ((((w.alloc (.cells #[.int .i64 0,.string ⟨#[]⟩] 157)).drewN n).setCell ⟨w.heap.size,0,none⟩ (.int .i64 k)).setCell ⟨w.heap.size,1,none⟩ (.string s)):=by
 have h0:((w.alloc (.cells #[.int .i64 0,.string ⟨#[]⟩] 157)).drewN n).heap[w.heap.size]?=some (.cells #[.int .i64 0,.string ⟨#[]⟩] 157 (0,0)):=AH w _;refine Cr w.heap.size k c s h2 h3 hd (heap_set (heap_set h0 _) _) ⟨hQ,?_⟩;exact ((Below.drewN ((Below.refl _ _).alloc (QM _) _) n).setCell (p:=⟨w.heap.size,0,none⟩) (QM _) _).setCell (p:=⟨w.heap.size,1,none⟩) (QM _) _
theorem IY (s:ByteArray) (w:World) (hs:s.size≤9223372036854775807) :
  Calls Tryz.prog 89 #[.string s] w λe w'=>CG s.data.toList e∧Below w.heap.size w w':=by
 have ac:(0:Int)≤(s.size:Int):=Int.natCast_nonneg _;have Y:=Bs s;go_enter Tryz.func89,Tryz.ntmps89;by_cases h9:s.size<9
 ·have X:(s.size:Int)<9:=by omega
  have A:Hid (Fr.decE s.data.toList=2):=by unfold Fr.decE;rw[if_pos (.inl (by omega))];exact QA rfl
  clear Y;go_wp2_with fail;refine Cr _ 0 2 ⟨#[]⟩ rfl rfl rfl (AH w _) ⟨CG.bad A.out (by decide),(Below.refl _ _).alloc (QM _) _⟩
 ·have X:9≤(s.size:Int):=by omega
  obtain⟨N,hN⟩:∃N,N=Fr.num s.data.toList:=⟨_,rfl⟩
  have af:(0:Int)≤(N:Int):=Int.natCast_nonneg _;have Q:=QA Y;have I:=QA hN;clear Y hN;go_wp2_with fail;refine (FH s _ (by omega)).mono ?_;rintro e w1 ⟨rfl,n1,rfl⟩;rw[← I.out];by_cases hn:(N:Int)=(s.size:Int)-9
  ·have W:((N:Int) != (s.size:Int)-9)=false:=by rw[bne_eq_false_iff_eq];exact hn
   have D:=QA hn;clear hn;go_wp2_with fail;refine (FH s _ (by omega)).mono ?_;rintro e w2 ⟨rfl,n2,rfl⟩;rw[← I.out];by_cases hbig:8192<N
   ·have F:(8192:Int)<(N:Int):=by omega
    have A:Hid (Fr.decE s.data.toList=2):=by unfold Fr.decE;rw[if_pos (by have:=Q.out;have:=D.out;omega)];exact QA rfl
    go_wp2_with fail;exact CX _ 0 2 ⟨#[]⟩ rfl rfl rfl (CG.bad A.out (by decide))
   ·have F:(N:Int)≤8192:=by omega
    have S:Hid (Fr.kind s.data.toList=((bt s 4).toNat:Int)):=QA rfl;have C:=De s 4;by_cases hk1:(bt s 4).toNat<1
    ·have P:((bt s 4).toNat:Int)<1:=by omega
     have A:Hid (Fr.decE s.data.toList=1):=by unfold Fr.decE;rw[if_neg (by have:=Q.out;have:=I.out;have:=D.out;omega),if_pos (by rw[S.out];omega)];exact QA rfl
     go_wp2_with fail;exact CX _ 0 1 ⟨#[]⟩ rfl rfl rfl (CG.bad A.out (by decide))
    have P:(1:Int)≤((bt s 4).toNat:Int):=by omega
    by_cases hk2:9<(bt s 4).toNat
    ·have M:(9:Int)<((bt s 4).toNat:Int):=by omega
     have A:Hid (Fr.decE s.data.toList=1):=by unfold Fr.decE;rw[if_neg (by have:=Q.out;have:=I.out;have:=D.out;omega),if_pos (by rw[S.out];omega)];exact QA rfl
     go_wp2_with fail;exact CX _ 0 1 ⟨#[]⟩ rfl rfl rfl (CG.bad A.out (by decide))
    have M:((bt s 4).toNat:Int)≤9:=by omega
    go_wp2_with fail;have L:(s.extract 4 (s.size-4)).size≤9223372036854775807:=by simp;omega
    have B:0≤Fr.sum (s.extract 4 (s.size-4)).data.toList∧Fr.sum (s.extract 4 (s.size-4)).data.toList<4294967296:=ES _ _ _;obtain⟨z,R⟩:∃z,z=Fr.sum (s.extract 4 (s.size-4)).data.toList:=⟨_,rfl⟩
    have K:Hid (∀x:Later ((w.alloc (.cells #[.int .i64 0,.string ⟨#[]⟩] 157)).drewN (n1+n2)),Calls Tryz.prog 99 #[.string (s.extract 4 (s.size-4))] x.1 λe w'=>e=.returned (.int .u32 z)∧w'=x.1) :=
     QA λx=>by rw[R];exact Fj _ _ L
    rw[← R]at B;obtain⟨V,G⟩:∃t:ByteArray,t=⟨(Fr.four z).toArray⟩:=⟨_,rfl⟩
    have H:Hid (∀x:Later ((w.alloc (.cells #[.int .i64 0,.string ⟨#[]⟩] 157)).drewN (n1+n2)),Calls Tryz.prog 98 #[.int .u32 z] x.1 λe w'=>e=.returned (.string V)∧Below x.1.heap.size x.1 w') :=
     QA λx=>by rw[G];exact C9 z _ B.1 B.2
    have HZ:=QA R;have T:=QA G;clear R G L;refine Ar (by kernel_rfl) (by kernel_rfl) ?_
    repeat (go_big_quiet_step ((first|(with_reducible exact Later.call_same (v:=.int .u32 z) (K.out _))|(with_reducible exact Later.call (v:=.string V) (H.out _)))))
    refine wpQuiet_nil ?_;rintro w4 ⟨⟨_,C⟩,rfl⟩;have ad:=QA C;obtain⟨c,U⟩:∃c:Bool,c=(V.toList==(s.extract (s.size-4) s.size).toList):=⟨_,rfl⟩
    rw[← U];have E:c=decide (Fr.sum (Fr.body s.data.toList)=(Fr.num (s.data.toList.drop (s.data.toList.length-4)):Nat)):=by
     have h4:(s.data.toList.drop (s.data.toList.length-4)).length=4:=by rw[List.length_drop,Bs];omega
     rw[U,ByteArray.toList_eq,ByteArray.toList_eq,Bool.eq_iff_iff,beq_iff_eq,decide_eq_true_eq,T.out,Ir,← Ie,← HZ.out];exact JG B.1 B.2 h4
    have HD:Hid (Fr.decE s.data.toList=if Fr.sum (Fr.body s.data.toList)≠(Fr.num (s.data.toList.drop (s.data.toList.length-4)):Nat) then 6 else 0):=by
     unfold Fr.decE;rw[if_neg (by have:=Q.out;have:=I.out;have:=D.out;omega),if_neg (by rw[S.out];omega)];exact QA rfl
    have o:w4.heap[w.heap.size]?=some (.cells #[.int .i64 0,.string ⟨#[]⟩] 157 (0,0)):=(C.block _ (by show _<((w.alloc _).drewN _).heap.size;simp[World.drewN])).trans (AH w _);have J:=QA o;have O:Hid (Below w.heap.size w w4):=QA ((Below.drewN ((Below.refl _ _).alloc (QM _) (.cells #[.int .i64 0,.string ⟨#[]⟩] 157)) (n1+n2)).trans (C.mono (by show _≤((w.alloc _).drewN _).heap.size;simp[World.drewN])));have q0:=AC o 0;have q1:=AC o 1;have p0:=AA o 0 _ rfl;have p1:=AA o 1 _ rfl;clear C U o;cases c
    ·have A:Hid (Fr.decE s.data.toList=6):=by rw[HD.out,if_pos (of_decide_eq_false E.symm)];exact QA rfl
     clear E;go_wp2_with fail;exact Cr w.heap.size 0 6 ⟨#[]⟩ rfl rfl rfl (heap_set (heap_set J.out _) _) ⟨CG.bad A.out (by decide),(O.out.setCell (p:=⟨w.heap.size,0,none⟩) (QM _) _).setCell (p:=⟨w.heap.size,1,none⟩) (QM _) _⟩
    ·have A:Hid (Fr.decE s.data.toList=0):=by rw[HD.out,if_neg (by have:=of_decide_eq_true E.symm;intro h;exact h this)];exact QA rfl
     clear E;go_wp2_with fail;refine AO [9] (by kernel_rfl) (by kernel_rfl) ?_;simp only[Ap,List.take_succ_cons,List.take_zero,List.drop_succ_cons,List.drop_zero,Nat.sub_zero,Nat.reduceSub,Nat.reduceAdd]
     repeat (go_big_quiet_step (fail))
     refine wpQuiet_nil ?_;rintro _ ⟨nq,rfl⟩;go_wp2
     repeat (go_big_quiet_step (fail))
     refine wpQuiet_nil ?_;rintro _ ⟨nq,rfl⟩;go_wp2_with fail;rename_i na;have Z:(w4.drewN na).heap[w.heap.size]?=some (.cells #[.int .i64 0,.string ⟨#[]⟩] 157 (0,0)):=J.out;refine Cr w.heap.size ((bt s 4).toNat:Int) 0 (s.extract 5 (s.size-4)) rfl rfl rfl (heap_set (heap_set Z _) _) ⟨CG.ok A.out S.out.symm (I6 s),?_⟩;exact Below.drewN (((Below.drewN O.out na).setCell (p:=⟨w.heap.size,0,none⟩) (QM _) _).setCell (p:=⟨w.heap.size,1,none⟩) (QM _) _) nq
  ·have W:((N:Int) != (s.size:Int)-9)=true:=by rw[bne_iff_ne];exact hn
   have A:Hid (Fr.decE s.data.toList=2):=by unfold Fr.decE;rw[if_pos (by have:=Q.out;have:=I.out;omega)];exact QA rfl
   clear hn;go_wp2_with fail;exact CX _ 0 2 ⟨#[]⟩ rfl rfl rfl (CG.bad A.out (by decide))
theorem Sg.dec_len (n:Nat) (h:n<10000000000):(Lib.decDigits n).length≤10:=by
 rw[Lib.decDigits_length];by_cases h1:n<10
 ·rw[Lib.nDigits_small h1];omega
 rw[Lib.nDigits_big h1];by_cases h2:n / 10<10
 ·rw[Lib.nDigits_small h2];omega
 rw[Lib.nDigits_big h2];by_cases h3:n / 10 / 10<10
 ·rw[Lib.nDigits_small h3];omega
 rw[Lib.nDigits_big h3];by_cases h4:n / 10 / 10 / 10<10
 ·rw[Lib.nDigits_small h4];omega
 rw[Lib.nDigits_big h4];by_cases h5:n / 10 / 10 / 10 / 10<10
 ·rw[Lib.nDigits_small h5];omega
 rw[Lib.nDigits_big h5];by_cases h6:n / 10 / 10 / 10 / 10 / 10<10
 ·rw[Lib.nDigits_small h6];omega
 rw[Lib.nDigits_big h6];by_cases h7:n / 10 / 10 / 10 / 10 / 10 / 10<10
 ·rw[Lib.nDigits_small h7];omega
 rw[Lib.nDigits_big h7];by_cases h8:n / 10 / 10 / 10 / 10 / 10 / 10 / 10<10
 ·rw[Lib.nDigits_small h8];omega
 rw[Lib.nDigits_big h8];by_cases h9:n / 10 / 10 / 10 / 10 / 10 / 10 / 10 / 10<10
 ·rw[Lib.nDigits_small h9];omega
 rw[Lib.nDigits_big h9];rw[Lib.nDigits_small (by omega)];omega
namespace Mf
-- A manifest: what is good, its bytes.
def incr:Int→List Int→Bool
 | _,[]=>true
 | last,n::r=>decide (last<n)&&(decide (n≤2147483647)&&incr n r)
def good (v:Int) (l:List Int):Bool:=(decide (1≤v)&&decide (v≤2147483647))&&((decide (1≤l.length)&&decide (l.length≤32))&&incr 0 l)
def pay (ns:List Int):List UInt8:=ns.flatMap λn=>Lib.itoa n++[10]
def enc (v:Int) (l:List Int):List UInt8:=Fr.bytes 9 (pay (v::l))
theorem FN:∀{l:List Int} {last:Int},0≤last→incr last l=true→∀n∈l,1≤n∧n≤2147483647
 | [],_,_,_,n,hn=>by cases hn
 | x::r,last,h0,h,n,hn=>by
  rw[incr]at h;simp only[ZA,decide_eq_true_eq]at h;rcases List.mem_cons.1 hn with rfl|hn
  ·omega
  ·exact FN (by omega) h.2.2 n hn
theorem good_out {v:Int} {l:List Int} (h:good v l=true):(1≤v∧v≤2147483647)∧(1≤l.length∧l.length≤32)∧incr 0 l=true:=by
 unfold good at h;simp only[ZA,decide_eq_true_eq]at h;exact⟨h.1,h.2.1,h.2.2⟩
theorem good_all {v:Int} {l:List Int} (h:good v l=true):∀n∈v::l,1≤n∧n≤2147483647:=by
 obtain⟨o,-,A⟩:=good_out h;intro n hn;rcases List.mem_cons.1 hn with rfl|hn
 ·exact o
 ·exact FN (by omega) A n hn
theorem Dq {n:Int} (h:1≤n):Lib.itoa n=Lib.decDigits n.toNat:=by
 have:=Lib.itoa_nonneg n.toNat
 rwa [show ((n.toNat:Nat):Int)=n by omega]at this
theorem FD:∀{l:List Int},(∀n∈l,1≤n∧n≤2147483647)→(pay l).length≤22*l.length
 | [],_=>QM _
 | x::r,h=>by
  have:=FD (l:=r) (λn hn=>h n (by simp[hn]));have o:=h x (by simp);have:=Lib.itoa_length_le x (by omega) (by omega);unfold pay at *;rw[List.flatMap_cons,QS,QS,List.length_singleton,QO];omega
theorem enc_ok {v:Int} {l:List Int} (h:good v l=true):Fr.encE 9 (pay (v::l))=0:=by
 have o:=FD (good_all h);have A:=(good_out h).2.1;unfold Fr.encE;rw[if_neg (by omega),if_neg (by rw[QO]at o;omega)]
-- Read back: by the library's parts.
def lines (p:List UInt8):List (List UInt8):=Lib.splitK [10] 0 (p.count 10) p
def nums:List (List UInt8)→Option (List Int)
 | []=>some []
 | x::r=>match Lib.atoiAll x with
  | .ok n=>(nums r).map (n::·)
  | _=>none
def fit (b:List UInt8):List Int→Option (Int×List Int)
 | []=>none
 | v::l=>if good v l=true∧enc v l=b then some (v,l) else none
def read (b:List UInt8):Option (Int×List Int) :=
 if Fr.decE b≠0∨Fr.kind b≠9 then none else (nums (lines (Lib.trimSuffix (Fr.pay b) [10]))).bind (fit b)
theorem Fl (x y:List UInt8) (r:List (List UInt8)) (sep:List UInt8):Lib.join (x::y::r) sep=x++(sep++Lib.join (y::r) sep):=by
 simp[Lib.join,List.intercalate]
theorem index_line (x r:List UInt8) (h:(10:UInt8) ∉ x):Lib.index (x++10::r) [10]=(x.length:Nat):=by
 apply Lib.index_first
 ·simp
 ·simp[Lib.occAt,List.isPrefixOf]
 ·intro j hj;unfold Lib.occAt;have A:(x++10::r).drop j=x[j]'hj::(x.drop (j+1)++10::r):=by
   rw[List.drop_append_of_le_length (by omega),List.drop_eq_getElem_cons hj];rfl
  rw[A];have o:(10:UInt8)≠x[j]'hj:=λe=>h (e▸List.getElem_mem hj)
  simp[List.isPrefixOf,o]
theorem EW:∀(x:List UInt8) (r:List (List UInt8)),(∀l∈x::r,(10:UInt8) ∉ l)→lines (Lib.join (x::r) [10])=x::r
 | x,[],h=>by
  unfold lines;rw[Lib.join_one,List.count_eq_zero_of_not_mem (h x (by simp))];rfl
 | x,y::r,h=>by
  have A:=h x (by simp);have o:=EW y r (λl hl=>h l (by simp at hl ⊢;exact .inr hl));unfold lines at o ⊢;rw[Fl];show Lib.splitK [10] 0 ((x++10::Lib.join (y::r) [10]).count 10) (x++10::Lib.join (y::r) [10])=_;have D:(x++10::Lib.join (y::r) [10]).count 10=(Lib.join (y::r) [10]).count 10+1:=by
   rw[List.count_append,List.count_eq_zero_of_not_mem A,List.count_cons_self];omega
  rw[D,Lib.splitK,index_line x _ A,if_neg (by simp)];have C:((x.length:Nat):Int).toNat=x.length:=by omega
  rw[C];have B:(x++10::Lib.join (y::r) [10]).drop (x.length+([10]:List UInt8).length)=Lib.join (y::r) [10]:=by
   rw[← List.drop_drop,List.drop_left];rfl
  rw[B,o];simp
theorem Fu:∀(x:Int) (r:List Int),pay (x::r)=Lib.join ((x::r).map Lib.itoa) [10]++[10]
 | x,[]=>by simp[pay,Lib.join_one]
 | x,y::r=>by
  have:=Fu y r;unfold pay at this ⊢;rw[List.flatMap_cons,this,show (x::y::r).map Lib.itoa=Lib.itoa x::Lib.itoa y::r.map Lib.itoa from rfl,Fl];simp
theorem IQ (x:Int) (r:List Int):Lib.trimSuffix (pay (x::r)) [10]=Lib.join ((x::r).map Lib.itoa) [10]:=by
 rw[Fu];unfold Lib.trimSuffix;rw[if_pos (by simp[Lib.hasSuffix,List.isSuffixOf])];simp
theorem FM {c:UInt8} (h:Sg.isDig c=true):c≠10:=by
 intro e;rw[e]at h;revert h;decide
theorem G8 {n:Int} (h:1≤n):(10:UInt8) ∉ Lib.itoa n:=by
 rw[Dq h];intro hm;have:=List.all_eq_true.1 (Sg.dval_dec n.toNat 0).2 10 hm;exact FM this rfl
theorem Er:∀{l:List Int},(∀n∈l,1≤n∧n≤2147483647)→nums (l.map Lib.itoa)=some l
 | [],_=>rfl
 | x::r,h=>by
  have o:=h x (by simp);have A:=Er (l:=r) (λn hn=>h n (by simp[hn]));rw[ZP,nums,Dq o.1,Sg.atoi_dec x.toNat (by omega),A];show some (((x.toNat:Nat):Int)::r)=_;rw[show ((x.toNat:Nat):Int)=x by omega]
theorem Fw {b:List UInt8} {ns:List Int} {v:Int} {l:List Int} (h:fit b ns=some (v,l)):good v l=true∧enc v l=b∧ns=v::l:=by
 cases ns with
 | nil=>cases h
 | cons x r =>
  rw[fit]at h;split at h
  ·rename_i hc;obtain⟨rfl,rfl⟩:x=v∧r=l:=by simpa using h
   exact⟨hc.1,hc.2,rfl⟩
  ·cases h
theorem G0 {b:List UInt8} {v:Int} {l:List Int} (h:read b=some (v,l)):good v l=true∧enc v l=b:=by
 unfold read at h;split at h
 ·cases h
 ·cases hn:nums (lines (Lib.trimSuffix (Fr.pay b) [10])) with
  | none=>rw[hn]at h;cases h
  | some ns =>
   rw[hn]at h;have:=Fw (show fit b ns=some (v,l) from h);exact⟨this.1,this.2.1⟩
theorem FW {v:Int} {l:List Int} (h:good v l=true):fit (enc v l) (v::l)=some (v,l):=by
 rw[fit,if_pos ⟨h,rfl⟩]
theorem ET {l:List Int} {v:Int} (h:∀n∈v::l,1≤n∧n≤2147483647):lines (Lib.join ((v::l).map Lib.itoa) [10])=(v::l).map Lib.itoa:=by
 rw[ZP];refine EW _ _ (λx hx=>?_);rw[← ZP (f:=Lib.itoa)]at hx;obtain⟨n,o,rfl⟩:=List.mem_map.1 hx;exact G8 (h n o).1
theorem FT {v:Int} {l:List Int} (h:good v l=true):read (enc v l)=some (v,l):=by
 have A:=Fr.dec_bytes (enc_ok h);have o:Fr.kind (enc v l)=9:=Fr.kind_bytes (by decide);have B:Fr.pay (enc v l)=pay (v::l):=Fr.pay_bytes;unfold read;rw[if_neg (by rw[o];intro hc;rcases hc with hc|hc;exact hc A.1;exact hc rfl),B,IQ,ET (good_all h),Er (good_all h)];exact FW h
-- Read back: by the reference.
def scan:Nat→Nat→List Int→List UInt8→Option (List Int)
 | _,_,acc,[]=>some acc
 | n,d,acc,c::r=>if c.toNat=10 then scan 0 0 (acc++[(n:Int)]) r else if Sg.isDig c=false∨9<d then none else scan (n*10+(c.toNat-48)) (d+1) acc r
def refRead (b:List UInt8):Option (Int×List Int) :=
 if Fr.decE b≠0∨Fr.kind b≠9 then none else (scan 0 0 [] (Fr.pay b)).bind λns=>if ns.length<2 then none else fit b ns
theorem Db:∀(x:List UInt8) (n d:Nat) (acc:List Int) (r:List UInt8),x.all Sg.isDig=true→d+x.length≤10→scan n d acc (x++r)=scan (x.foldl (λn c=>n*10+(c.toNat-48)) n) (d+x.length) acc r
 | [],n,d,acc,r,_,_=>rfl
 | c::x,n,d,acc,r,h,hd=>by
  rw[List.all_cons,ZA]at h;rw[QO]at hd;rw[List.cons_append,scan,if_neg (λe=>FM h.1 (UInt8.toNat_inj.1 (by rw[e];rfl))),if_neg (by rw[h.1];intro hc;rcases hc with hc|hc;cases hc;omega),Db x _ _ acc r h.2 (by omega),List.foldl_cons,QO]
  congr 1;omega
theorem Fb:∀(l acc:List Int),(∀n∈l,1≤n∧n≤2147483647)→scan 0 0 acc (pay l)=some (acc++l)
 | [],acc,_=>by show some acc=_;rw[List.append_nil]
 | x::r,acc,h=>by
  have C:=h x (by simp);have A:=Fb r (acc++[x]) (λn hn=>h n (by simp[hn]));obtain⟨B,o⟩:=Sg.dval_dec x.toNat 0;have D:=Sg.dec_len x.toNat (by omega);have e:pay (x::r)=Lib.decDigits x.toNat++(10::pay r):=by
   unfold pay;rw[List.flatMap_cons,Dq C.1];simp
  rw[e,Db _ 0 0 acc _ o (by omega),B,scan,if_pos (by decide),Nat.zero_mul,Nat.zero_add,show ((x.toNat:Nat):Int)=x by omega,A];simp
theorem Fa {v:Int} {l:List Int} (h:good v l=true):refRead (enc v l)=some (v,l):=by
 have A:=Fr.dec_bytes (enc_ok h);have o:Fr.kind (enc v l)=9:=Fr.kind_bytes (by decide);have B:Fr.pay (enc v l)=pay (v::l):=Fr.pay_bytes;have C:=(good_out h).2.1;unfold refRead;rw[if_neg (by rw[o];intro hc;rcases hc with hc|hc;exact hc A.1;exact hc rfl),B,Fb _ [] (good_all h)];show (if (v::l).length<2 then none else fit (enc v l) (v::l))=_;rw[if_neg (by rw[QO];omega),FW h]
theorem refRead_some {b:List UInt8} {v:Int} {l:List Int} (h:refRead b=some (v,l)):good v l=true∧enc v l=b:=by
 unfold refRead at h;split at h
 ·cases h
 ·cases hn:scan 0 0 [] (Fr.pay b) with
  | none=>rw[hn]at h;cases h
  | some ns =>
   rw[hn]at h;have h:(if ns.length<2 then none else fit b ns)=some (v,l):=h;split at h
   ·cases h
   ·have:=Fw h;exact⟨this.1,this.2.1⟩
theorem read_ref (b:List UInt8):read b=refRead b:=by
 cases h1:read b with
 | some m =>
  obtain⟨v,l⟩:=m;obtain⟨hg,o⟩:=G0 h1;rw[← o,Fa hg]
 | none =>
  cases h2:refRead b with
  | none=>rfl
  | some m =>
   obtain⟨v,l⟩:=m;obtain⟨hg,o⟩:=refRead_some h2;rw[← o,FT hg]at h1;cases h1
end Mf
namespace Fs
def first:List (St→St×Int)→St→St×Int
 | [],st=>(st,0)
 | f::r,st=>if (f st).2≠0 then f st else first r (f st).1
theorem first_ok {f:St→St×Int} {r:List (St→St×Int)} {st st':St} (h:f st=(st',0)):first (f::r) st=first r st':=by
 rw[first,h,if_neg (by simp)]
end Fs
namespace Mf
def final:List UInt8:=[109,97,110,105,102,101,115,116]
def draft:List UInt8:=[109,97,110,105,102,101,115,116,46,116,109,112]
def clear (st:Fs.St):Fs.St×Int:=if Fs.mhas st.dir draft then Fs.remove st draft else (st,0)
def steps (b:List UInt8):List (Fs.St→Fs.St×Int) :=
 [clear,λst=>Fs.create st draft,λst=>Fs.append st draft b,λst=>Fs.sync st draft,λst=>Fs.rename st draft final,Fs.syncDir]
def save (st:Fs.St) (v:Int) (l:List Int):Fs.St×Int:=if good v l=false then (st,1) else Fs.first (steps (enc v l)) st
def load (st:Fs.St):(Int×List Int)×Int :=
 if Fs.openE st final≠0 then ((0,[]),Fs.openE st final) else match read (Fs.fileAt st final) with
  | some m=>(m,0)
  | none=>((0,[]),2)
theorem Bo:Fs.good final=true:=by decide
theorem BB:Fs.good draft=true:=by decide
theorem enc_len {v:Int} {l:List Int} (h:good v l=true):(enc v l).length≤800:=by
 have o:=FD (good_all h);have A:=(good_out h).2.1;rw[QO]at o;unfold enc;rw[Fr.bytes_len];omega
theorem load_look {st:Fs.St} {v:Int} {l:List Int} (h:good v l=true) (hf:Fs.look st final=some (enc v l)):load st=((v,l),0):=by
 obtain⟨A,o⟩:=Fs.look_some hf;unfold load;rw[if_neg (by rw[Fs.openE_of Bo A];simp),o,FT h]
theorem load_none {st:Fs.St} (hf:Fs.look st final=none):load st=((0,[]),3):=by
 have o:=Fs.look_none hf;have:Fs.openE st final=3:=by unfold Fs.openE;rw[if_neg (by rw[Bo];simp),if_pos o]
 unfold load;rw[this,if_pos (by simp)]
theorem save_calm {st:Fs.St} (hc:Fs.Calm st) (hi:Fs.Inv st) {v:Int} {l:List Int} (hg:good v l=true) (hd:st.dir.length<64) {M:Nat} (hM:∀n b,Fs.look st n=some b→b.length≤M)
  (hr:((st.dir.length+1)*M+800:Nat)≤st.room) (hfl:∀f∈st.files,f.1.length≤65536) :
  (save st v l).2=0∧Fs.Next st (save st v l).1 3∧(save st v l).1.dir.length≤st.dir.length+1∧(Fs.mhas st.dir final=true→(save st v l).1.dir.length≤st.dir.length) ∧
   (∀f∈(save st v l).1.files,f.1.length≤65536)∧∀m,Fs.look (save st v l).1 m=if m=final then some (enc v l) else if m=draft then none else Fs.look st m:=by
 have aq:=enc_len hg;have W:save st v l=Fs.first (steps (enc v l)) st:=by unfold save;rw[if_neg (by rw[hg];simp)]
 rw[W];clear W;have A:¬final=draft:=by decide
 obtain⟨o,Z,B,d1,ap,g1,f1,L⟩:∃o,clear st=(o,0)∧Fs.Next st o 1∧o.dir.length≤st.dir.length∧o.dir.length+1≤64∧(Fs.mhas o.dir final=Fs.mhas st.dir final)∧o.files=st.files∧∀m,Fs.look o m=if m=draft then none else Fs.look st m:=by
  cases hh:Fs.mhas st.dir draft
  ·refine⟨st,by unfold clear;rw[hh];rfl,⟨hc,hi,rfl,Nat.le_succ _,Nat.le_succ _⟩,QM _,hd,rfl,rfl,λm=>?_⟩;by_cases hm:m=draft
   ·rw[if_pos hm,hm];unfold Fs.look;rw[hh];rfl
   ·rw[if_neg hm]
  ·obtain⟨h1,Y,S,N,V⟩:=Fs.calm_remove hc hi BB hh;refine⟨(Fs.remove st draft).1,by unfold clear;rw[if_pos hh];exact Prod.ext rfl h1,Y,by rw[S];exact Fs.mdel_len _ _,by rw[S];have:=Fs.mdel_len st.dir draft;omega,?_,N,V⟩;rw[S,Fs.mhas_mdel,decide_eq_false A];rfl
 have H:Fs.mhas o.dir draft=false:=Fs.look_none (by rw[L,if_pos rfl]);obtain⟨c1,E,G,O⟩:=Fs.calm_create B.calm B.inv BB H (by omega);have f2:(Fs.create o draft).1.files=o.files++[([],0)]:=by
  unfold Fs.create;rw[if_neg (by rw[BB];simp),if_neg (by rw[H];simp),if_neg (by omega),if_neg (by rw[Fs.step_calm B.calm];simp)]
 have e2:(λst=>Fs.create st draft) o=((Fs.create o draft).1,0):=Prod.ext rfl c1
 generalize hs2:(Fs.create o draft).1=s2 at *
 have u2:Fs.used s2≤s2.dir.length*M:=Fs.used_look E.inv (λn b hb=>by
  rw[O]at hb;by_cases hn:n=draft
  ·rw[if_pos hn]at hb;simp at hb;subst hb;exact ZS _
  ·rw[if_neg hn,L,if_neg hn]at hb;exact hM n b hb)
 have aa:s2.dir.length*M≤(st.dir.length+1)*M:=Nat.mul_le_mul_right M (by omega);obtain⟨c3,T,I,⟨i3,f3⟩,K⟩:=Fs.calm_append (b:=enc v l) E.calm E.inv BB (old:=[]) (by rw[O,if_pos rfl]) (by simp;omega) (by have N:=E.room;have V:=B.room;omega);have e3:(λst=>Fs.append st draft (enc v l)) s2=((Fs.append s2 draft (enc v l)).1,0):=Prod.ext rfl c3
 generalize hs3:(Fs.append s2 draft (enc v l)).1=s3 at *
 obtain⟨c4,P,J,⟨i4,f4⟩,R⟩:=Fs.calm_sync T.calm T.inv BB (old:=[]++enc v l) (by rw[K,if_pos rfl]);have e4:(λst=>Fs.sync st draft) s3=((Fs.sync s3 draft).1,0):=Prod.ext rfl c4
 generalize hs4:(Fs.sync s3 draft).1=s4 at *
 obtain⟨c5,U,Q,C,X,k5⟩:=Fs.calm_rename (nt:=final) P.calm P.inv BB Bo (by decide) (old:=[]++enc v l) (by rw[R,K,if_pos rfl]);have e5:(λst=>Fs.rename st draft final) s4=((Fs.rename s4 draft final).1,0):=Prod.ext rfl c5
 generalize hs5:(Fs.rename s4 draft final).1=s5 at *
 obtain⟨c6,n6,D,f6,k6⟩:=Fs.calm_syncDir U.calm U.inv;have e6:Fs.syncDir s5=((Fs.syncDir s5).1,0):=Prod.ext rfl c6
 generalize hs6:(Fs.syncDir s5).1=s6 at *
 have F:Fs.first (steps (enc v l)) st=(s6,0):=by
  unfold steps;rw[Fs.first_ok Z,Fs.first_ok e2,Fs.first_ok e3,Fs.first_ok e4,Fs.first_ok e5,Fs.first_ok e6,Fs.first]
 rw[F];refine⟨rfl,((((((B.trans E).trans T).trans P).trans U).trans n6):_),?_,?_,?_,?_⟩
 ·show s6.dir.length≤_;rw[D];rw[J,I,G]at Q;omega
 ·intro hf;show s6.dir.length≤_;have N:Fs.mhas s4.dir final=true:=by
   have:(Fs.look s4 final).isSome:=by
    rw[R,K,if_neg A,O,if_neg A,L,if_neg A];unfold Fs.look;rw[if_pos hf];rfl
   cases hx:Fs.mhas s4.dir final
   ·unfold Fs.look at this;rw[hx]at this;cases this
   ·rfl
  have:=C N;rw[D];rw[J,I,G]at this;omega
 ·show ∀f∈s6.files,_;rw[f6,X,f4,f3,f2,f1];intro f hf;rcases List.mem_or_eq_of_mem_set hf with hf|rfl
  ·rcases List.mem_or_eq_of_mem_set hf with hf|rfl
   ·rcases List.mem_append.1 hf with hf|hf
    ·exact hfl f hf
    ·simp at hf;subst hf;exact ZS _
   ·show ([]++enc v l).length≤_;simp;omega
  ·show ([]++enc v l).length≤_;simp;omega
 ·intro m;show Fs.look s6 m=_;rw[k6,k5];by_cases hm:m=final
  ·rw[if_pos hm,if_pos hm];rfl
  ·rw[if_neg hm,if_neg hm];by_cases hd2:m=draft
   ·rw[if_pos hd2,if_pos hd2]
   ·rw[if_neg hd2,if_neg hd2,R,K,if_neg hd2,O,if_neg hd2,L,if_neg hd2]
end Mf
end Go.Proofs.YtmlekglfdiacpaaGreatDoor
