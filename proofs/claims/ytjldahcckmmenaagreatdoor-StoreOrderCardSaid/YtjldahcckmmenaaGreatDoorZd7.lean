/-
  Frames: Decode, walked. Frames: Scan, walked. Bytes that came in. Segments: names; what the library's variables hold. Bytes turned to strings. Segments: whose name a text is. Segments: the program's ID, walked; it is the document's. Segments: the program's ID is the document's (no program in sight). What an operation of the file system leaves; sizes within reach. A slice of ints. The file system in calm weather: what its files hold (no program in sight).
-/
import Derived.Test.YtjldahcckmmenaaGreatDoorZd6
import Derived.Test.YtjldahcckmmenaaGreatDoorZd2
import Derived.Deep.RegionHeld3
import Derived.ChangeSlices
import Derived.WalkKit
import Derived.ProofKit
import Derived.OpenShut
import Derived.Lib.ItoaMem
import Derived.Lib.ItoaLen
import Derived.Lib.AppendIntMem
import Derived.Lib.SmallJoins
import Derived.WalkSmall
import Derived.Laws.IdiomStrings
import Derived.Laws.BytesArg
open Bool renaming and_eq_true → ZA
open Go.Lib renaming hid → QA
open List renaming length_cons → QO, length_append → QS, length_drop → QY, mem_of_getElem? → QZ, getElem?_map → ZF, getElem?_eq_getElem → ZG, getElem?_append_left → ZL, map_cons → ZP, map_append → ZQ, all_cons → ZV
open Nat renaming le_refl → QM, lt_of_lt_of_le → ZT, lt_or_ge → ZU
namespace Go.Proofs.YtjldahcckmmenaaGreatDoor
set_option maxRecDepth 100000
set_option maxHeartbeats 4000000
set_option linter.unusedSimpArgs false
set_option linter.unusedVariables false
open Go Go.RowKit
open Go.Maps Go.WideMaps
namespace Fr
def pay (l:List UInt8):List UInt8:=(l.drop 5).take (l.length-9)
def body (l:List UInt8):List UInt8:=(l.drop 4).take (l.length-8)
def kind (l:List UInt8):Int:=((l.getD 4 0).toNat:Int)
def decE (l:List UInt8):Int :=
 if l.length<9∨8192<l.length-9∨num l≠l.length-9 then 2
 else if kind l<1∨9<kind l then 1
 else if sum (body l)≠num (l.drop (l.length-4)) then 6
 else 0
end Fr
theorem AZ.part {w:World} {g o n cap:Nat} {l:List UInt8} (h:AZ w (.slice (some ⟨g,o,none⟩) n cap) l) (lo hi cap2:Nat) (hlo:lo≤hi) (hhi:hi≤l.length) (hc:hi-lo≤cap2) (a:Option Addr) (ha:a=some ⟨g,o+lo,none⟩∨(hi=lo∧a≠none)) :
  AZ w (.slice a (hi-lo) cap2) ((l.drop lo).take (hi-lo)):=by
 have A:((l.drop lo).take (hi-lo)).length=hi-lo:=by simp;omega
 refine⟨a,cap2,by rw[A],by rw[A];exact hc,λe=>?_,λi x hx=>?_⟩
 ·rcases ha with ha|ha
  ·rw[ha]at e;cases e
  ·exact absurd e ha.2
 ·have B:i<hi-lo:=by have:=(List.getElem?_eq_some_iff.1 hx).1;omega
  rw[List.getElem?_take,if_pos B,List.getElem?_drop]at hx;obtain⟨b,C,F,D,E⟩:=h.at hx;cases F;rcases ha with ha|ha
  ·exact⟨g,o+lo,ha,D,by rw[Nat.add_assoc];exact E⟩
  ·omega
def KL (l:List UInt8) (w:World) (e:Ending) (w':World):Prop :=
 Below w.heap.size w w'∧((Fr.decE l=0∧∃v,e=.returned (.tuple #[.agg #[.int .i64 (Fr.kind l),v],.int .i64 0])∧Ag w' w.heap.size v (Fr.pay l)) ∨
  (Fr.decE l≠0∧e=.returned (.tuple #[.agg #[.int .i64 0,.slice none 0 0],.int .i64 (Fr.decE l)])))
theorem KC (g o n c:Nat) (l:List UInt8) (w:World) (h:AZ w (.slice (some ⟨g,o,none⟩) n c) l) (hn:n=l.length) (hl:l.length≤1000000000) :
  Calls Tryz.prog 40 #[.slice (some ⟨g,o,none⟩) n c] w λe w'=>∃v',e=.returned v'∧Ag w' w.heap.size v' l∧Below w.heap.size w w':=by
 subst hn;obtain⟨G,F,C,B,A⟩:=info_parts Ey;refine (AnyE.slices_Clone Bp G (.int .u8 0) 1 1 F C B A rfl (by decide) (λw=>Tryz.sizeOf5 w) g o l.length c (AV l) w (by rw[BP];omega) (by unfold maxLen;omega) (by omega) ?_ (BS l)).mono ?_
 ·intro j u hj;unfold AV at hj;rw[ZF]at hj;cases hx:l[j]? with
  | none=>rw[hx]at hj;cases hj
  | some y =>
   rw[hx]at hj;simp at hj;obtain⟨b,D,H,I,E⟩:=h.at hx;cases H;rw[← hj];exact E
 ·rintro e w' ⟨v',rfl,h3,_,h4⟩;exact⟨v',rfl,h3,h4⟩
theorem LN {w w':World} (h:Below w.heap.size w w') (o:Obj):Below w.heap.size w (w'.alloc o):=h.alloc h.size o
theorem EX (v:Value) (l:List UInt8) (w:World) (hV:AZ w v l) (hl:l.length≤1000000000) :
  Calls Tryz.prog 100 #[v] w (KL l w):=by
 obtain⟨va,G,rfl,E⟩:=hV.form;have ax:(0:Int)≤(l.length:Int):=Int.natCast_nonneg _;have aq:(l.length:Int)≤1000000000:=by omega
 by_cases h9:l.length<9
 ·have A:Hid (Fr.decE l=2):=by unfold Fr.decE;rw[if_pos (.inl h9)];exact QA rfl
  have h1:(l.length:Int)-9<0:=by omega
  clear E hV;go_enter Tryz.func100,Tryz.ntmps100;go_wp2_with fail;refine bodyPost_ret (v:=.tuple #[.agg #[.int .i64 0,.slice none 0 0],.int .i64 2]) (by simp[results,Tryz.results100,go_sem]) rfl ?_;exact⟨(Below.refl _ _).alloc (QM _) _,.inr ⟨by rw[A.out];decide,by rw[A.out]⟩⟩
 ·obtain⟨m,hm⟩:∃m,l.length=m+9:=⟨l.length-9,by omega⟩
  have a4:(0:Int)≤(m:Int):=Int.natCast_nonneg _;have a0:(m:Int)≤1000000000:=by omega
  have C:=QA hm;rw[hm]at hV E ⊢;clear h9 ax aq hm;by_cases hbig:8192<m
  ·have A:Hid (Fr.decE l=2):=by
    unfold Fr.decE;have:=C.out;rw[if_pos (.inr (.inl (by omega)))];exact QA rfl
   have h2:8192<(m:Int):=by omega
   clear E hV;go_enter Tryz.func100,Tryz.ntmps100;go_wp2_with fail;refine bodyPost_ret (v:=.tuple #[.agg #[.int .i64 0,.slice none 0 0],.int .i64 2]) (by simp[results,Tryz.results100,go_sem]) rfl ?_;exact⟨(Below.refl _ _).alloc (QM _) _,.inr ⟨by rw[A.out];decide,by rw[A.out]⟩⟩
  ·have h2:(m:Int)≤8192:=by omega
   have h3:(m:Int) % 4294967296=(m:Int):=by omega
   have HV:=QA (hV.below ((Below.refl w.heap.size w).alloc (QM _) (.cells #[.int .i64 0,.slice none 0 0] 112)));have P:=QA E;clear E hV hbig;go_enter Tryz.func100,Tryz.ntmps100;go_wp2_with fail;refine (Cv _ l _ HV.out (by have:=C.out;omega) (by have:=C.out;omega)).mono ?_;rintro e w1 ⟨rfl,n1,rfl⟩;have hr:=AK w (.cells #[.int .i64 0,.slice none 0 0] 112);have F:((w.alloc (.cells #[.int .i64 0,.slice none 0 0] 112)).drewN n1).heap[w.heap.size]?=some (.cells #[.int .i64 0,.slice none 0 0] 112 (0,0)):=hr;have B:Below w.heap.size w ((w.alloc (.cells #[.int .i64 0,.slice none 0 0] 112)).drewN n1):=Below.drewN ((Below.refl _ _).alloc (QM _) _) n1;have L:AZ ((w.alloc (.cells #[.int .i64 0,.slice none 0 0] 112)).drewN n1) (.slice va (m+9) G) l:=HV.out.keep (QM _) (λ_ _=>rfl)
   generalize ((w.alloc (.cells #[.int .i64 0,.slice none 0 0] 112)).drewN n1)=w1 at F B L ⊢
   obtain⟨J,M⟩:∃x,l[4]?=some x:=⟨_,ZG (by have:=C.out;omega)⟩
   obtain⟨g,o,rfl,hg,aC⟩:=L.at M;have HK:Hid (Fr.kind l=(J.toNat:Int)):=by
    unfold Fr.kind;rw[List.getD_eq_getElem?_getD,M];exact QA rfl
   have U:=QA L;have aa:=QA F;have T:w1.cell? ⟨w.heap.size,0,none⟩=some (.int .i64 0):=AA F 0 _ rfl;have Q:w1.cell? ⟨w.heap.size,1,none⟩=some (.slice none 0 0):=AA F 1 _ rfl;have V:=AE F 0;have X:=AE F 1;clear hr F L M HV;by_cases hnum:(Fr.num l:Int)=(m:Int)
   ·have ht:((Fr.num l:Int) != (m:Int))=false:=by rw[hnum];simp
    have ab:(Fr.num l != m)=false:=by rw[Int.ofNat_inj.1 hnum];simp
    have I:=QA hnum;clear hnum;have aQ:(0:Int)≤(J.toNat:Int):=Int.natCast_nonneg _;have aP:(J.toNat:Int)≤255:=by have:J.toNat<256:=UInt8.toNat_lt _;omega
    by_cases hkind:(J.toNat:Int)<1∨9<(J.toNat:Int)
    ·have A:Hid (Fr.decE l=1):=by
      unfold Fr.decE;have e1:=I.out;have e2:=C.out;rw[HK.out,if_neg (by omega),if_pos hkind];exact QA rfl
     rcases hkind with hk|hk
     ·go_wp2_with fail;refine bodyPost_ret (v:=.tuple #[.agg #[.int .i64 0,.slice none 0 0],.int .i64 1]) (by simp[results,Tryz.results100,go_sem,T,Q,V,X]) rfl ?_;exact⟨(B.setCell (p:=⟨w.heap.size,0,none⟩) (QM _) _).setCell (p:=⟨w.heap.size,1,none⟩) (QM _) _,.inr ⟨by rw[A.out];decide,by rw[A.out]⟩⟩
     ·have aA:(1:Int)≤(J.toNat:Int):=by omega
      go_wp2_with fail;refine bodyPost_ret (v:=.tuple #[.agg #[.int .i64 0,.slice none 0 0],.int .i64 1]) (by simp[results,Tryz.results100,go_sem,T,Q,V,X]) rfl ?_;exact⟨(B.setCell (p:=⟨w.heap.size,0,none⟩) (QM _) _).setCell (p:=⟨w.heap.size,1,none⟩) (QM _) _,.inr ⟨by rw[A.out];decide,by rw[A.out]⟩⟩
    ·have aM:1≤(J.toNat:Int):=by omega
     have aA:(J.toNat:Int)≤9:=by omega
     have ae:=QA hkind;clear hkind;go_wp2_with fail;have E:=P.out;have a2:(5:Int)+(m:Int)≤(G:Int):=by omega
     have aS:(0:Int)≤(5:Int)+(m:Int):=by omega
     have aT:(4:Int)≤(5:Int)+(m:Int):=by omega
     have aY:((5:Int)+(m:Int)).toNat=5+m:=by omega
     have aV:G≠4:=by omega
     have a5:G≠5+m:=by omega
     have aW:(5:Int)+(m:Int)≤(m:Int)+9:=by omega
     have a7:IntKind.i64.wrap ((5:Int)+(m:Int))=5+(m:Int):=by rw[IntKind.wrap_i64];omega
     have aX:(4:Int).toNat=4:=rfl;clear E;have hS:Below w1.heap.size w1 w1.drew:=⟨rfl,rfl,rfl,QM _,λ_ _=>rfl⟩
     have S:Hid ((l.drop 4).take (5+m-4)=Fr.body l):=by
      unfold Fr.body;have:=C.out;rw[show l.length-8=5+m-4 by omega];exact QA rfl
     have O:Hid ((l.drop (5+m)).take (m+9-(5+m))=l.drop (l.length-4)):=by
      have:=C.out;rw[List.take_of_length_le (by rw[QY];omega),show l.length-4=5+m by omega];exact QA rfl
     have N:AZ w1 (.slice (some ⟨g,o+4,none⟩) (5+m-4) (G-4)) (Fr.body l):=by
      rw[← S.out];exact U.out.part 4 (5+m) (G-4) (by omega) (by have:=C.out;omega) (by omega) _ (.inl rfl)
     have ar:Hid (AZ w1 (.slice (some ⟨g,o+(5+m),none⟩) (m+9-(5+m)) (G-(5+m))) (l.drop (l.length-4))):=by
      rw[← O.out];exact QA (U.out.part (5+m) (m+9) (G-(5+m)) (by omega) (by have:=C.out;omega) (by have:=P.out;omega) _ (.inl rfl))
     have av:Hid (CC (w1.alloc (.cells #[.slice (some ⟨g,o+4,none⟩) (5+m-4) (G-4)] 41)).drew (.slice (some ⟨w1.heap.size,0,none⟩) 1 1) [Fr.body l]) :=
      QA ((Ep 41 N).keep (QM _) (λ_ _=>rfl))
     have aJ:=QA N;have az:Hid (∀q∈[Fr.body l],q.length≤1000000000):=by
      refine QA λq Y=>?_
      simp at Y;subst Y;unfold Fr.body;simp;omega
     have ai:Hid (Below w1.heap.size w1 (w1.alloc (.cells #[.slice (some ⟨g,o+4,none⟩) (5+m-4) (G-4)] 41)).drew) :=
      QA (((Below.refl _ _).alloc (QM _) _).trans ⟨rfl,rfl,rfl,QM _,λ_ _=>rfl⟩)
     have ad:Hid (4≤(l.drop (l.length-4)).length∧(l.drop (l.length-4)).length≤1000000000):=by
      have:=C.out;refine QA ?_;simp;omega
     clear N
     go_region_held3 (λw'=>Below w1.heap.size w1 w') (first|assumption|exact LN (by assumption) _)
      (first
       | (go_at_call 96;refine (Hq _ [Fr.body l] _ av.out (by simp) az.out).mono ?_;rintro e w2 ⟨rfl,hb2⟩;have ay:=ai.out.trans (hb2.mono ai.out.size);clear hb2)
       | (go_at_call 107;refine (Cv _ (l.drop (l.length-4)) _ (ar.out.below (by assumption)) ad.out.1 ad.out.2).mono ?_;rintro e w3 ⟨rfl,n3,rfl⟩;have W:=Below.drewN ay n3))
     have D:(w2.drewN n3).heap[w.heap.size]?=some (.cells #[.int .i64 0,.slice none 0 0] 112 (0,0)):=by
      rw[W.block _ (AC aa.out)];exact aa.out
     have K:Below w.heap.size w (w2.drewN n3):=B.trans (W.mono B.size);have ac:=QA W;clear T Q V X aC ht ab h3
     generalize w2.drewN n3=w4 at D K ac ⊢
     have R:=QA D;have T:w4.cell? ⟨w.heap.size,0,none⟩=some (.int .i64 0):=AA D 0 _ rfl;have Q:w4.cell? ⟨w.heap.size,1,none⟩=some (.slice none 0 0):=AA D 1 _ rfl;have V:=AE D 0;have X:=AE D 1;have B:=K;clear D;by_cases hsum:Fr.sum (Fr.body l)=Fr.num (l.drop (l.length-4))
     ·have ht:(Fr.sum (Fr.body l) != (Fr.num (l.drop (l.length-4)):Int))=false:=by rw[hsum];simp
      have A:Hid (Fr.decE l=0):=by
       unfold Fr.decE;have e1:=I.out;have e2:=C.out;rw[HK.out,if_neg (by omega),if_neg ae.out,if_neg (by simp[hsum])];exact QA rfl
      clear hsum;have ag:Hid (Fr.pay l=(l.drop 5).take (5+m-5)):=by
       unfold Fr.pay;have:=C.out;rw[show l.length-9=5+m-5 by omega];exact QA rfl
      have aw:Hid (AZ w4 (.slice (some ⟨g,o+5,none⟩) m (G-5)) (Fr.pay l)):=by
       rw[ag.out];have e5:5+m-5=m:=by omega
       have Y:=(U.out.part 5 (5+m) (G-5) (by omega) (by have:=C.out;omega) (by omega) (some ⟨g,o+5,none⟩) (.inl rfl)).below ac.out;rw[e5]at Y ⊢;exact QA Y
      have ak:Hid ((Fr.pay l).length=m):=by
       have:=C.out;unfold Fr.pay;rw[List.length_take,QY];exact QA (by omega)
      have aO:G≠5:=by have:=P.out;omega
      have aE:(5:Int)≤5+(m:Int):=by omega
      have aF:(5:Int).toNat=5:=rfl;go_wp2_with fail;refine (KC g (o+5) m (G-5) (Fr.pay l) w4 aw.out ak.out.symm (by have:=ak.out;omega)).mono ?_;rintro e w5 ⟨v5,rfl,ho5,hb5⟩;obtain⟨ah,aj,Z,au,aU⟩:=Ag.form3 ho5;subst au;have af:=QA ho5;have H:w5.heap[w.heap.size]?=some (.cells #[.int .i64 0,.slice none 0 0] 112 (0,0)):=by
       rw[hb5.block _ (AC R.out)];exact R.out
      have al:Below w.heap.size w w5:=K.trans (hb5.mono K.size);have z0:w5.cell? ⟨w.heap.size,0,none⟩=some (.int .i64 0):=AA H 0 _ rfl;have z1:w5.cell? ⟨w.heap.size,1,none⟩=some (.slice none 0 0):=AA H 1 _ rfl;have g0:=AE H 0;have g1:=AE H 1;have am:w.heap.size<w4.heap.size:=AC R.out;clear H ho5 T Q V X;go_wp2_with fail;refine bodyPost_ret (v:=.tuple #[.agg #[.int .i64 J.toNat,.slice ah aj Z],.int .i64 0]) (by simp[results,Tryz.results100,go_sem,z0,z1,g0,g1]) rfl ?_;refine⟨(al.setCell (p:=⟨w.heap.size,0,none⟩) (QM _) _).setCell (p:=⟨w.heap.size,1,none⟩) (QM _) _,.inl ⟨A.out,.slice ah aj Z,by rw[HK.out],?_⟩⟩;refine AN (af.out.mono (Nat.le_of_lt am)) (λg hg=>?_);have:=(af.out.lt g hg).1;rw[Below.heap_setCell _ _ _ _ (by show g≠w.heap.size;omega),Below.heap_setCell _ _ _ _ (by show g≠w.heap.size;omega)]
     ·have ht:(Fr.sum (Fr.body l) != (Fr.num (l.drop (l.length-4)):Int))=true:=by rw[bne_iff_ne];exact hsum
      have A:Hid (Fr.decE l=6):=by
       unfold Fr.decE;have e1:=I.out;have e2:=C.out;rw[HK.out,if_neg (by omega),if_neg ae.out,if_pos hsum];exact QA rfl
      clear hsum;go_wp2_with fail;refine bodyPost_ret (v:=.tuple #[.agg #[.int .i64 0,.slice none 0 0],.int .i64 6]) (by simp[results,Tryz.results100,go_sem,T,Q,V,X]) rfl ?_;exact⟨(B.setCell (p:=⟨w.heap.size,0,none⟩) (QM _) _).setCell (p:=⟨w.heap.size,1,none⟩) (QM _) _,.inr ⟨by rw[A.out];decide,by rw[A.out]⟩⟩
   ·have ht:((Fr.num l:Int) != (m:Int))=true:=by rw[bne_iff_ne];exact hnum
    have ab:(Fr.num l != m)=true:=by rw[bne_iff_ne];omega
    have A:Hid (Fr.decE l=2):=by
     unfold Fr.decE;have:=C.out;rw[if_pos (.inr (.inr (by omega)))];exact QA rfl
    clear hnum;go_wp2_with fail;refine bodyPost_ret (v:=.tuple #[.agg #[.int .i64 0,.slice none 0 0],.int .i64 2]) (by simp[results,Tryz.results100,go_sem,T,Q,V,X]) rfl ?_;exact⟨(B.setCell (p:=⟨w.heap.size,0,none⟩) (QM _) _).setCell (p:=⟨w.heap.size,1,none⟩) (QM _) _,.inr ⟨by rw[A.out];decide,by rw[A.out]⟩⟩
open Go.Maps Go.WideMaps
namespace Fr
abbrev F:=Int×List UInt8
def stop (l:List UInt8):Bool:=decide (l.length<9)||decide (8192<num l)||decide (l.length-9<num l)||decide (decE (l.take (9+num l))≠0)
def first (l:List UInt8):F:=(kind (l.take (9+num l)),pay (l.take (9+num l)))
def scanGo:Nat→List UInt8→List F→Nat→List F×Nat
 | 0,_,out,a=>(out,a)
 | k+1,l,out,a=>if stop l then (out,a) else scanGo k (l.drop (9+num l)) (out++[first l]) (a+(9+num l))
def scan (l:List UInt8):List F×Nat:=scanGo (l.length+1) l [] 0
end Fr
def Ch (ps:List (Fr.F×Value)):List Value:=ps.flatMap λp=>[.int .i64 p.1.1,p.2]
structure CS (w:World) (base:Nat) (v:Value) (ps:List (Fr.F×Value)):Prop where
 row:w.ownsRow base 112 2 v ps.length (Ch ps)
 pay:∀p∈ps,Ag w base p.2 p.1.2
 apart:∀p∈ps,∀g,p.2.ownBlock=some g→v.ownBlock≠some g
theorem CS.keep {w w':World} {base:Nat} {v:Value} {ps:List (Fr.F×Value)} (h:CS w base v ps) (hb:Below w.heap.size w w'):CS w' base v ps :=
 ⟨AN h.row (λg hg=>hb.block g (h.row.lt g hg).2),λp hp=>(h.pay p hp).keep hb,h.apart⟩
theorem CS.nil (w:World) (base:Nat):CS w base (.slice none 0 0) []:=⟨World.ownsRow_nil _ _ _ _,λp h=>by simp at h,λp h=>by simp at h⟩
theorem LC:(Tryz.prog.info? 112).map (λi=>(i.zero,i.size,i.bytes))=some (some (.agg #[.int .i64 0,.slice none 0 0]),2,32):=by kernel_rfl
theorem CS.more {w w5:World} {base:Nat} {v v' x:Value} {ps:List (Fr.F×Value)} {f:Fr.F} (h:CS w base v ps) (hx:Ag w base x f.2) (hne:∀g,x.ownBlock=some g→v.ownBlock≠some g)
  (hrow:w5.ownsRow base 112 2 v' (ps.length+1) (Ch ps++[.int .i64 f.1,x])) (hg:w.grownBy w5 v.ownBlock) (hloc:v'.ownBlock=v.ownBlock∨v'.ownBlock=some w.heap.size) :
  CS w5 base v' (ps++[(f,x)]):=by
 have o:∀(y:Value) (l:List UInt8),Ag w base y l→(∀g,y.ownBlock=some g→v.ownBlock≠some g)→Ag w5 base y l∧(∀g,y.ownBlock=some g→v'.ownBlock≠some g):=λy l hy hn =>
  ⟨AN hy (λg hg2=>hg.block g (hy.lt g hg2).2 (λe=>hn g hg2 e.symm)),λg hg2=>by
   rcases hloc with e|e
   ·rw[e];exact hn g hg2
   ·rw[e];intro e2;have:=(hy.lt g hg2).2;simp at e2;omega⟩
 refine⟨?_,λp hp=>?_,λp hp=>?_⟩
 ·rw[QS];unfold Ch at hrow ⊢;rw[List.flatMap_append];exact hrow
 ·rcases List.mem_append.1 hp with hp|hp
  ·exact (o p.2 p.1.2 (h.pay p hp) (h.apart p hp)).1
  ·simp at hp;subst hp;exact (o x f.2 hx hne).1
 ·rcases List.mem_append.1 hp with hp|hp
  ·exact (o p.2 p.1.2 (h.pay p hp) (h.apart p hp)).2
  ·simp at hp;subst hp;exact (o x f.2 hx hne).2
def Ji (l:List UInt8) (w:World) (e:Ending) (w':World):Prop :=
 Below w.heap.size w w'∧∃v ps,e=.returned (.tuple #[v,.int .i64 ((Fr.scan l).2:Nat)])∧CS w' w.heap.size v ps∧ps.map (·.1)=(Fr.scan l).1
theorem JQ (v:Value) (l:List UInt8) (w:World) (hV:AZ w v l) (hl:l.length≤1000000000) :
  Calls Tryz.prog 75 #[v] w (Ji l w):=by
 obtain⟨va,Z,rfl,ai⟩:=hV.form;have O:=QA ai;have HV:=QA hV;obtain⟨L,hL⟩:∃L,L=l.length:=⟨_,rfl⟩
 have P:=QA hL;have aT:(L:Int)≤1000000000:=by omega
 have aS:(0:Int)≤(L:Int):=Int.natCast_nonneg _;rw[← hL]at HV ⊢;clear ai hV hL;go_enter Tryz.func75,Tryz.ntmps75;go_wp2_with fail
 go_loopg [4,5] (L+1) (λk s4 s5 wr=>∃(a:Nat) (E:List (Fr.F×Value)),a≤L∧L<k+a∧s5=.int .i64 (a:Nat)∧CS wr w.heap.size s4 E∧Fr.scanGo k (l.drop a) (E.map (·.1)) a=Fr.scan l∧E.length≤a∧Below w.heap.size w wr)
 case atStart=>exact⟨0,[],Nat.zero_le _,by omega,rfl,CS.nil _ _,by rw[P.out];rfl,QM _,Below.refl _ _⟩
 case round =>
  obtain⟨a,E,ha,hk,rfl,hF,ae,V,hB⟩:=hrel;have HF:=QA hF;have aj:=QA ae;have ah:=QA V;have HB:=QA hB;clear hF ae V hB;have aX:(0:Int)≤(a:Int):=Int.natCast_nonneg _;have a0:(a:Int)≤(L:Int):=by omega
  obtain⟨Y,rfl⟩:∃Y,gk=Y+1:=⟨gk-1,by omega⟩
  have ag:Hid (Fr.scanGo (Y+1) (l.drop a) (E.map (·.1)) a=if Fr.stop (l.drop a) then (E.map (·.1),a) else Fr.scanGo Y ((l.drop a).drop (9+Fr.num (l.drop a))) (E.map (·.1)++[Fr.first (l.drop a)]) (a+(9+Fr.num (l.drop a)))):=QA rfl;have G:Hid ((l.drop a).length=L-a):=by rw[QY,P.out];exact QA rfl
  have R:Fr.stop (l.drop a)=true→Fr.scan l=(E.map (·.1),a):=λh=>by rw[← aj.out,ag.out,if_pos h]
  have D:=QA R;clear R;by_cases h9:a+9≤L
  ·have aF:(9:Int)≤(L:Int)-(a:Int):=by omega
   have a1:Z≠a:=by have:=O.out;have:=P.out;omega
   obtain⟨x0,ab⟩:∃x,l[a]?=some x:=⟨_,ZG (by have:=P.out;omega)⟩
   obtain⟨g,o,rfl,hg,_⟩:=HV.out.at ab;clear ab;have an:Hid (AZ wr (.slice (some ⟨g,o+a,none⟩) (L-a) (Z-a)) (l.drop a)):=by
    have W:=(HV.out.below HB.out).part a L (Z-a) ha (by rw[P.out];exact QM _) (by have:=O.out;have:=P.out;omega) _ (.inl rfl);rw[List.take_of_length_le (by rw[G.out];exact QM _)]at W;exact QA W
   go_wp2_with fail;refine (Cv _ (l.drop a) _ an.out (by rw[G.out];omega) (by rw[G.out];omega)).mono ?_;rintro e w1 ⟨rfl,n1,rfl⟩;have H:=QA (Below.drewN HB.out n1);have S:=QA (HF.out.keep (Below.drewN (Below.refl _ _) n1));obtain⟨N,hN⟩:∃N,N=Fr.num (l.drop a):=⟨_,rfl⟩
   have X:=QA hN;rw[← hN];clear hN;have aY:(0:Int)≤(N:Int):=Int.natCast_nonneg _;by_cases hbig:8192<N
   ·have ax:(8192:Int)<(N:Int):=by omega
    have I:Hid (Fr.stop (l.drop a)=true):=by
     unfold Fr.stop;rw[← X.out,decide_eq_true hbig];exact QA (by simp)
    clear hbig;go_wp2_with fail;refine bodyPost_ret (v:=.tuple #[u4,.int .i64 (a:Nat)]) (by simp[results,Tryz.results75,go_sem]) rfl ?_;exact⟨H.out,u4,E,by rw[D.out I.out],S.out,by rw[D.out I.out]⟩
   ·have ax:(N:Int)≤8192:=by omega
    clear hbig;by_cases hlong:L<a+9+N
    ·have aD:(L:Int)-(a:Int)-9<(N:Int):=by omega
     have I:Hid (Fr.stop (l.drop a)=true):=by
      unfold Fr.stop;rw[← X.out,G.out,decide_eq_true (p:=L-a-9<N) (by omega)];exact QA (by simp)
     clear hlong;go_wp2_with fail;refine bodyPost_ret (v:=.tuple #[u4,.int .i64 (a:Nat)]) (by simp[results,Tryz.results75,go_sem]) rfl ?_;exact⟨H.out,u4,E,by rw[D.out I.out],S.out,by rw[D.out I.out]⟩
    ·have aD:(N:Int)≤(L:Int)-(a:Int)-9:=by omega
     have aZ:((a:Int)+9+(N:Int)).toNat=a+9+N:=by omega
     have a4:(a:Int)+9+(N:Int)≤(Z:Int):=by have:=O.out;have:=P.out;omega
     have a2:(0:Int)≤(a:Int)+9+(N:Int):=by omega
     have aW:(a:Int)≤(a:Int)+9+(N:Int):=by omega
     have ad:Hid (AZ (wr.drewN n1) (.slice (some ⟨g,o+a,none⟩) (a+9+N-a) (Z-a)) ((l.drop a).take (9+Fr.num (l.drop a)))):=by
      have W:=(HV.out.below H.out).part a (a+9+N) (Z-a) (by omega) (by rw[← P.out];omega) (by have:=O.out;have:=P.out;omega) _ (.inl rfl);rw[show (l.drop a).take (a+9+N-a)=(l.drop a).take (9+Fr.num (l.drop a)) by rw[← X.out,show a+9+N-a=9+N by omega]]at W;exact QA W
     go_wp2_with fail;refine (EX _ ((l.drop a).take (9+Fr.num (l.drop a))) _ ad.out (by rw[List.length_take,QY];omega)).mono ?_;rintro e w2 ⟨hb2',hres⟩;have Q:=QA (H.out.trans (hb2'.mono H.out.size));have af:=QA (S.out.keep hb2');have aL:=QA hb2';clear hb2';rcases hres with⟨h0,v2,rfl,ho⟩|⟨h0,rfl⟩
     ·obtain⟨C,B,A,aK,aV⟩:=Ag.form3 ho;subst aK;have HO:=QA ho;have ar:=QA h0;clear ho h0;obtain⟨K,hK⟩:∃K,K=Fr.kind ((l.drop a).take (9+Fr.num (l.drop a))):=⟨_,rfl⟩
      have av:=QA hK;rw[← hK];clear hK;obtain⟨i0,hi,aJ,aA,au⟩:=info_parts LC;have V:E.length≤1000000000:=by have:=ah.out;omega
      have M:Below w2.heap.size w2 ((w2.alloc (.cells #[.int .i64 K,.slice C B A] 112)).alloc (.cells #[.int .i64 K,.slice C B A] 112)):=((Below.refl _ _).alloc (QM _) _).alloc (by simp) _;have U:=QA (af.out.keep M);have am:=QA ((HO.out.keep M).mono H.out.size);have ac:=QA (Q.out.trans (M.mono Q.out.size));have J:=ac.out.size;have aH:Hid (∀(j:Nat) u,[Value.int .i64 K,Value.slice C B A][j]?=some u→((w2.alloc (.cells #[.int .i64 K,.slice C B A] 112)).alloc (.cells #[.int .i64 K,.slice C B A] 112)).cell? ((⟨w2.heap.size+1,0,none⟩:Addr).add j)=some u):=by
       refine QA λj u hj=>?_
       rw[addr_add];have:=Ak (w2.alloc (.cells #[.int .i64 K,.slice C B A] 112)) #[.int .i64 K,.slice C B A] 112 j u (by simpa using hj);rw[show (w2.alloc (.cells #[.int .i64 K,.slice C B A] 112)).heap.size=w2.heap.size+1 by simp]at this;exact this
      have ak:Hid (∀u∈[Value.int .i64 K,Value.slice C B A],u.oneCell'=true):=QA (λu hu=>by simp at hu;rcases hu with rfl|rfl<;>rfl);have az:Hid (∀g,(Value.slice C B A).ownBlock=some g→u4.ownBlock≠some g):=QA (λg hg e=>by
       have W:=(HO.out.lt g hg).1;have h2:=(HF.out.row.lt g e).2;have h3:(wr.drewN n1).heap.size=wr.heap.size:=rfl;omega)
      have ao:Hid (Fr.stop (l.drop a)=false):=by
       unfold Fr.stop;have e1:=ar.out;rw[← X.out]at e1;rw[G.out,← X.out];exact QA (by simp[e1];omega)
      have aE:Hid (Fr.scanGo Y (l.drop (a+(9+N))) ((E++[((K,Fr.pay ((l.drop a).take (9+Fr.num (l.drop a)))),Value.slice C B A)]).map (·.1)) (a+(9+N))=Fr.scan l):=by
       refine QA ?_;rw[← aj.out,ag.out,if_neg (by rw[ao.out];simp),List.drop_drop,ZQ,av.out,X.out];rfl
      clear M;go_wp2_with (first|(at_builtin;refine wpList_append_own_at _ rfl _ _ 148 rfl w.heap.size 112 i0 _ 2 32 Tryz.underlying148 hi aJ aA au rfl (by decide) u4 E.length (Ch E) rfl U.out.row ⟨w2.heap.size+1,0,none⟩ 1 1 [.int .i64 K,.slice C B A] rfl rfl aH.out ak.out (by unfold maxLen;omega) (by omega) J ?_;intro d' w5 hown5 hgrow5 hnil5 hloc5;clear hnil5;have aa:=QA (CS.more (f:=(K,Fr.pay ((l.drop a).take (9+Fr.num (l.drop a))))) U.out am.out az.out hown5 hgrow5 hloc5);have aq:=QA (below_grown ac.out J U.out.row hgrow5);clear hloc5 hown5 hgrow5)|fail);go_roundg Y
      case measure=>omega
      case rel =>
       exact⟨a+(9+N),_,by omega,by omega,by simp,aa.out,aE.out,by rw[QS];have:=ah.out;simp;omega,aq.out⟩
     ·have ht:(Fr.decE ((l.drop a).take (9+Fr.num (l.drop a))) != 0)=true:=by rw[bne_iff_ne];exact h0
      have I:Hid (Fr.stop (l.drop a)=true):=by
       unfold Fr.stop;rw[decide_eq_true h0];exact QA (by simp)
      clear h0;have T:Below w2.heap.size w2 (w2.alloc (.cells #[.int .i64 0,.slice none 0 0] 112)):=(Below.refl _ _).alloc (QM _) _;have aC:=QA (Q.out.trans (T.mono Q.out.size));have ay:=QA (af.out.keep T);clear T;go_wp2_with fail;refine bodyPost_ret (v:=.tuple #[u4,.int .i64 (a:Nat)]) (by simp[results,Tryz.results75,go_sem]) rfl ?_;exact⟨aC.out,u4,E,by rw[D.out I.out],ay.out,by rw[D.out I.out]⟩
  ·have aF:(L:Int)-(a:Int)<9:=by omega
   have I:Hid (Fr.stop (l.drop a)=true):=by
    unfold Fr.stop;rw[G.out,decide_eq_true (p:=L-a<9) (by omega)];exact QA rfl
   go_wp2_with fail;refine bodyPost_ret (v:=.tuple #[u4,.int .i64 (a:Nat)]) (by simp[results,Tryz.results75,go_sem]) rfl ?_;exact⟨HB.out,u4,E,by rw[D.out I.out],HF.out,by rw[D.out I.out]⟩
open Go.ChangeShapes Go.WideShapes Go.ChangeAt
theorem Ix {α:Type} {l:List α} {n i:Nat} {x:α} (h:(l.take n)[i]?=some x):l[i]?=some x:=by
 rw[List.getElem?_take]at h;split at h
 ·exact h
 ·cases h
theorem Gj {w:World} {p:Addr} {v:Value} (h:w.cell? p=some v):p.block<w.heap.size:=by
 unfold World.cell? at h;rcases ZU p.block w.heap.size with h'|h'
 ·exact h'
 ·simp[Array.getElem?_eq_none h']at h
theorem H7:Tryz.prog.cellsOf 5=1:=by kernel_rfl
open Go.Maps Go.WideMaps
structure Aq (B:Nat) (w:World):Prop where
 tab : Lib.TabIs Tryz.prog w "internal/strconv.uint64pow10" .u64 Lib.pow10Tab
 rng : ∃ tp p, w.var? Tryz.prog "strconv.ErrRange" = some #[.iface tp p]
 syn : ∃ tp p, w.var? Tryz.prog "strconv.ErrSyntax" = some #[.iface tp p]
 low:1<B∧3<B∧2<B
theorem Aq.below {B:Nat} {w w':World} (h:Aq B w) (hb:Below B w w'):Aq B w':=by
 obtain⟨E,⟨a,b,F⟩,⟨c,d,D⟩,C,A,o⟩:=h;exact⟨var?_below hb (by kernel_rfl) C E,⟨a,b,var?_below hb (by kernel_rfl) A F⟩,⟨c,d,var?_below hb (by kernel_rfl) o D⟩,C,A,o⟩
theorem Aq.mono {B B':Nat} {w:World} (h:Aq B w) (hb:B≤B'):Aq B' w:=⟨h.tab,h.rng,h.syn,ZT h.low.1 hb,ZT h.low.2.1 hb,ZT h.low.2.2 hb⟩
namespace Sg
def nameE (id:Int):Int:=if id<1∨2147483647<id then 1 else 0
def nameB (id:Int):List UInt8:=if id<1∨2147483647<id then [] else [115,101,103,45]++Lib.itoa id
theorem nameB_len (id:Int):(nameB id).length≤25:=by
 unfold nameB;split
 ·simp
 ·have:=Lib.itoa_length_le id (by omega) (by omega);simp;omega
end Sg
theorem I1 (a b:List UInt8):(⟨a.toArray⟩:ByteArray)++(⟨b.toArray⟩:ByteArray)=⟨(a++b).toArray⟩:=by
 apply ByteArray.ext;simp
theorem Bn (id:Int) (w:World) (B:Nat) (hE:Aq B w) :
  Calls Tryz.prog 33 #[.int .i64 id] w λe w'=>e=.returned (.tuple #[.string ⟨(Sg.nameB id).toArray⟩,.int .i64 (Sg.nameE id)])∧Below w.heap.size w w':=by
 by_cases hid:id<1∨2147483647<id
 ·have D:Hid (Sg.nameB id=[]):=by unfold Sg.nameB;rw[if_pos hid];exact QA rfl
  have A:Hid (Sg.nameE id=1):=by unfold Sg.nameE;rw[if_pos hid];exact QA rfl
  rcases hid with h|h
  ·go_enter Tryz.func33,Tryz.ntmps33;go_wp2_with fail;refine bodyPost_ret (v:=.tuple #[.string ⟨#[]⟩,.int .i64 1]) (by simp[results,Tryz.results33,go_sem]) rfl ?_;exact⟨by rw[D.out,A.out],Below.refl _ _⟩
  ·have G:1≤id:=by omega
   go_enter Tryz.func33,Tryz.ntmps33;go_wp2_with fail;refine bodyPost_ret (v:=.tuple #[.string ⟨#[]⟩,.int .i64 1]) (by simp[results,Tryz.results33,go_sem]) rfl ?_;exact⟨by rw[D.out,A.out],Below.refl _ _⟩
 ·have J:1≤id:=by omega
  have G:id≤2147483647:=by omega
  have D:Hid (Sg.nameB id=[115,101,103,45]++Lib.itoa id):=by unfold Sg.nameB;rw[if_neg hid];exact QA rfl
  have A:Hid (Sg.nameE id=0):=by unfold Sg.nameE;rw[if_neg hid];exact QA rfl
  have o:=Lib.itoa_length_le id (by omega) (by omega);clear hid;go_enter Tryz.func33,Tryz.ntmps33;go_wp2_with fail;refine (Tryz.strconv_Itoa id (by omega) (by omega) w hE.tab).mono ?_;rintro e w1 ⟨rfl,k,os,hw1⟩;have F:Below w.heap.size w w1:=by rw[hw1];exact Lib.below_grow w.heap.size w (QM _) k os
  have E:=QA F;clear hw1;obtain⟨s,C⟩:∃s:ByteArray,s=⟨(Lib.itoa id).toArray⟩:=⟨_,rfl⟩
  have H:(s.size:Int)≤21:=by
   rw[C];show ((Lib.itoa id).toArray.size:Int)≤21;simp;omega
  rw[← C];have I:=QA C;clear C o F;go_wp2_with fail;refine bodyPost_ret (v:=.tuple #[.string (⟨#[115,101,103,45]⟩++s),.int .i64 0]) (by simp[results,Tryz.results33,go_sem]) rfl ?_;exact⟨by rw[D.out,A.out,I.out,← I1],E.out⟩
open Go.Maps Go.WideMaps
theorem Cl {w:World} {a:Option Addr} {n c:Nat} {l:List UInt8} (h:AZ w (.slice a n c) l) :
  (convert 41 9 (.slice a n c)).run Tryz.prog w=.ok (.string ⟨l.toArray⟩) w:=by
 have E:=h;obtain⟨H,I,e,F,B,_⟩:=E;simp only[Value.slice.injEq]at e;obtain⟨rfl,rfl,rfl⟩:=e;cases a with
 | none =>
  have o:l=[]:=List.length_eq_zero_iff.1 (by have:=B rfl;omega);subst o;exact run_convert_bytes_nil w 41 5 Tryz.underlying41 Tryz.underlying5 0 c 9 Tryz.underlying9
 | some ad =>
  refine run_convert_bytes_back w 41 9 5 ad c l Tryz.underlying41 Tryz.underlying5 Tryz.underlying9 (λj hj=>?_);obtain⟨b,A,D,G,C⟩:=h.at (ZG hj);cases D;rw[DJ];exact C
open Go.Maps Go.WideMaps
namespace Sg
def seg:List UInt8:=[115,101,103,45]
def isDig (c:UInt8):Bool:=decide (48≤c.toNat)&&decide (c.toNat≤57)
def KO (l:List UInt8):Nat:=l.foldl (λn c=>n*10+(c.toNat-48)) 0
def Hr (l:List UInt8):Int :=
 if l.length<5∨14<l.length∨l.take 4≠seg then 0
 else if (l.drop 4).all isDig=false then 0
 else if nameE (KO (l.drop 4))≠0∨nameB (KO (l.drop 4))≠l then 0
 else KO (l.drop 4)
def idOf (l:List UInt8):Int :=
 match Lib.atoiAll (Lib.trimPrefix l seg) with
 | .ok v=>if Lib.hasPrefix l seg=true∧nameE v=0∧nameB v=l then v else 0
 | _=>0
end Sg
open Go.Maps Go.WideMaps
theorem Kz:(⟨#[115,101,103,45]⟩:ByteArray).data.toList=Sg.seg:=rfl
theorem K1 (s:ByteArray) (w:World) (B:Nat) (hE:Aq B w) (hB:B≤w.heap.size) (hs:s.size≤1000000) :
  Calls Tryz.prog 73 #[.string s] w λe w'=>e=.returned (.tuple #[.int .i64 (Sg.idOf s.data.toList),.bool (decide (0<Sg.idOf s.data.toList))])∧Below w.heap.size w w':=by
 have D:Hid (Sg.idOf s.data.toList=match Lib.atoiAll (Lib.trimPrefix s.data.toList Sg.seg) with
  | .ok v=>if Lib.hasPrefix s.data.toList Sg.seg=true∧Sg.nameE v=0∧Sg.nameB v=s.data.toList then v else 0
  | _=>0):=QA rfl
 go_enter Tryz.func73,Tryz.ntmps73;go_wp2_with fail;refine (Tryz.strings_CutPrefix s ⟨#[115,101,103,45]⟩ w).mono ?_;rintro e w1 ⟨rfl,hw1⟩;subst hw1;rw[Kz];obtain⟨d,W⟩:∃d:ByteArray,d=⟨(Lib.trimPrefix s.data.toList Sg.seg).toArray⟩:=⟨_,rfl⟩
 obtain⟨ok,K⟩:∃ok,ok=Lib.hasPrefix s.data.toList Sg.seg:=⟨_,rfl⟩
 have H:d.data.toList=Lib.trimPrefix s.data.toList Sg.seg:=by rw[W]
 have Z:d.size≤1000000:=by
  have Y:(Lib.trimPrefix s.data.toList Sg.seg).length≤s.size:=by
   unfold Lib.trimPrefix;split<;>simp
  rw[← H]at Y;have h2:d.data.toList.length=d.size:=by simp
  omega
 rw[← W,← K];have M:=QA H;have P:=QA K;clear W K H;go_wp2_with fail;cases hat:Lib.atoiAll d.data.toList with
 | ok v =>
  have F:=QA hat;refine (Tryz.strconv_Atoi_ok d (by omega) v hat w1).mono ?_;rintro e w2 ⟨rfl,hw2⟩;have o:Below w1.heap.size w1 w2:=by
   rcases hw2 with rfl|⟨t,rfl⟩
   ·exact Below.refl _ _
   ·exact Joins.below_bytesWorld w1.heap.size w1 5 t (QM _)
  have A:=QA o;have T:=hE.below (o.mono hB);clear hw2 o hat;cases ok with
  | false =>
   have C:Hid (Sg.idOf s.data.toList=0):=by
    rw[D.out,← M.out,F.out];show Hid ((if _ then _ else _)=_);rw[← P.out,if_neg (by simp)];exact QA rfl
   go_wp2_with fail;refine bodyPost_ret (v:=.tuple #[.int .i64 0,.bool false]) (by simp[results,Tryz.results73,go_sem]) rfl ?_;exact⟨by rw[C.out];rfl,A.out⟩
  | true =>
   go_wp2_with fail;refine (Bn v w2 B T).mono ?_;rintro e w3 ⟨rfl,hb3⟩;have I:=QA (A.out.trans (hb3.mono A.out.size));obtain⟨E,J⟩:∃E,E=Sg.nameE v:=⟨_,rfl⟩
   obtain⟨U,G⟩:∃t:ByteArray,t=⟨(Sg.nameB v).toArray⟩:=⟨_,rfl⟩
   rw[← G,← J];have O:=QA G;have L:=QA J;clear G J hb3;by_cases hE0:E=0
   ·subst hE0;by_cases heq:U=s
    ·have S:0<v:=by
      have:=L.out;unfold Sg.nameE at this;split at this<;>omega
     have C:Hid (Sg.idOf s.data.toList=v):=by
      rw[D.out,← M.out,F.out];show Hid ((if _ then _ else _)=_);rw[← P.out,if_pos ⟨rfl,L.out.symm,by rw[← heq,O.out]⟩];exact QA rfl
     have R:(U.toList==s.toList)=true:=by rw[heq];simp
     clear heq;go_wp2_with fail;refine bodyPost_ret (v:=.tuple #[.int .i64 v,.bool true]) (by simp[results,Tryz.results73,go_sem]) rfl ?_;exact⟨by rw[C.out];simp[S],I.out⟩
    ·have C:Hid (Sg.idOf s.data.toList=0):=by
      rw[D.out,← M.out,F.out];show Hid ((if _ then _ else _)=_);rw[if_neg (λh=>heq (by rw[O.out,h.2.2]))];exact QA rfl
     have R:(U.toList==s.toList)=false:=by
      rw[beq_eq_false_iff_ne,ByteArray.toList_eq,ByteArray.toList_eq];exact λh=>heq (ByteArray.ext (Array.toList_inj.1 h))
     clear heq;go_wp2_with fail;refine bodyPost_ret (v:=.tuple #[.int .i64 0,.bool false]) (by simp[results,Tryz.results73,go_sem]) rfl ?_;exact⟨by rw[C.out];rfl,I.out⟩
   ·have C:Hid (Sg.idOf s.data.toList=0):=by
     rw[D.out,← M.out,F.out];show Hid ((if _ then _ else _)=_);rw[if_neg (λh=>hE0 (by rw[L.out,h.2.1]))];exact QA rfl
    have R:(E != 0)=true:=by rw[bne_iff_ne];exact hE0
    have X:(E==0)=false:=by rw[beq_eq_false_iff_ne];exact hE0
    clear hE0;go_wp2_with fail;refine bodyPost_ret (v:=.tuple #[.int .i64 0,.bool false]) (by simp[results,Tryz.results73,go_sem]) rfl ?_;exact⟨by rw[C.out];rfl,I.out⟩
 | range =>
  obtain⟨V,p,Q⟩:=hE.rng;have C:Hid (Sg.idOf s.data.toList=0):=by rw[D.out,← M.out,hat];exact QA rfl
  refine (Tryz.strconv_Atoi_range_var d (by omega) hat V p w1 Q).mono ?_;rintro e w2 ⟨N,rfl,hN,_,o⟩;have A:=QA o;clear o hat Q;cases ok
  ·go_wp2_with fail;refine bodyPost_ret (v:=.tuple #[.int .i64 0,.bool false]) (by simp[results,Tryz.results73,go_sem]) rfl ?_;exact⟨by rw[C.out];rfl,A.out⟩
  ·go_wp2_with fail;refine bodyPost_ret (v:=.tuple #[.int .i64 0,.bool false]) (by simp[results,Tryz.results73,go_sem]) rfl ?_;exact⟨by rw[C.out];rfl,A.out⟩
 | _ =>
  obtain⟨V,p,Q⟩:=hE.syn;have C:Hid (Sg.idOf s.data.toList=0):=by rw[D.out,← M.out,hat];exact QA rfl
  refine (Tryz.strconv_Atoi_syntax_var d (by omega) hat V p w1 Q).mono ?_;rintro e w2 ⟨N,rfl,hN,_,o⟩;have A:=QA o;clear o hat Q;cases ok
  ·go_wp2_with fail;refine bodyPost_ret (v:=.tuple #[.int .i64 0,.bool false]) (by simp[results,Tryz.results73,go_sem]) rfl ?_;exact⟨by rw[C.out];rfl,A.out⟩
  ·go_wp2_with fail;refine bodyPost_ret (v:=.tuple #[.int .i64 0,.bool false]) (by simp[results,Tryz.results73,go_sem]) rfl ?_;exact⟨by rw[C.out];rfl,A.out⟩
namespace Sg
theorem JY (n:Nat) (h:n<10):(UInt8.ofNat (48+n)).toNat=48+n:=UInt8.toNat_ofNat_of_lt' (by show _<256;omega)
theorem dval_dec (n:Nat):∀(a:Nat),(Lib.decDigits n).foldl (λn c=>n*10+(c.toNat-48)) a=a*10 ^ (Lib.decDigits n).length+n∧(Lib.decDigits n).all isDig=true:=by
 induction n using Nat.strongRecOn with
 | _ n ih =>
  intro a;by_cases h:n<10
  ·rw[Lib.decDigits_one h];refine⟨?_,?_⟩
   ·simp only[List.foldl_cons,List.foldl_nil,List.length_singleton,Nat.pow_one,JY n h];omega
   ·simp only[ZV,List.all_nil,isDig,JY n h];simp;omega
  ·have E:Lib.decDigits n=Lib.decDigits (n / 10)++Lib.decDigits (n % 10):=by
    rw[Lib.decDigits,dif_neg h,Lib.decDigits_one (i:=n % 10) (by omega)]
   obtain⟨A,C⟩:=ih (n / 10) (by omega) a;obtain⟨o,D⟩:=ih (n % 10) (by omega) (a*10 ^ (Lib.decDigits (n / 10)).length+n / 10);rw[E,List.foldl_append,A,o,List.all_append,C,D,QS,Nat.pow_add];have B:(Lib.decDigits (n % 10)).length=1:=by rw[Lib.decDigits_one (by omega)];rfl
   rw[B,Nat.pow_one];refine⟨?_,rfl⟩;rw[Nat.add_mul,Nat.mul_assoc];omega
theorem Ju (n:Nat):Lib.decDigits n≠[]:=by
 intro h;have:=Lib.decDigits_length n;have o:=Lib.nDigits_pos n;rw[h]at this;simp at this;omega
theorem DC:∀(l:List UInt8) (a:Nat),l.all isDig=true→l.foldl (λn c=>n*10+(c.toNat-48)) a<18446744073709551616 →
  Lib.parseUint10 a l=.ok (l.foldl (λn c=>n*10+(c.toNat-48)) a)
 | [],a,_,_=>rfl
 | c::r,a,hd,hb=>by
  simp only[ZV,ZA]at hd;have A:=hd.1;unfold isDig at A;simp only[ZA,decide_eq_true_eq]at A;rw[List.foldl_cons]at hb ⊢;have o:∀(l:List UInt8) (b:Nat),b≤l.foldl (λn c=>n*10+(c.toNat-48)) b:=by
   intro l
   induction l with
   | nil=>intro b;exact QM _
   | cons x l ih=>intro b;rw[List.foldl_cons];have:=ih (b*10+(x.toNat-48));omega
  have B:=o r (a*10+(c.toNat-48));unfold Lib.parseUint10;rw[if_pos A,if_neg (by omega),if_neg (by omega)];exact DC r _ hd.2 hb
theorem atoi_dec (n:Nat) (h:n<9223372036854775808):Lib.atoiAll (Lib.decDigits n)=.ok (n:Int):=by
 obtain⟨B,A⟩:=dval_dec n 0;rw[Nat.zero_mul,Nat.zero_add]at B;have D:=DC (Lib.decDigits n) 0 A (by rw[B];omega);rw[B]at D;have C:=Ju n;cases hl:Lib.decDigits n with
 | nil=>exact absurd hl C
 | cons c r =>
  have E:isDig c=true:=by
   rw[hl]at A;simp only[ZV,ZA]at A;exact A.1
  unfold isDig at E;simp only[ZA,decide_eq_true_eq]at E;unfold Lib.atoiAll;rw[hl]at D;simp only;rw[if_neg (by omega)];unfold Lib.parseMag;rw[if_neg (by simp),D];have o:¬c.toNat=45:=by omega
  simp only[o,not_false_eq_true,true_and,false_and,if_false];rw[if_neg (by omega)]
theorem Hv {id:Int} (h:nameE id=0):1≤id∧id≤2147483647∧nameB id=seg++Lib.decDigits id.toNat:=by
 unfold nameE at h;have o:¬(id<1∨2147483647<id):=by
  intro hc;rw[if_pos hc]at h;cases h
 refine⟨by omega,by omega,?_⟩;unfold nameB;rw[if_neg o];have:Lib.itoa id=Lib.decDigits id.toNat:=by
  have:=Lib.itoa_nonneg id.toNat
  rwa [show ((id.toNat:Nat):Int)=id by omega]at this
 rw[this];rfl
theorem Jo (r:List UInt8):Lib.trimPrefix (seg++r) seg=r∧Lib.hasPrefix (seg++r) seg=true:=by
 have h:Lib.hasPrefix (seg++r) seg=true:=by
  unfold Lib.hasPrefix;rw[List.isPrefixOf_iff_prefix];exact List.prefix_append _ _
 refine⟨?_,h⟩;unfold Lib.trimPrefix;rw[if_pos h];rfl
theorem id_name {id:Int} (h:nameE id=0):idOf (nameB id)=id∧Hr (nameB id)=id:=by
 obtain⟨K,M,B⟩:=Hv h;obtain⟨n,rfl⟩:∃n:Nat,id=n:=⟨id.toNat,by omega⟩
 rw[Int.toNat_natCast]at B;obtain⟨J,H⟩:=Jo (Lib.decDigits n);obtain⟨G,I⟩:=dval_dec n 0;rw[Nat.zero_mul,Nat.zero_add]at G;have F:(Lib.decDigits n).length≤10:=by
  rw[Lib.decDigits_length];have O:n≤2147483647:=by omega
  rcases ZU 10 (Lib.nDigits n) with hgt|hle
  ·exfalso;have:∀k u,Lib.nDigits u=k+1→1≤u→10 ^ k≤u:=by
    intro k
    induction k with
    | zero=>intro u _ hu;simpa using hu
    | succ k ih =>
     intro u hu h1u;by_cases hs:u<10
     ·rw[Lib.nDigits_small hs]at hu;omega
     ·rw[Lib.nDigits_big hs]at hu;have:=ih (u / 10) (by omega) (by omega);rw[Nat.pow_succ];omega
   have N:=this (Lib.nDigits n-1) n (by omega) (by omega);have L:10 ^ 10≤10 ^ (Lib.nDigits n-1):=Nat.pow_le_pow_right (by omega) (by omega);omega
  ·exact hle
 have E:1≤(Lib.decDigits n).length:=by
  have:=Ju n;cases hx:Lib.decDigits n with
  | nil=>exact absurd hx this
  | cons c r=>simp
 have o:(seg++Lib.decDigits n).drop 4=Lib.decDigits n:=rfl;have A:(seg++Lib.decDigits n).take 4=seg:=rfl;have D:(seg++Lib.decDigits n).length=4+(Lib.decDigits n).length:=by rw[QS];rfl
 constructor
 ·unfold idOf;rw[B,J,atoi_dec n (by omega)];show (if _ then _ else _)=_;rw[if_pos ⟨H,h,B⟩]
 ·unfold Hr;have C:KO ((nameB (n:Int)).drop 4)=n:=by rw[B,o];exact G
  rw[C];rw[if_neg (by rw[B,D,A];simp;omega),if_neg (by rw[B,o,I];simp),if_neg (by rw[h];simp)]
end Sg
open Go.Maps Go.WideMaps
theorem AQ.refl {base B:Nat} {st:Fs.St} {V:FsV} {own:Nat→Tag} {w:World} (h:Aa base B st V own w):AQ base B st own w w:=⟨V,own,h,λ_ _=>rfl,Kept.refl _ _ _⟩
theorem AQ.of {base B:Nat} {st:Fs.St} {V:FsV} {own:Nat→Tag} {w w':World} (h:Aa base B st V own w) (hb:Below w.heap.size w w'):AQ base B st own w w':=⟨V,own,h.kept (AB hb),λ_ _=>rfl,AB hb⟩
theorem AQ.step {base B:Nat} {st':Fs.St} {own own':Nat→Tag} {w w1 w2:World} (hk1:Kept own (·≠.other) w w1) (ho1:∀k,k<w.heap.size→own' k=own k) (h2:AQ base B st' own' w1 w2):AQ base B st' own w w2:=by
 obtain⟨D,A,h,C,o⟩:=h2;refine⟨D,A,h,λk hk=>(C k (ZT hk hk1.size)).trans (ho1 k hk),o.os.trans hk1.os,o.tape.trans hk1.tape,o.output.trans hk1.output,Nat.le_trans hk1.size o.size,λk hk ht=>?_⟩;rw[o.block k (ZT hk hk1.size) (by rw[ho1 k hk];exact ht)];exact hk1.block k hk ht
theorem AQ.below0 {base B:Nat} {st st':Fs.St} {V:FsV} {own:Nat→Tag} {w w':World} (h:Aa base B st V own w) (hp:AQ base B st' own w w') (hbase:base≤w.heap.size):Below base w w':=by
 obtain⟨_,_,_,_,o⟩:=hp;exact⟨o.os,o.tape,o.output,o.size,λk hk2=>o.block k (ZT hk2 hbase) (by rw[h.old k hk2];simp)⟩
structure Fs.Small (st:Fs.St):Prop where
 files:st.files.length≤800000
 dir:st.dir.length≤800000
 changes:st.changes.length≤800000
 file:∀f∈st.files,f.1.length≤65536
 room:0≤st.room∧st.room≤1048576
theorem D9 (id:Int):(⟨(Sg.nameB id).toArray⟩:ByteArray).size≤25:=by
 have:=Sg.nameB_len id;show (Sg.nameB id).toArray.size≤25
 simpa using this
open Go.Maps Go.WideMaps
def Ints (w:World) (v:Value) (l:List Int):Prop :=
 ∃a cap,v=.slice a l.length cap∧∀(i:Nat) x,l[i]?=some x→∃b off,a=some ⟨b,off,none⟩∧b<w.heap.size∧w.cell? ⟨b,off+i,none⟩=some (.int .i64 x)
theorem Ints.form {w:World} {v:Value} {l:List Int} (h:Ints w v l):∃a cap,v=.slice a l.length cap:=by
 obtain⟨a,cap,o,_⟩:=h;exact⟨a,cap,o⟩
theorem Ints.at {w:World} {a:Option Addr} {n cap:Nat} {l:List Int} (h:Ints w (.slice a n cap) l) {i:Nat} {x:Int} (hi:l[i]?=some x) :
  ∃b off,a=some ⟨b,off,none⟩∧b<w.heap.size∧w.cell? ⟨b,off+i,none⟩=some (.int .i64 x):=by
 obtain⟨E,o,A,C⟩:=h;obtain⟨b,off,e,B,D⟩:=C i x hi;simp only[Value.slice.injEq]at A;exact⟨b,off,by rw[A.1,e],B,D⟩
theorem Ints.below {w w':World} {v:Value} {l:List Int} (h:Ints w v l) (hb:Below w.heap.size w w'):Ints w' v l:=by
 obtain⟨a,cap,C,B⟩:=h;refine⟨a,cap,C,λi x hi=>?_⟩;obtain⟨b,o,e,A,D⟩:=B i x hi;exact⟨b,o,e,ZT A hb.size,by rw[World.cell?_of_block (hb.block b A)];exact D⟩
namespace Fs
def Calm (st:St):Prop:=st.left=-1∧st.plan=[]
theorem step_calm {st:St} (h:Calm st):step st=({ st with steps:=wrap64 (st.steps+1) },0,0):=by
 obtain⟨A,o⟩:=h;unfold step;rw[if_neg (by omega),o,if_neg (by omega)];cases st;simp only at A o;subst A o;rfl
theorem D2 (x:List UInt8×Int):∀l:Names,(mins x l).Perm (x::l)
 | []=>List.Perm.refl _
 | y::r=>by
  unfold mins;split
  ·exact List.Perm.refl _
  ·exact ((D2 x r).cons y).trans (List.Perm.swap x y r)
theorem DV {l:Names} {k:List UInt8} (h:mhas l k=false):mdel l k=l:=by
 unfold mdel;rw[List.filter_eq_self];intro p hp;unfold mhas at h;rw[List.any_eq_false]at h;have:=h p hp
 simpa using this
theorem JX {l:Names} {k:List UInt8} (h:mhas l k=false) (v:Int):(mput l k v).Perm ((k,v)::l):=by
 unfold mput;rw[DV h];exact D2 _ _
theorem IW {l l':Names} (h:l.Perm l') (k:List UInt8):mhas l k=mhas l' k:=by
 unfold mhas;rw[Bool.eq_iff_iff,List.any_eq_true,List.any_eq_true];constructor
 ·rintro⟨p,h1,h2⟩;exact⟨p,h.mem_iff.1 h1,h2⟩
 ·rintro⟨p,h1,h2⟩;exact⟨p,h.mem_iff.2 h1,h2⟩
theorem Hz {l:Names} (hnd:∀p∈l,∀q∈l,p.1=q.1→p.2=q.2) {k:List UInt8} {v:Int} (h:(k,v)∈l):mget l k=v:=by
 obtain⟨p,o,A,B⟩:=mget_mem (l:=l) (k:=k) (by unfold mhas;rw[List.any_eq_true];exact⟨(k,v),h,by simp⟩);rw[← B];exact hnd p o (k,v) h A
abbrev Segs:=List (List UInt8×List UInt8)
def BA:Nat→Segs→Names
 | _,[]=>[]
 | i,s::r=>(s.1,(i:Int))::BA (i+1) r
theorem Ez:∀(l r:Segs) (i:Nat),BA i (l++r)=BA i l++BA (i+l.length) r
 | [],r,i=>rfl
 | s::l,r,i=>by
  rw[List.cons_append,BA,BA,Ez l r (i+1),List.cons_append,QO,Nat.add_right_comm,Nat.add_assoc]
theorem DZ:∀(l:Segs) (i j:Nat) (s:List UInt8×List UInt8),l[j]?=some s→(s.1,((i+j:Nat):Int))∈BA i l
 | [],i,j,s,h=>by simp at h
 | x::l,i,0,s,h=>by
  simp at h;subst h;exact List.mem_cons_self
 | x::l,i,j+1,s,h=>by
  have:=DZ l (i+1) j s (by simpa using h);rw[show i+(j+1)=i+1+j by omega];exact List.mem_cons_of_mem _ this
theorem Ce:∀(l:Segs) (i:Nat) (p:List UInt8×Int),p∈BA i l→∃j s,l[j]?=some s∧p=(s.1,((i+j:Nat):Int))
 | [],i,p,h=>by simp[BA]at h
 | x::l,i,p,h=>by
  rw[BA]at h;rcases List.mem_cons.1 h with h|h
  ·exact⟨0,x,rfl,h⟩
  ·obtain⟨j,s,o,A⟩:=Ce l (i+1) p h;exact⟨j+1,s,by simpa using o,by rw[A,show i+(j+1)=i+1+j by omega]⟩
theorem Eu:∀(l:Segs) (i:Nat),(BA i l).length=l.length
 | [],_=>rfl
 | s::l,i=>by rw[BA,QO,Eu l,QO]
theorem Dc:∀(l l':Segs) (i:Nat),l.map (·.1)=l'.map (·.1)→BA i l=BA i l'
 | [],[],_,_=>rfl
 | [],x::l,_,h=>by simp at h
 | x::l,[],_,h=>by simp at h
 | x::l,y::l',i,h=>by
  simp only[ZP,List.cons.injEq]at h;rw[BA,BA,h.1,Dc l l' (i+1) h.2]
structure Rep (st:St) (segs:Segs):Prop where
 calm:Calm st
 files:st.files.map (·.1)=segs.map (·.2)
 dir:st.dir.Perm (BA 0 segs)
 names:∀(i j:Nat) s t,segs[i]?=some s→segs[j]?=some t→s.1=t.1→i=j
section
variable {st : St} {segs : Segs}
theorem Rep.len (h:Rep st segs):st.files.length=segs.length:=by
 have:=congrArg List.length h.files
 simpa using this
theorem Rep.dlen (h:Rep st segs):st.dir.length=segs.length:=by rw[h.dir.length_eq,Eu]
theorem Rep.keys (h:Rep st segs):∀p∈st.dir,∀q∈st.dir,p.1=q.1→p.2=q.2:=by
 intro p hp q hq e;obtain⟨i,s,o,rfl⟩:=Ce segs 0 p (h.dir.mem_iff.1 hp);obtain⟨j,t,A,rfl⟩:=Ce segs 0 q (h.dir.mem_iff.1 hq);have:=h.names i j s t o A e;subst this;rfl
theorem Rep.has (h:Rep st segs) (n:List UInt8):mhas st.dir n=segs.any (λs=>s.1==n):=by
 rw[IW h.dir];unfold mhas;rw[Bool.eq_iff_iff,List.any_eq_true,List.any_eq_true];constructor
 ·rintro⟨p,h1,h2⟩;obtain⟨j,s,o,rfl⟩:=Ce segs 0 p h1;exact⟨s,QZ o,h2⟩
 ·rintro⟨s,h1,h2⟩;obtain⟨j,o⟩:=List.getElem?_of_mem h1;exact⟨_,DZ segs 0 j s o,h2⟩
theorem Rep.get (h:Rep st segs) {i:Nat} {s:List UInt8×List UInt8} (hi:segs[i]?=some s):mget st.dir s.1=i:=by
 have:=DZ segs 0 i s hi;rw[Nat.zero_add]at this;exact Hz h.keys (h.dir.mem_iff.2 this)
theorem Rep.file (h:Rep st segs) {i:Nat} {s:List UInt8×List UInt8} (hi:segs[i]?=some s):∃f,st.files[i]?=some f∧f.1=s.2:=by
 have o:=congrArg (λl=>l[i]?) h.files;simp only[ZF,hi,Option.map_some]at o;cases hf:st.files[i]? with
 | none=>rw[hf]at o;cases o
 | some f=>rw[hf]at o;exact⟨f,rfl,by simpa using o⟩
theorem Rep.at (h:Rep st segs) {i:Nat} {s:List UInt8×List UInt8} (hi:segs[i]?=some s):idx st s.1=i∧fileAt st s.1=s.2∧(good s.1=true→openE st s.1=0):=by
 have o:idx st s.1=i:=by unfold idx;rw[h.get hi];rfl
 obtain⟨f,B,A⟩:=h.file hi;refine⟨o,?_,λhg=>?_⟩
 ·unfold fileAt;rw[o,B];exact A
 ·unfold openE;rw[if_neg (by rw[hg];simp),h.has,if_neg];rw[Bool.not_eq_false,List.any_eq_true];exact⟨s,QZ hi,by simp⟩
theorem Rep.used (h:Rep st segs):used st=(segs.map (·.2.length)).sum:=by
 have C:(st.dir.map λp=>lenAt st p.2).Perm ((BA 0 segs).map λp=>lenAt st p.2):=h.dir.map _;have A:(st.dir.map λp=>lenAt st p.2).sum=((BA 0 segs).map λp=>lenAt st p.2).sum:=C.sum_nat;show (st.dir.map λp=>lenAt st p.2).sum=_;rw[A];have:∀(r:Segs) (i:Nat),(∀j s,r[j]?=some s→segs[i+j]?=some s)→((BA i r).map λp=>lenAt st p.2)=r.map (·.2.length):=by
  intro r
  induction r with
  | nil=>intro i _;rfl
  | cons x r ih =>
   intro i hr;rw[BA,ZP,ZP,ih (i+1) (λj s hj=>by
    have:=hr (j+1) s (by simpa using hj)
    rwa [show i+1+j=i+(j+1) by omega])]
   obtain⟨f,o,B⟩:=h.file (hr 0 x rfl);rw[Nat.add_zero]at o
   congr 1
   show lenAt st (i:Int)=_;unfold lenAt;rw[Int.toNat_natCast,o];show f.1.length=_;rw[B]
 rw[this segs 0 (λj s hj=>by rw[Nat.zero_add];exact hj)]
theorem Rep.new (room:Int):Rep (new room) []:=⟨⟨rfl,rfl⟩,rfl,List.Perm.refl _,λi j s t h=>by simp at h⟩
theorem Rep.create (h:Rep st segs) {n:List UInt8} (hg:good n=true) (hn:∀s∈segs,s.1≠n) (hl:segs.length<64) :
  (create st n).2=0∧Rep (create st n).1 (segs++[(n,[])])∧(create st n).1.room=st.room∧(create st n).1.changes.length=st.changes.length+1:=by
 have o:mhas st.dir n=false:=by
  rw[h.has,List.any_eq_false];intro s A
  simpa using hn s A
 have C:Fs.create st n=({ (step st).1 with files:=st.files++[([],0)],dir:=mput st.dir n st.files.length,changes:=st.changes++[[(n,(st.files.length:Int))]] },0):=by
  unfold Fs.create;rw[if_neg (by rw[hg];simp),if_neg (by rw[o];simp),if_neg (by rw[h.dlen];omega),if_neg (by rw[step_calm h.calm];simp)]
 rw[C,step_calm h.calm];refine⟨rfl,⟨⟨h.calm.1,h.calm.2⟩,?_,?_,?_⟩,rfl,by simp⟩
 ·show (st.files++[(([]:List UInt8),(0:Nat))]).map (λf=>f.1)=_;rw[ZQ,h.files,ZQ];rfl
 ·show (mput st.dir n st.files.length).Perm _;refine (JX o _).trans ?_;rw[Ez,Nat.zero_add,h.len];refine (h.dir.cons _).trans ?_;exact (List.perm_append_singleton _ _).symm
 ·intro i j s t hi hj e;rcases ZU i segs.length with hi2|hi2
  ·rw[ZL hi2]at hi;rcases ZU j segs.length with hj2|hj2
   ·rw[ZL hj2]at hj;exact h.names i j s t hi hj e
   ·rw[List.getElem?_append_right hj2]at hj;have:t=(n,[]):=by
     have:=(List.getElem?_eq_some_iff.1 hj).1;have B:j-segs.length=0:=by simpa using this
     rw[B]at hj
     simpa using hj.symm
    subst this;exact absurd e (hn s (QZ hi))
  ·rw[List.getElem?_append_right hi2]at hi;have B:i-segs.length=0:=by have:=(List.getElem?_eq_some_iff.1 hi).1;simpa using this
   have A:s=(n,[]):=by rw[B]at hi;simpa using hi.symm
   subst A;rcases ZU j segs.length with hj2|hj2
   ·rw[ZL hj2]at hj;exact absurd e.symm (hn t (QZ hj))
   ·rw[List.getElem?_append_right hj2]at hj;have D:j-segs.length=0:=by have:=(List.getElem?_eq_some_iff.1 hj).1;simpa using this
    omega
theorem Rep.append (h:Rep st segs) {i:Nat} {s:List UInt8×List UInt8} (hi:segs[i]?=some s) (hg:good s.1=true) (b:List UInt8) (hb:s.2.length+b.length≤65536)
  (hr:(((segs.map (·.2.length)).sum:Nat):Int)+b.length≤st.room) :
  (append st s.1 b).2=0∧Rep (append st s.1 b).1 (segs.set i (s.1,s.2++b))∧(append st s.1 b).1.room=st.room∧(append st s.1 b).1.changes=st.changes:=by
 obtain⟨I,M,G⟩:=h.at hi;obtain⟨f,B,E⟩:=h.file hi;have N:Fs.append st s.1 b=({ (step st).1 with files:=grow st.files (idx st s.1) b },0):=by
  unfold Fs.append;rw[if_neg (by rw[G hg];simp),M,if_neg (by omega),step_calm h.calm,if_neg (by simp),h.used,if_neg (by omega)]
 have F:grow st.files (idx st s.1) b=st.files.set i (f.1++b,f.2):=by
  unfold grow;rw[I,B]
 rw[N,step_calm h.calm,F];refine⟨rfl,⟨⟨h.calm.1,h.calm.2⟩,?_,?_,?_⟩,rfl,rfl⟩
 ·show (st.files.set i (f.1++b,f.2)).map (·.1)=_;rw[List.map_set,List.map_set,h.files,E]
 ·show st.dir.Perm _;rw[Dc (segs.set i (s.1,s.2++b)) segs 0 (by
   rw[List.map_set];have L:=(List.getElem?_eq_some_iff.1 hi).1;have:(segs.map (·.1))[i]?=some s.1:=by rw[ZF,hi];rfl
   obtain⟨O,J⟩:=List.getElem?_eq_some_iff.1 this;rw[← J];exact List.set_getElem_self O)]
  exact h.dir
 ·have key:∀(k:Nat) t,(segs.set i (s.1,s.2++b))[k]?=some t→∃t',segs[k]?=some t'∧t'.1=t.1:=by
   intro k t hk;by_cases hik:i=k
   ·subst hik;rw[List.getElem?_set_self (List.getElem?_eq_some_iff.1 hi).1]at hk;simp at hk;subst hk;exact⟨s,hi,rfl⟩
   ·rw[List.getElem?_set_ne hik]at hk;exact⟨t,hk,rfl⟩
  intro a c x y ha hc e;obtain⟨K,o,C⟩:=key a x ha;obtain⟨H,D,A⟩:=key c y hc;exact h.names a c K H o D (by rw[C,A,e])
theorem Rep.sync (h:Rep st segs) {i:Nat} {s:List UInt8×List UInt8} (hi:segs[i]?=some s) (hg:good s.1=true) :
  (sync st s.1).2=0∧Rep (sync st s.1).1 segs∧(sync st s.1).1.room=st.room∧(sync st s.1).1.changes=st.changes:=by
 obtain⟨B,G,A⟩:=h.at hi;have E:Fs.sync st s.1=({ (step st).1 with files:=flush st.files (idx st s.1) },0):=by
  unfold Fs.sync;rw[if_neg (by rw[A hg];simp),step_calm h.calm,if_neg (by simp)]
 rw[E,step_calm h.calm];refine⟨rfl,⟨⟨h.calm.1,h.calm.2⟩,?_,h.dir,h.names⟩,rfl,rfl⟩;show (flush st.files (idx st s.1)).map (·.1)=_;rw[← h.files];unfold flush;obtain⟨f,o,D⟩:=h.file hi;rw[B,o];show (st.files.set i (f.1,f.1.length)).map (·.1)=_;rw[List.map_set];have:(st.files.map (·.1))[i]?=some f.1:=by rw[ZF,o];rfl
 obtain⟨F,C⟩:=List.getElem?_eq_some_iff.1 this;rw[← C];exact List.set_getElem_self F
theorem Rep.syncDir (h:Rep st segs):(syncDir st).2=0∧Rep (syncDir st).1 segs∧(syncDir st).1.room=st.room∧(syncDir st).1.changes=[]:=by
 have o:Fs.syncDir st=({ (step st).1 with sure:=st.dir,changes:=[] },0):=by
  unfold Fs.syncDir;rw[step_calm h.calm,if_neg (by simp)]
 rw[o,step_calm h.calm];exact⟨rfl,⟨⟨h.calm.1,h.calm.2⟩,h.files,h.dir,h.names⟩,rfl,rfl⟩
theorem Rep.small (h:Rep st segs) (hl:segs.length≤64) (hc:st.changes.length≤100) (hf:∀s∈segs,s.2.length≤65536) (hr:0≤st.room∧st.room≤1048576):Small st:=by
 refine⟨by rw[h.len];omega,by rw[h.dlen];omega,by omega,λf hf2=>?_,hr⟩;have o:f.1∈st.files.map (·.1):=List.mem_map.2 ⟨f,hf2,rfl⟩;rw[h.files]at o;obtain⟨s,B,A⟩:=List.mem_map.1 o;rw[← A];exact hf s B
theorem Rep.how (h:Rep st segs):(step st).2.1≤9223372036854775807:=by rw[step_calm h.calm];show (0:Int)≤9223372036854775807;omega
end
end Fs
end Go.Proofs.YtjldahcckmmenaaGreatDoor
