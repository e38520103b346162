/-
  The document's manifests: Good, Encode, walked. Manifests: steps one behind the other ('first'), walked. Manifests: Save, walked. Manifests: Save, walked (whole). 'ManifestLast': what holds from round to round (plain). Cleaning (plain); in calm weather. What the play of a file system keeps (plain): its directory is what its changes make of the sure one, rising, never more than 64 names. 'ManifestSwaps': what holds from round to round (plain).
-/
import Derived.Test.YtmlekglfdiacpaaGreatDoorZp12
import Derived.Test.YtmlekglfdiacpaaGreatDoorZp13
import Derived.Test.YtmlekglfdiacpaaGreatDoorZp6
import Derived.Lib.SlicesS
import Derived.Test.YtmlekglfdiacpaaGreatDoorZp11
open Go.Lib renaming hid → QA
open List renaming drop_succ_cons → QE, take_succ_cons → QF, drop_zero → QL, take_zero → QN, length_cons → QO, mem_cons_self → QP, mem_cons_of_mem → QT, getElem?_eq_getElem → ZG
open Nat renaming le_refl → QM, le_trans → QQ, reduceAdd → QW, zero_le → ZS, lt_of_lt_of_le → ZT
namespace Go.Proofs.YtmlekglfdiacpaaGreatDoor
set_option maxRecDepth 100000
set_option maxHeartbeats 4000000
set_option linter.unusedSimpArgs false
set_option linter.unusedVariables false
open Go Go.RowKit
open Go.Maps Go.WideMaps
theorem C8 (ver:Int) (sv:Value) (l:List Int) (w:World) (hS:Be w sv l) (hl:l.length≤9223372036854775807) :
  Calls Tryz.prog 46 #[.agg #[.int .i64 ver,sv]] w λe w'=>e=.returned (.bool (Mf.good ver l))∧Below w.heap.size w w':=by
 obtain⟨V,L,rfl⟩:=hS.form;have hb:Below w.heap.size w (w.alloc (.cells #[.int .i64 ver,.slice V l.length L] 48)):=(Below.refl _ _).alloc (QM _) _;have HS:=QA (hS.below hb);have U:=AH w (.cells #[.int .i64 ver,.slice V l.length L] 48);have y0:=AA U 0 _ rfl;have y1:=AA U 1 _ rfl;have HB:=QA hb;have ag:(0:Int)≤(l.length:Int):=Int.natCast_nonneg _;clear hS U hb;go_enter Tryz.func46,Tryz.ntmps46;by_cases h1:ver<1
 ·skip
  have C:Hid (Mf.good ver l=false):=QA (Mf.good_bad (by omega));go_wp2_with fail;go_ret;exact⟨congrArg (λx=>Ending.returned (.bool x)) C.out.symm,(Below.refl _ _).alloc (QM _) _⟩
 have S:1≤ver:=by omega
 by_cases h2:2147483647<ver
 ·skip
  have C:Hid (Mf.good ver l=false):=QA (Mf.good_bad (by omega));go_wp2_with fail;go_ret;exact⟨congrArg (λx=>Ending.returned (.bool x)) C.out.symm,(Below.refl _ _).alloc (QM _) _⟩
 have T:ver≤2147483647:=by omega
 by_cases h3:l.length<1
 ·have ai:(l.length:Int)<1:=by omega
  have C:Hid (Mf.good ver l=false):=QA (Mf.good_bad (by omega));go_wp2_with fail;go_ret;exact⟨congrArg (λx=>Ending.returned (.bool x)) C.out.symm,(Below.refl _ _).alloc (QM _) _⟩
 have ac:(1:Int)≤(l.length:Int):=by omega
 by_cases h4:32<l.length
 ·have af:(32:Int)<(l.length:Int):=by omega
  have C:Hid (Mf.good ver l=false):=QA (Mf.good_bad (by omega));go_wp2_with fail;go_ret;exact⟨congrArg (λx=>Ending.returned (.bool x)) C.out.symm,(Below.refl _ _).alloc (QM _) _⟩
 have ah:(l.length:Int)≤32:=by omega
 have I:Hid (Mf.good ver l=Mf.incr 0 l):=QA (Mf.good_incr S T (by omega) (by omega));clear h1 h2 h3 h4;go_wp2_with fail
 go_loopg [3,27] l.length (λk s3 s27 wr=>∃(j:Nat) (A:Int) (nd:Nat),j≤l.length∧k=l.length-j∧s27=.int .i64 (j:Nat)∧Mf.incr A (l.drop j)=Mf.incr 0 l∧(0<j→l[j-1]?=some A)∧(0≤A∧(j=0→A=0))∧wr=(w.alloc (.cells #[.int .i64 ver,.slice V l.length L] 48)).drewN nd)
 case atStart=>exact⟨0,0,0,ZS _,rfl,rfl,rfl,λh=>by omega,by omega,rfl⟩
 case round =>
  obtain⟨j,A,nd,hj,Y,rfl,J,F,O,rfl⟩:=hrel;have W:=QA Y;have B:=QA J;clear Y J;have ae:(0:Int)≤(j:Int):=Int.natCast_nonneg _;by_cases hjn:j<l.length
  ·have K:(j:Int)<(l.length:Int):=by omega
   obtain⟨x,Q⟩:∃x,l[j]?=some x:=⟨_,ZG hjn⟩
   obtain⟨g,o,rfl,hg,X⟩:=HS.out.at Q;have H:=QA (Mf.incr_drop Q A);have Z:=QA Q;have c0:(w.alloc (.cells #[.int .i64 ver,.slice (some ⟨g,o,none⟩) l.length L] 48)).cell? ⟨g,o+j,none⟩=some (.int .i64 x):=X;clear Q X;by_cases hj1:0<j
   ·obtain⟨q,rfl⟩:∃q,j=q+1:=⟨j-1,by omega⟩
    have G:=F hj1;rw[Nat.add_sub_cancel]at G;obtain⟨_,_,M,_,P⟩:=HS.out.at G;cases M;have c1:(w.alloc (.cells #[.int .i64 ver,.slice (some ⟨g,o,none⟩) l.length L] 48)).cell? ⟨g,o+q,none⟩=some (.int .i64 A):=P;have aj:(0:Int)≤(q:Int):=Int.natCast_nonneg _;have e0:decide ((0:Int)<(q:Int)+1)=true:=ltT (by omega);clear F G P hj1;by_cases hx1:x<1
    ·have M:=ltT hx1;have C:Hid (Mf.good ver l=false):=by
      rw[I.out,← B.out,H.out];refine QA ?_;have:¬(A<x∧x≤2147483647):=by omega
      by_cases h1:A<x
      ·rw[decide_eq_false (show ¬x≤2147483647 by omega),Bool.false_and,Bool.and_false]
      ·rw[decide_eq_false h1,Bool.false_and]
     go_wp2_with fail;refine AO [] (by kernel_rfl) (by kernel_rfl) ?_;simp only[Ap,QF,QN,QE,QL,Nat.sub_zero,Nat.reduceSub,QW]
     repeat (go_big_quiet_step (fail))
     refine wpQuiet_nil ?_;rintro _ ⟨nq,rfl⟩;go_wp2_with fail;go_ret;exact⟨congrArg (λx=>Ending.returned (.bool x)) C.out.symm,Below.drewN (Below.drewN ((Below.refl _ _).alloc (QM _) _) _) _⟩
    have D:1≤x:=by omega
    have M:=ltF D;by_cases hx2:2147483647<x
    ·have R:=ltT hx2;have C:Hid (Mf.good ver l=false):=by
      rw[I.out,← B.out,H.out];refine QA ?_;have:¬(A<x∧x≤2147483647):=by omega
      by_cases h1:A<x
      ·rw[decide_eq_false (show ¬x≤2147483647 by omega),Bool.false_and,Bool.and_false]
      ·rw[decide_eq_false h1,Bool.false_and]
     go_wp2_with fail;refine AO [] (by kernel_rfl) (by kernel_rfl) ?_;simp only[Ap,QF,QN,QE,QL,Nat.sub_zero,Nat.reduceSub,QW]
     repeat (go_big_quiet_step (fail))
     refine wpQuiet_nil ?_;rintro _ ⟨nq,rfl⟩;go_wp2_with fail;go_ret;exact⟨congrArg (λx=>Ending.returned (.bool x)) C.out.symm,Below.drewN (Below.drewN ((Below.refl _ _).alloc (QM _) _) _) _⟩
    have E:x≤2147483647:=by omega
    have R:=ltF E;by_cases hx3:x≤A
    ·skip
     have C:Hid (Mf.good ver l=false):=by
      rw[I.out,← B.out,H.out];refine QA ?_;have:¬(A<x∧x≤2147483647):=by omega
      by_cases h1:A<x
      ·rw[decide_eq_false (show ¬x≤2147483647 by omega),Bool.false_and,Bool.and_false]
      ·rw[decide_eq_false h1,Bool.false_and]
     go_wp2_with fail;refine AO [] (by kernel_rfl) (by kernel_rfl) ?_;simp only[Ap,QF,QN,QE,QL,Nat.sub_zero,Nat.reduceSub,QW]
     repeat (go_big_quiet_step (fail))
     refine wpQuiet_nil ?_;rintro _ ⟨nq,rfl⟩;go_wp2_with fail;go_ret;exact⟨congrArg (λx=>Ending.returned (.bool x)) C.out.symm,Below.drewN (Below.drewN ((Below.refl _ _).alloc (QM _) _) _) _⟩
    have ab:A<x:=by omega
    go_wp2_with fail;refine AO [] (by kernel_rfl) (by kernel_rfl) ?_;simp only[Ap,QF,QN,QE,QL,Nat.sub_zero,Nat.reduceSub,QW]
    repeat (go_big_quiet_step (fail))
    refine wpQuiet_nil ?_;rintro _ ⟨nq,rfl⟩;go_wp2_with fail;go_roundg (l.length-(q+1+1))
    case measure=>rw[W.out];omega
    case rel =>
     refine⟨q+1+1,x,nd+nq,by omega,rfl,by simp,?_,?_,by omega,?_⟩
     ·rw[← B.out,H.out,decide_eq_true (show A<x by omega),decide_eq_true (show x≤2147483647 by omega),Bool.true_and,Bool.true_and]
     ·intro _;rw[Nat.add_sub_cancel];exact Z.out
     ·simp[World.drewN,Nat.add_assoc]
   ·obtain rfl:j=0:=by omega
    obtain rfl:A=0:=O.2 rfl;rw[Nat.add_zero]at c0;by_cases hx1:x<1
    ·have M:=ltT hx1;have C:Hid (Mf.good ver l=false):=by
      rw[I.out,← B.out,H.out];refine QA ?_;have:¬(0<x∧x≤2147483647):=by omega
      by_cases h1:0<x
      ·rw[decide_eq_false (show ¬x≤2147483647 by omega),Bool.false_and,Bool.and_false]
      ·rw[decide_eq_false h1,Bool.false_and]
     go_wp2_with fail;refine AO [] (by kernel_rfl) (by kernel_rfl) ?_;simp only[Ap,QF,QN,QE,QL,Nat.sub_zero,Nat.reduceSub,QW]
     repeat (go_big_quiet_step (fail))
     refine wpQuiet_nil ?_;rintro _ ⟨nq,rfl⟩;go_wp2_with fail;go_ret;exact⟨congrArg (λx=>Ending.returned (.bool x)) C.out.symm,Below.drewN (Below.drewN ((Below.refl _ _).alloc (QM _) _) _) _⟩
    have D:1≤x:=by omega
    have M:=ltF D;by_cases hx2:2147483647<x
    ·have R:=ltT hx2;have C:Hid (Mf.good ver l=false):=by
      rw[I.out,← B.out,H.out];refine QA ?_;have:¬(0<x∧x≤2147483647):=by omega
      by_cases h1:0<x
      ·rw[decide_eq_false (show ¬x≤2147483647 by omega),Bool.false_and,Bool.and_false]
      ·rw[decide_eq_false h1,Bool.false_and]
     go_wp2_with fail;refine AO [] (by kernel_rfl) (by kernel_rfl) ?_;simp only[Ap,QF,QN,QE,QL,Nat.sub_zero,Nat.reduceSub,QW]
     repeat (go_big_quiet_step (fail))
     refine wpQuiet_nil ?_;rintro _ ⟨nq,rfl⟩;go_wp2_with fail;go_ret;exact⟨congrArg (λx=>Ending.returned (.bool x)) C.out.symm,Below.drewN (Below.drewN ((Below.refl _ _).alloc (QM _) _) _) _⟩
    have E:x≤2147483647:=by omega
    have R:=ltF E;go_wp2_with fail;refine AO [] (by kernel_rfl) (by kernel_rfl) ?_;simp only[Ap,QF,QN,QE,QL,Nat.sub_zero,Nat.reduceSub,QW]
    repeat (go_big_quiet_step (fail))
    refine wpQuiet_nil ?_;rintro _ ⟨nq,rfl⟩;go_wp2_with fail;go_roundg (l.length-(0+1))
    case measure=>rw[W.out];omega
    case rel =>
     refine⟨0+1,x,nd+nq,by omega,rfl,by simp,?_,?_,by omega,?_⟩
     ·rw[← B.out,H.out,decide_eq_true (show 0<x by omega),decide_eq_true (show x≤2147483647 by omega),Bool.true_and,Bool.true_and]
     ·intro _;rw[Nat.add_sub_cancel];exact Z.out
     ·simp[World.drewN,Nat.add_assoc]
  ·have K:(l.length:Int)≤(j:Int):=by omega
   have N:Hid (Mf.good ver l=true):=by
    rw[I.out,← B.out,List.drop_of_length_le (by omega)];exact QA rfl
   go_wp2_with fail;go_ret;exact⟨congrArg (λx=>Ending.returned (.bool x)) N.out.symm,Below.drewN HB.out _⟩
theorem pay_take (v:Int) (l:List Int) (i:Nat) (x:Int) (h:l[i]?=some x):Mf.pay (v::l.take (i+1))=Mf.pay (v::l.take i)++(Lib.itoa x++[10]):=by
 rw[List.take_add_one,h];unfold Mf.pay;rw[show v::(l.take i++(some x).toList)=(v::l.take i)++[x] by simp,List.flatMap_append];simp
theorem DF (ver:Int) (sv:Value) (l:List Int) (w:World) (hS:Be w sv l) (hg:Mf.good ver l=true) :
  Calls Tryz.prog 48 #[.agg #[.int .i64 ver,sv]] w λe w'=>e=.returned (.string ⟨(Mf.enc ver l).toArray⟩)∧Below w.heap.size w w':=by
 obtain⟨sa,Z,rfl⟩:=hS.form;have hb:Below w.heap.size w (w.alloc (.cells #[.int .i64 ver,.slice sa l.length Z] 48)):=(Below.refl _ _).alloc (QM _) _;have HS:=QA (hS.below hb);have V:=AH w (.cells #[.int .i64 ver,.slice sa l.length Z] 48);have y0:=AA V 0 _ rfl;have W:=QA V;have Y:=QA hb;have an:(0:Int)≤(l.length:Int):=Int.natCast_nonneg _;have X:=(Mf.good_out hg).2.1;have hv:=Mf.good_all hg ver (by simp);have N:=QA (Mf.good_all hg);have S:=QA (Mf.enc_ok hg);obtain⟨n,rfl⟩:=Int.eq_ofNat_of_zero_le (show 0≤ver by omega);clear hS V hb hg;go_enter Tryz.func48,Tryz.ntmps48;go_wp2_with fail;refine (Co n _ (by omega)).mono ?_;rintro e w1 ⟨rfl,hb1⟩;obtain⟨t,O⟩:∃t:ByteArray,t=⟨(Lib.decDigits n).toArray⟩:=⟨_,rfl⟩
 have ao:(t.size:Int)≤21:=by
  have A:=Lib.itoa_length_le (n:Int) (by omega) (by omega);rw[Lib.itoa_nonneg]at A;rw[O];show ((Lib.decDigits n).toArray.size:Int)≤21;simp;omega
 rw[← O];have HT:=QA O;have Q:=QA (Y.out.trans (hb1.mono Y.out.size));have F:=QA ((hb1.block _ (AE W.out)).trans W.out);have y1:=AA F.out 1 _ rfl;have I:=QA hb1;clear hb1 O;go_wp2_with fail
 go_loopg [3,4,14] l.length (λk s3 s4 s14 wr=>∃(i:Nat) (s:ByteArray),i≤l.length∧k=l.length-i∧s14=.int .i64 (i:Nat)∧s3=.string s∧s.data.toList=Mf.pay ((n:Int)::l.take i)∧s.size≤22*(i+1)∧Below w.heap.size w wr∧Below w1.heap.size w1 wr)
 case atStart=>exact⟨0,t++⟨#[10]⟩,ZS _,rfl,rfl,rfl,by rw[BS,HT.out];simp[Mf.pay,Lib.itoa_nonneg],by rw[ByteArray.size_append,show (⟨#[10]⟩:ByteArray).size=1 from rfl];omega,Q.out,Below.refl _ _⟩
 case round =>
  obtain⟨i,s,hi,hk,rfl,rfl,hs,aa,L,C⟩:=hrel;have HK:=QA hk;have J:=QA hs;have D:=QA L;have B:=QA C;have G:=(C.block _ (AE F.out)).trans F.out;have ap:=QA G;have y2:=AA G 1 _ rfl;have ah:(0:Int)≤(i:Int):=Int.natCast_nonneg _;have ai:(0:Int)≤(s.size:Int):=Int.natCast_nonneg _;clear hk hs L G C;by_cases hin:i<l.length
  ·have K:(i:Int)<(l.length:Int):=by omega
   obtain⟨x,P⟩:∃x,l[i]?=some x:=⟨_,ZG hin⟩
   have aj:=N.out x (QT _ (List.mem_of_getElem? P));obtain⟨g,o,rfl,hg,hc⟩:=((HS.out.below I.out).below B.out).at P;have U:=QA (pay_take (n:Int) l i x P);obtain⟨m,rfl⟩:=Int.eq_ofNat_of_zero_le (show 0≤x by omega);clear P;go_wp2_with fail;refine (Co m _ (by omega)).mono ?_;rintro e w2 ⟨rfl,hb2⟩;obtain⟨u,E⟩:∃t:ByteArray,t=⟨(Lib.decDigits m).toArray⟩:=⟨_,rfl⟩
   have ad:(u.size:Int)≤21:=by
    have A:=Lib.itoa_length_le (m:Int) (by omega) (by omega);rw[Lib.itoa_nonneg]at A;rw[E];show ((Lib.decDigits m).toArray.size:Int)≤21;simp;omega
   have af:(0:Int)≤(u.size:Int):=Int.natCast_nonneg _;rw[← E];have T:=QA E;have H:=QA (D.out.trans (hb2.mono D.out.size));have M:=QA (B.out.trans (hb2.mono B.out.size));clear hb2 E;go_wp2_with fail;go_roundg (l.length-(i+1))
   case measure=>rw[HK.out];omega
   case rel =>
    refine⟨i+1,s++u++⟨#[10]⟩,by omega,rfl,by simp,rfl,?_,by rw[ByteArray.size_append,ByteArray.size_append,show (⟨#[10]⟩:ByteArray).size=1 from rfl];omega,H.out,M.out⟩;rw[BS,BS,J.out,T.out,U.out,Lib.itoa_nonneg];simp
  ·have K:(l.length:Int)≤(i:Int):=by omega
   have HF:Hid (s.data.toList=Mf.pay ((n:Int)::l)):=by
    rw[J.out,List.take_of_length_le (by omega)];exact QA rfl
   go_wp2_with fail;refine (Ib 9 s wr (by omega)).mono ?_;rintro e w2 ⟨he,hb2⟩;have H:=QA (D.out.trans (hb2.mono D.out.size));unfold Do at he;rw[HF.out,S.out,if_pos rfl]at he;obtain⟨u,E⟩:∃t:ByteArray,t=⟨(Mf.enc (n:Int) l).toArray⟩:=⟨_,rfl⟩
   have R:e=.returned (.tuple #[.string u,.int .i64 0]):=by rw[he,E];rfl
   subst R;have T:=QA E;clear hb2 he E;go_wp2_with fail;go_ret;exact⟨by rw[T.out];rfl,H.out⟩
open Go.Maps Go.WideMaps
structure FnV where
 val:Value
 k:FuncId
 fst:Array Value
 cap:Array Value
def A8 (own0 own:Nat→Tag) (w0 w:World):Prop:=w0.heap.size≤w.heap.size∧∀b,b<w0.heap.size→own0 b=.other→own b=.other∧w.heap[b]?=w0.heap[b]?
theorem A8.refl (own:Nat→Tag) (w:World):A8 own own w w:=⟨QM _,λ_ _ h=>⟨h,rfl⟩⟩
theorem AV.others {base B:Nat} {st:Fs.St} {own:Nat→Tag} {w w':World} (h:AV base B st own w w'):∃V' own',Ad base B st V' own' w'∧(∀k,k<w.heap.size→own' k=own k)∧Kept own (·≠.other) w w':=h
theorem A8.next {own0 own own':Nat→Tag} {w0 w w':World} (h:A8 own0 own w0 w) (ho:∀k,k<w.heap.size→own' k=own k) (hk:Kept own (·≠.other) w w'):A8 own0 own' w0 w' :=
 ⟨QQ h.1 hk.size,λb hb h0=>by
  obtain⟨A,B⟩:=h.2 b hb h0;have o:=ZT hb h.1;exact⟨(ho b o).trans A,(hk.block b o (by rw[A];simp)).trans B⟩⟩
theorem Hp (base B:Nat) (fs:List (Fs.St→Fs.St×Int)) (ks:List FnV) (gs:Nat) (J:Nat→Fs.St→Prop) (st0:Fs.St) (V0:FsV) (own0:Nat→Tag) (w0:World) (h0:Ad base B st0 V0 own0 w0) (hJ0:J 0 st0)
  (hn:ks.length=fs.length) (hn2:fs.length≤1000) (hgs:gs<w0.heap.size) (hgo:own0 gs=.other) (hcell:∀(j:Nat) x,ks[j]?=some x→w0.cell? ⟨gs,j,none⟩=some x.val∧x.val=.func (.func x.k) x.fst x.cap∧∀w,Sem.run Tryz.prog (callFunc x.k (x.fst++x.cap)) w=.ok (.enter x.k (x.fst++x.cap)) w)
  (hcall:∀(j:Nat) f x,fs[j]?=some f→ks[j]?=some x→∀st V own w,Ad base B st V own w→J j st→A8 own0 own w0 w→Calls Tryz.prog x.k (x.fst++x.cap) w λe w'=>e=.returned (.int .i64 (f st).2)∧AV base B (f st).1 own w w')
  (hJ:∀(j:Nat) f st,fs[j]?=some f→J j st→(f st).2=0→J (j+1) (f st).1) :
  Calls Tryz.prog 38 #[.slice (some ⟨gs,0,none⟩) fs.length fs.length] w0 λe w'=>e=.returned (.int .i64 (Fs.first fs st0).2)∧AV base B (Fs.first fs st0).1 own0 w0 w':=by
 have P:=QA hcell;have O:=QA hcall;have HJ:=QA hJ;have H0:=QA h0;have ac:=QA hJ0;clear hcell hcall hJ h0 hJ0;go_enter Tryz.func38,Tryz.ntmps38;go_wp2_with fail
 go_loopg [8] fs.length (λk s8 wr=>∃(j:Nat) (st:Fs.St) (V:FsV) (own:Nat→Tag),j≤fs.length∧k=fs.length-j∧s8=.int .i64 (j:Nat)∧Ad base B st V own wr∧J j st∧(∀k,k<w0.heap.size→own k=own0 k)∧Kept own0 (·≠.other) w0 wr∧Fs.first (fs.drop j) st=Fs.first fs st0)
 case atStart=>exact⟨0,st0,V0,own0,ZS _,rfl,rfl,H0.out,ac.out,λ_ _=>rfl,Kept.refl _ _ _,rfl⟩
 case round =>
  obtain⟨j,st,V,own,hj,T,rfl,U,X,M,E,K⟩:=hrel;have HK:=QA T;have Z:=QA U;have S:=QA X;have A:=QA M;have o:=QA E;have L:=QA K;clear T U X M E K;have aw:(0:Int)≤(j:Int):=Int.natCast_nonneg _;by_cases hjn:j<fs.length
  ·have R:(j:Int)<(fs.length:Int):=by omega
   obtain⟨f,hf⟩:∃f,fs[j]?=some f:=⟨_,ZG hjn⟩
   obtain⟨x,hx⟩:∃x,ks[j]?=some x:=⟨_,ZG (by rw[hn];exact hjn)⟩
   obtain⟨c1,c2,c3⟩:=P.out j x hx;have H:A8 own0 own w0 wr:=⟨o.out.size,λb hb N=>⟨(A.out b hb).trans N,o.out.block b hb (by rw[N];simp)⟩⟩
   have ad:wr.cell? ⟨gs,j,none⟩=some (.func (.func x.k) x.fst x.cap):=by
    rw[World.cell?_of_block (H.2 gs hgs hgo).2,c1,c2]
   have HC:=QA (O.out j f x hf hx st V own wr Z.out S.out H);have HD:Hid (Fs.first fs st0=if (f st).2≠0 then f st else Fs.first (fs.drop (j+1)) (f st).1):=by
    rw[← L.out];obtain⟨N,h2⟩:=List.getElem?_eq_some_iff.1 hf;rw[List.drop_eq_getElem_cons N,h2,Fs.first];exact QA rfl
   have HF:=QA hf;obtain⟨k,fst,cap,W⟩:∃k fst cap,x.k=k∧x.fst=fst∧x.cap=cap:=⟨_,_,_,rfl,rfl,rfl⟩
   obtain⟨e1,e2,e3⟩:=W;rw[e1,e2,e3]at ad c3 HC;clear e1 e2 e3 hx hf c1 c2 H;go_wp2_with fail;refine HC.out.mono ?_;rintro e w1 ⟨rfl,hp⟩;obtain⟨V1,G,N,Q,D⟩:=hp;have F:Hid (∀k,k<w0.heap.size→G k=own0 k):=QA λk T=>(Q k (ZT T o.out.size)).trans (A.out k T)
   have Y:Hid (Kept own0 (·≠.other) w0 w1):=by
    refine QA ⟨D.os.trans o.out.os,D.tape.trans o.out.tape,D.output.trans o.out.output,QQ o.out.size D.size,λb hb ht=>?_⟩;rw[D.block b (ZT hb o.out.size) (by rw[A.out b hb];exact ht)];exact o.out.block b hb ht
   have H1:=QA N;obtain⟨C,hC⟩:∃C,C=(f st).2:=⟨_,rfl⟩
   rw[← hC];have I:=QA hC;clear hC N Q D;by_cases hC0:C=0
   ·subst hC0;have HN:=QA (HJ.out j f st HF.out S.out I.out.symm);go_wp2_with fail;go_roundg (fs.length-(j+1))
    case measure=>rw[HK.out];omega
    case rel=>exact⟨j+1,(f st).1,V1,G,by omega,rfl,by simp,H1.out,HN.out,F.out,Y.out,by rw[HD.out,if_neg (by rw[← I.out];simp)]⟩
   ·have ay:(C != 0)=true:=by rw[bne_iff_ne];exact hC0
    have ao:(C==0)=false:=by rw[beq_eq_false_iff_ne];exact hC0
    have HE:Hid (Fs.first fs st0=f st):=by rw[HD.out,if_pos (by rw[← I.out];exact hC0)];exact QA rfl
    clear hC0;go_wp2_with fail;go_ret;rw[HE.out];exact⟨by rw[← I.out];rfl,V1,G,H1.out,F.out,Y.out⟩
  ·have R:(fs.length:Int)≤(j:Int):=by omega
   have HE:Hid (Fs.first fs st0=(st,0)):=by rw[← L.out,List.drop_of_length_le (by omega),Fs.first];exact QA rfl
   go_wp2_with fail;go_ret;rw[HE.out];exact⟨rfl,V,own,Z.out,A.out,o.out⟩
open Go.Maps Go.WideMaps
theorem Eh {w:World} {a:Option Addr} {n c:Nat} {ls:List ByteArray} (h:Ca w (.slice a n c) ls) (hn:n≤1000000) (x:ByteArray) :
  Calls Tryz.prog 40 #[.slice a n c,.string x] w λe w'=>e=.returned (.bool (Lib.containsS ls x))∧w'=w:=by
 obtain⟨I,H,A,C⟩:=h;simp only[Value.slice.injEq]at A;obtain⟨rfl,rfl,rfl⟩:=A;cases ls with
 | nil=>exact (Tryz.slices_Contains_string_empty a c x w).mono (by rintro e w' ⟨rfl,rfl⟩;exact⟨rfl,rfl⟩)
 | cons y r =>
  obtain⟨b,o,F,_,_⟩:=C 0 y rfl;subst F;refine (Tryz.slices_Contains_string b o (y::r).length c (y::r) x w (QM _) (by omega) ?_).mono ?_
  ·intro j hj;obtain⟨G,D,B,_,E⟩:=C j (y::r)[j] (ZG hj);simp only[Option.some.injEq,Addr.mk.injEq,and_true]at B;obtain⟨rfl,rfl⟩:=B;rw[E,List.getD_eq_getElem?_getD,ZG hj];rfl
  ·rintro e w' ⟨rfl,rfl⟩;refine⟨congrArg (λb=>Ending.returned (.bool b)) ?_,rfl⟩;rw[List.take_of_length_le (QM _)]
theorem Hr {d:Fs.Names} {n:List UInt8}:Lib.containsS (strsOf (Fs.keys d)) (⟨n.toArray⟩:ByteArray)=Fs.mhas d n:=by
 rw[Bool.eq_iff_iff,Lib.containsS_iff,← Fs.keys_mem];unfold strsOf;rw[List.mem_map];constructor
 ·rintro⟨x,hx,e⟩;have:x=n:=by
   have:=congrArg (λb:ByteArray=>b.data.toList) e
   simpa using this
  rw[← this];exact hx
 ·exact λh=>⟨n,h,rfl⟩
def EO:ByteArray:=⟨#[109,97,110,105,102,101,115,116,46,116,109,112]⟩
def EP:ByteArray:=⟨#[109,97,110,105,102,101,115,116]⟩
theorem Ca.len {w:World} {a:Option Addr} {n c:Nat} {ls:List ByteArray} (h:Ca w (.slice a n c) ls):n=ls.length:=by
 obtain⟨C,B,o,A⟩:=h;simp only[Value.slice.injEq]at o;exact o.2.1
theorem Ci (d:Fs.Names):(strsOf (Fs.keys d)).length=d.length:=by unfold strsOf;rw[List.length_map,Fs.keys_len]
section
variable (base B : Nat) (st : Fs.St) (V : FsV) (own : Nat → Tag) (w : World) (h : Ad base B st V own w) (hbase : base ≤ w.heap.size) (k : Nat) (hS : Fs.Sound st k) (hk : k ≤ 700000) (fb : Nat) (hf : w.cell? ⟨fb, 0, none⟩ = some (.pointer (some ⟨B, 0, none⟩)))
include h hbase hS hk hf
set_option linter.unusedSectionVars false
set_option maxHeartbeats 1000000
set_option maxRecDepth 100000
theorem Gk:Calls Tryz.prog 39 #[.pointer (some ⟨fb,0,none⟩)] w λe w'=>e=.returned (.int .i64 (Mf.clear st).2)∧AV base B (Mf.clear st).1 own w w':=by
 have H:=QA h;have I:=hS.ndir;have L:=hS.nf;have M:=hS.nc;have E:=AN hf;clear h;go_enter Tryz.func39,Tryz.ntmps39;go_wp2_with fail;refine (Dw base B st V own w H.out (by omega)).mono ?_;rintro e w1 ⟨v,rfl,hStr,_,hb1⟩;obtain⟨a,c,K⟩:=hStr.form;subst K;have O:=QA (H.out.kept (AL hb1));have o:=QA hb1;have P:w1.cell? ⟨fb,0,none⟩=some (.pointer (some ⟨B,0,none⟩)):=by rw[hb1.cell E];exact hf
 have G:=hb1.size;have A:=QA hStr;obtain⟨N,F⟩:∃N,N=(strsOf (Fs.keys st.dir)).length:=⟨_,rfl⟩
 have D:N≤1000000:=by rw[F,Ci];omega
 rw[← F]at A ⊢;clear hb1 F hStr;go_wp2_with fail;refine (Eh A.out D _).mono ?_;rintro e w2 ⟨rfl,hw2⟩;subst hw2;rw[show (⟨#[109,97,110,105,102,101,115,116,46,116,109,112]⟩:ByteArray)=⟨Mf.draft.toArray⟩ from rfl,Hr];cases hh:Fs.mhas st.dir Mf.draft
 ·have C:Hid (Mf.clear st=(st,0)):=by unfold Mf.clear;rw[hh];exact QA rfl
  clear hh;go_wp2_with fail;go_ret;rw[C.out];exact⟨rfl,AV.of H.out o.out⟩
 ·have C:Hid (Mf.clear st=Fs.remove st Mf.draft):=by unfold Mf.clear;rw[if_pos hh];exact QA rfl
  clear hh;go_wp2_with fail;refine (Cl base B st V own EO w2 O.out (by omega) (by decide) (by omega) (by omega) (by omega)).mono ?_;rintro e w3 ⟨rfl,hp⟩;have J:=QA hp;clear hp;go_wp2_with fail;go_ret;rw[C.out];exact⟨rfl,AV.step (AL o.out) (λ_ _=>rfl) J.out⟩
theorem G9:Calls Tryz.prog 42 #[.pointer (some ⟨fb,0,none⟩)] w λe w'=>e=.returned (.int .i64 (Fs.create st Mf.draft).2)∧AV base B (Fs.create st Mf.draft).1 own w w':=by
 have o:=hS.ndir;have C:=hS.nf;have D:=hS.nc;go_enter Tryz.func42,Tryz.ntmps42;go_wp2_with fail;refine (Dx base B st V own EO w h (by decide) (by omega) (by omega) (by omega)).mono ?_;rintro e w3 ⟨rfl,hp⟩;have A:=QA hp;clear hp;go_wp2_with fail;go_ret;exact⟨rfl,A.out⟩
theorem Hm:Calls Tryz.prog 44 #[.pointer (some ⟨fb,0,none⟩)] w λe w'=>e=.returned (.int .i64 (Fs.sync st Mf.draft).2)∧AV base B (Fs.sync st Mf.draft).1 own w w':=by
 go_enter Tryz.func44,Tryz.ntmps44;go_wp2_with fail;refine (FO base B st V own EO w h (by decide)).mono ?_;rintro e w3 ⟨rfl,hp⟩;have o:=QA hp;clear hp;go_wp2_with fail;go_ret;exact⟨rfl,o.out⟩
theorem Hk:Calls Tryz.prog 45 #[.pointer (some ⟨fb,0,none⟩)] w λe w'=>e=.returned (.int .i64 (Fs.rename st Mf.draft Mf.final).2)∧AV base B (Fs.rename st Mf.draft Mf.final).1 own w w':=by
 have o:=hS.ndir;have C:=hS.nf;have D:=hS.nc;go_enter Tryz.func45,Tryz.ntmps45;go_wp2_with fail;refine (EY base B st V own EO EP w h hbase (by decide) (by decide) (by omega) (by omega) (by omega)).mono ?_;rintro e w3 ⟨rfl,hp⟩;have A:=QA hp;clear hp;go_wp2_with fail;go_ret;exact⟨rfl,A.out⟩
theorem Hd (bb:Nat) (bv:Value) (b:List UInt8) (hbv:BytesIn w own bv b) (hc:w.cell? ⟨bb,0,none⟩=some bv) (hl:b.length≤1000000) (hp:Fs.PlanOK st) :
  Calls Tryz.prog 43 #[.pointer (some ⟨fb,0,none⟩),.pointer (some ⟨bb,0,none⟩)] w λe w'=>e=.returned (.int .i64 (Fs.append st Mf.draft b).2)∧AV base B (Fs.append st Mf.draft b).1 own w w':=by
 have C:=hS.ndir;have E:=hS.nf;have F:=hS.nc;have A:=QA hbv;obtain⟨g,o,c,rfl,_⟩:=hbv;go_enter Tryz.func43,Tryz.ntmps43;go_wp2_with fail;refine (ER base B st V own EO _ b w h A.out (by decide) (λf hf=>(hS.full f hf).2) hl (by omega) (by omega) hS.room hp.how hbase).mono ?_;rintro e w3 ⟨rfl,hp⟩;have D:=QA hp;clear hp;go_wp2_with fail;go_ret;exact⟨rfl,D.out⟩
end
open Go.Maps Go.WideMaps
theorem Au.bytesIn {w:World} {base:Nat} {own:Nat→Tag} {v:Value} {l:List UInt8} (h:Au w base v l) (hl:0<l.length) (ho:∀k,base≤k→own k=.other):BytesIn w own v l:=by
 obtain⟨g,c,F⟩:=Bl h hl;subst F;have A:=h.lt g rfl;obtain⟨_,I,E,G⟩:=h.byts.form;have o:l.length≤c:=by simp only[Value.slice.injEq]at E;omega
 refine⟨g,0,c,rfl,o,A.2,ho g A.1,λi x hx=>?_⟩;obtain⟨b,D,B,H,C⟩:=h.byts.at hx;cases B;exact C
theorem BytesIn.others {w w':World} {own own':Nat→Tag} {v:Value} {l:List UInt8} (h:BytesIn w own v l) (ho:A8 own own' w w'):BytesIn w' own' v l:=by
 obtain⟨g,o,c,B,E,A,C,D⟩:=h;obtain⟨F,G⟩:=ho.2 g A C;exact⟨g,o,c,B,E,ZT A ho.1,F,λi x hi=>by rw[World.cell?_of_block G];exact D i x hi⟩
theorem G1 (cap:Array Value) (w:World):Sem.run Tryz.prog (callFunc 39 cap) w=.ok (.enter 39 cap) w:=by kernel_rfl
theorem Gn (cap:Array Value) (w:World):Sem.run Tryz.prog (callFunc 42 cap) w=.ok (.enter 42 cap) w:=by kernel_rfl
theorem Gv (cap:Array Value) (w:World):Sem.run Tryz.prog (callFunc 43 cap) w=.ok (.enter 43 cap) w:=by kernel_rfl
theorem Hb (cap:Array Value) (w:World):Sem.run Tryz.prog (callFunc 44 cap) w=.ok (.enter 44 cap) w:=by kernel_rfl
theorem Hf (cap:Array Value) (w:World):Sem.run Tryz.prog (callFunc 45 cap) w=.ok (.enter 45 cap) w:=by kernel_rfl
theorem Gt (cap:Array Value) (w:World):Sem.run Tryz.prog (callFunc 26 cap) w=.ok (.enter 26 cap) w:=by kernel_rfl
def A6 (B fb bb:Nat):List FnV :=
 [⟨.func (.func 39) #[] #[.pointer (some ⟨fb,0,none⟩)],39,#[],#[.pointer (some ⟨fb,0,none⟩)]⟩,
  ⟨.func (.func 42) #[] #[.pointer (some ⟨fb,0,none⟩)],42,#[],#[.pointer (some ⟨fb,0,none⟩)]⟩,
  ⟨.func (.func 43) #[] #[.pointer (some ⟨fb,0,none⟩),.pointer (some ⟨bb,0,none⟩)],43,#[],#[.pointer (some ⟨fb,0,none⟩),.pointer (some ⟨bb,0,none⟩)]⟩,
  ⟨.func (.func 44) #[] #[.pointer (some ⟨fb,0,none⟩)],44,#[],#[.pointer (some ⟨fb,0,none⟩)]⟩,
  ⟨.func (.func 45) #[] #[.pointer (some ⟨fb,0,none⟩)],45,#[],#[.pointer (some ⟨fb,0,none⟩)]⟩,
  ⟨.func (.func 26) #[.pointer (some ⟨B,0,none⟩)] #[],26,#[.pointer (some ⟨B,0,none⟩)],#[]⟩]
theorem F8 (B fb bb:Nat):∀(j:Nat) x,(A6 B fb bb)[j]?=some x→x.val=.func (.func x.k) x.fst x.cap∧∀w,Sem.run Tryz.prog (callFunc x.k (x.fst++x.cap)) w=.ok (.enter x.k (x.fst++x.cap)) w
 | 0,x,h=>by simp[A6]at h;subst h;exact⟨rfl,λw=>G1 _ w⟩
 | 1,x,h=>by simp[A6]at h;subst h;exact⟨rfl,λw=>Gn _ w⟩
 | 2,x,h=>by simp[A6]at h;subst h;exact⟨rfl,λw=>Gv _ w⟩
 | 3,x,h=>by simp[A6]at h;subst h;exact⟨rfl,λw=>Hb _ w⟩
 | 4,x,h=>by simp[A6]at h;subst h;exact⟨rfl,λw=>Hf _ w⟩
 | 5,x,h=>by simp[A6]at h;subst h;exact⟨rfl,λw=>Gt _ w⟩
 | j+6,x,h=>by simp[A6]at h
def EN (k j:Nat) (st:Fs.St):Prop:=Fs.Sound st (k+2*j)∧Fs.PlanOK st
theorem Eb (k:Nat) (b:List UInt8):∀(j:Nat) f st,(Mf.steps b)[j]?=some f→EN k j st→EN k (j+1) (f st).1
 | 0,f,st,h,hj=>by
  simp[Mf.steps]at h;subst h;unfold Mf.clear;split
  ·exact⟨hj.1.remove _,hj.2.of (Fs.plan_remove _ _)⟩
  ·exact⟨hj.1.mono (by omega),hj.2⟩
 | 1,f,st,h,hj=>by simp[Mf.steps]at h;subst h;exact⟨hj.1.create _,hj.2.of (Fs.plan_create _ _)⟩
 | 2,f,st,h,hj=>by simp[Mf.steps]at h;subst h;exact⟨(hj.1.append _ _).mono (by omega),hj.2.of (Fs.plan_append _ _ _)⟩
 | 3,f,st,h,hj=>by simp[Mf.steps]at h;subst h;exact⟨(hj.1.sync _).mono (by omega),hj.2.of (Fs.plan_sync _ _)⟩
 | 4,f,st,h,hj=>by simp[Mf.steps]at h;subst h;exact⟨hj.1.rename _ _,hj.2.of (Fs.plan_rename _ _ _)⟩
 | 5,f,st,h,hj=>by simp[Mf.steps]at h;subst h;exact⟨hj.1.syncDir.mono (by omega),hj.2.of (Fs.plan_syncDir _)⟩
 | j+6,f,st,h,hj=>by simp[Mf.steps]at h
theorem Di {k n:Nat}:∀(fs:List (Fs.St→Fs.St×Int)) (j:Nat) (st:Fs.St),(∀(i:Nat) f st,fs[i]?=some f→EN k (j+i) st→EN k (j+i+1) (f st).1)→j+fs.length≤n→EN k j st→EN k n (Fs.first fs st).1
 | [],j,st,_,hn,h=>⟨h.1.mono (by simp at hn;omega),h.2⟩
 | f::r,j,st,hf,hn,h=>by
  have o:=hf 0 f st rfl h;rw[Fs.first];rw[QO]at hn;split
  ·exact⟨o.1.mono (by omega),o.2⟩
  ·exact Di r (j+1) _ (λi g s hg hs=>by
    have:=hf (i+1) g s (by simpa using hg) (by rw[show j+(i+1)=j+1+i by omega];exact hs);rw[show j+(i+1)+1=j+1+i+1 by omega]at this;exact this) (by omega) o
theorem B4 {st:Fs.St} {k:Nat} (hS:Fs.Sound st k) (hP:Fs.PlanOK st) (v:Int) (l:List Int):Fs.Sound (Mf.save st v l).1 (k+12)∧Fs.PlanOK (Mf.save st v l).1:=by
 unfold Mf.save;split
 ·exact⟨hS.mono (by omega),hP⟩
 ·exact Di (n:=6) _ 0 st (λi f s hf hs=>by
   rw[Nat.zero_add]at hs ⊢;exact Eb k _ i f s hf hs) (by simp[Mf.steps]) ⟨hS,hP⟩
theorem I7 (v:Int) (l:List Int):0<(Mf.enc v l).length:=by unfold Mf.enc;rw[Fr.bytes_len];omega
theorem FP (base B:Nat) (st:Fs.St) (V:FsV) (own:Nat→Tag) (ver:Int) (sv:Value) (l:List Int) (w:World) (h:Ad base B st V own w) (hE:B5 base w) (hbase:base≤w.heap.size) (k:Nat) (hS:Fs.Sound st k) (hk:k≤600000) (hP:Fs.PlanOK st)
  (hN:Be w sv l) (hl:l.length≤1000000000) :
  Calls Tryz.prog 9 #[.pointer (some ⟨B,0,none⟩),.agg #[.int .i64 ver,sv]] w λe w'=>e=.returned (.int .i64 (Mf.save st ver l).2)∧AV base B (Mf.save st ver l).1 own w w':=by
 obtain⟨P,O,rfl⟩:=hN.form;have e1:(w.alloc (.cells #[.pointer (some ⟨B,0,none⟩)] 24)).heap.size=w.heap.size+1:=by simp
 have W:Below w.heap.size w ((w.alloc (.cells #[.pointer (some ⟨B,0,none⟩)] 24)).alloc (.cells #[.int .i64 ver,.slice P l.length O] 37)):=((Below.refl _ _).alloc (QM _) _).alloc (by simp) _;have K:=AH (w.alloc (.cells #[.pointer (some ⟨B,0,none⟩)] 24)) (.cells #[.int .i64 ver,.slice P l.length O] 37);rw[e1]at K;have U:((w.alloc (.cells #[.pointer (some ⟨B,0,none⟩)] 24)).alloc (.cells #[.int .i64 ver,.slice P l.length O] 37)).cell? ⟨w.heap.size,0,none⟩=some (.pointer (some ⟨B,0,none⟩)):=by
  rw[World.cell?_of_block (Lib.alloc_old _ _ _ (by simp))];exact A4 w _ _ 0 _ rfl
 have y0:((w.alloc (.cells #[.pointer (some ⟨B,0,none⟩)] 24)).alloc (.cells #[.int .i64 ver,.slice P l.length O] 37)).cell? ⟨w.heap.size+1,0,none⟩=some (.int .i64 ver):=AA K 0 _ rfl;have y1:((w.alloc (.cells #[.pointer (some ⟨B,0,none⟩)] 24)).alloc (.cells #[.int .i64 ver,.slice P l.length O] 37)).cell? ⟨w.heap.size+1,1,none⟩=some (.slice P l.length O):=AA K 1 _ rfl;have H:=QA h;have HE:=QA hE;have HN:=QA hN;have F:=QA W;have R:=QA U;clear h hE hN W K e1 U;go_enter Tryz.func9,Tryz.ntmps9;go_wp2_with fail;refine (Dl ver _ l _ base (HE.out.below (F.out.mono hbase)) (QQ hbase F.out.size) (HN.out.below F.out) hl).mono ?_;rintro e w1 ⟨hb1,hres⟩;have G:=QA (F.out.trans (hb1.mono F.out.size));have H1:=QA (H.out.kept (AL G.out));have ad:w1.cell? ⟨w.heap.size,0,none⟩=some (.pointer (some ⟨B,0,none⟩)):=by rw[hb1.cell (AN R.out)];exact R.out
 have ai:w.heap.size+2≤w1.heap.size:=by have:=hb1.size;simp at this;omega
 clear hb1 y0 y1;rcases hres with⟨hg,b,rfl,hob⟩|⟨hg,rfl⟩
 ·obtain⟨C,D,A,ae,aj⟩:=Au.form3 hob;subst ae;have ab:=QA hob;have HG:=QA hg;clear hg hob;have X:(w1.alloc (.cells #[.slice C D A] 38)).cell? ⟨w.heap.size,0,none⟩=some (.pointer (some ⟨B,0,none⟩)):=by rw[World.cell?_of_block (Lib.alloc_old _ _ _ (show w.heap.size<w1.heap.size by omega))];exact ad
  have M:(w1.alloc (.cells #[.slice C D A] 38)).cell? ⟨w1.heap.size,0,none⟩=some (.slice C D A):=A4 _ _ _ 0 _ rfl;have o:Below w1.heap.size w1 ((w1.alloc (.cells #[.slice C D A] 38)).alloc (.cells ((A6 B w.heap.size w1.heap.size).map (·.val)).toArray 75)):=((Below.refl _ _).alloc (QM _) _).alloc (by simp) _;have Q:=QA (H1.out.kept (AL o));have J:∀(j:Nat) x,(A6 B w.heap.size w1.heap.size)[j]?=some x→((w1.alloc (.cells #[.slice C D A] 38)).alloc (.cells ((A6 B w.heap.size w1.heap.size).map (·.val)).toArray 75)).cell? ⟨w1.heap.size+1,j,none⟩=some x.val∧x.val=.func (.func x.k) x.fst x.cap∧∀w,Sem.run Tryz.prog (callFunc x.k (x.fst++x.cap)) w=.ok (.enter x.k (x.fst++x.cap)) w:=λj x hx=>by
   refine⟨?_,F8 B _ _ j x hx⟩;have e2:(w1.alloc (.cells #[.slice C D A] 38)).heap.size=w1.heap.size+1:=by simp
   rw[← e2];exact A4 _ _ _ j _ (by simp[hx])
  have aa:Hid (BytesIn ((w1.alloc (.cells #[.slice C D A] 38)).alloc (.cells ((A6 B w.heap.size w1.heap.size).map (·.val)).toArray 75)) own (.slice C D A) (Mf.enc ver l)) :=
   QA (((ab.out.bytesIn (I7 ver l) (λk hk=>H.out.fresh k (by simp at hk;omega))).kept (AL (T:=(·≠.other)) o) (by simp)))
  have Z:Hid (((w1.alloc (.cells #[.slice C D A] 38)).alloc (.cells ((A6 B w.heap.size w1.heap.size).map (·.val)).toArray 75)).cell? ⟨w.heap.size,0,none⟩=some (.pointer (some ⟨B,0,none⟩))):=by
   rw[World.cell?_of_block (Lib.alloc_old _ _ _ (by simp;omega))];exact QA X
  have Y:Hid (((w1.alloc (.cells #[.slice C D A] 38)).alloc (.cells ((A6 B w.heap.size w1.heap.size).map (·.val)).toArray 75)).cell? ⟨w1.heap.size,0,none⟩=some (.slice C D A)):=by
   rw[World.cell?_of_block (Lib.alloc_old _ _ _ (by simp))];exact QA M
  have L:=QA (Hp base B (Mf.steps (Mf.enc ver l)) (A6 B w.heap.size w1.heap.size) (w1.heap.size+1) (EN k) st V own _ Q.out ⟨hS,hP⟩ rfl (by simp[Mf.steps]) (by simp;try omega) (H.out.fresh _ (by omega)) J
   (by
    intro j f x hf hx st' V' own' w' hok hJ hO;have E:w'.cell? ⟨w.heap.size,0,none⟩=some (.pointer (some ⟨B,0,none⟩)):=by
     rw[World.cell?_of_block (hO.2 w.heap.size (by simp;omega) (H.out.fresh _ (QM _))).2];exact Z.out
    have ac:w'.cell? ⟨w1.heap.size,0,none⟩=some (.slice C D A):=by
     rw[World.cell?_of_block (hO.2 w1.heap.size (by simp;omega) (H.out.fresh _ (by omega))).2];exact Y.out
    have I:base≤w'.heap.size:=by have:=hO.1;simp at this;omega
    match j,hf,hx with
    | 0,hf,hx=>simp[Mf.steps]at hf;simp[A6]at hx;subst hf hx;exact Gk base B st' V' own' w' hok I _ hJ.1 (by omega) _ E
    | 1,hf,hx=>simp[Mf.steps]at hf;simp[A6]at hx;subst hf hx;exact G9 base B st' V' own' w' hok I _ hJ.1 (by omega) _ E
    | 2,hf,hx =>
     simp[Mf.steps]at hf;simp[A6]at hx;subst hf hx;exact Hd base B st' V' own' w' hok I _ hJ.1 (by omega) _ E _ _ _ (aa.out.others hO) ac (by have:=Mf.enc_len HG.out;omega) hJ.2
    | 3,hf,hx=>simp[Mf.steps]at hf;simp[A6]at hx;subst hf hx;exact Hm base B st' V' own' w' hok I _ hJ.1 (by omega) _ E
    | 4,hf,hx=>simp[Mf.steps]at hf;simp[A6]at hx;subst hf hx;exact Hk base B st' V' own' w' hok I _ hJ.1 (by omega) _ E
    | 5,hf,hx=>simp[Mf.steps]at hf;simp[A6]at hx;subst hf hx;exact CL base B st' V' own' w' hok
    | j+6,hf,hx=>simp[Mf.steps]at hf)
   (λj f s hf hs _=>Eb k _ j f s hf hs))
  have S:=QA (G.out.trans (o.mono G.out.size));have N:Hid (Mf.save st ver l=Fs.first (Mf.steps (Mf.enc ver l)) st):=by unfold Mf.save;rw[if_neg (by rw[HG.out];simp)];exact QA rfl
  clear J o M;go_wp2_with fail;refine L.out.mono ?_;rintro e w3 ⟨rfl,hp⟩;have HP:=QA hp;clear hp;go_wp2_with fail;go_ret;rw[N.out];exact⟨rfl,AV.step (AL S.out) (λ_ _=>rfl) HP.out⟩
 ·have N:Hid (Mf.save st ver l=(st,1)):=by unfold Mf.save;rw[if_pos hg];exact QA rfl
  clear hg;go_wp2_with fail;go_ret;rw[N.out];exact⟨rfl,AV.of H.out (G.out.trans (((Below.refl _ _).alloc (QM _) _).mono G.out.size))⟩
namespace Fs
structure BA (i:Nat) (st:St) (last:Int×List Int):Prop where
 calm:Calm st
 inv:Inv st
 sound:Sound st (20*i)
 room:st.room=60000
 len:∀n b,look st n=some b→b.length≤800+i
 dir:st.dir.length≤i+(if mhas st.dir Mf.final then 1 else 0)
 zero:last.1=0→look st Mf.final=none
 cur:last.1≠0→Mf.good last.1 last.2=true∧look st Mf.final=some (Mf.enc last.1 last.2)
theorem BA.new:BA 0 (Fs.new 60000) (0,[]) :=
 ⟨⟨rfl,rfl⟩,Inv.new _,Sound.new ⟨by decide,by decide⟩ _,rfl,λn b h=>(by rw[look_new]at h;cases h),ZS _,λ_=>rfl,λh=>absurd rfl h⟩
theorem BA.next {i:Nat} {st:St} {last:Int×List Int} (h:BA i st last):BA (i+1) st last :=
 ⟨h.calm,h.inv,h.sound.mono (by omega),h.room,λn b hb=>by have:=h.len n b hb;omega,by have:=h.dir;omega,h.zero,h.cur⟩
theorem BA.plan {i:Nat} {st:St} {last:Int×List Int} (h:BA i st last):PlanOK st:=λz hz=>by rw[h.calm.2]at hz;cases hz
theorem CE {st:St} {n:List UInt8}:mhas st.dir n=(look st n).isSome:=by
 unfold look;cases mhas st.dir n<;>rfl
theorem BA.save {i:Nat} {st:St} {last:Int×List Int} (h:BA i st last) (hi:i<20) (v:Int) (l:List Int) :
  (Mf.good v l=true∧(Mf.save st v l).2=0∧BA i { st with } last∧∀k,k=i→(Calm (Mf.save st v l).1∧Inv (Mf.save st v l).1∧Sound (Mf.save st v l).1 (20*i+12)∧(Mf.save st v l).1.room=60000∧(∀n b,look (Mf.save st v l).1 n=some b→b.length≤800+i) ∧
   (Mf.save st v l).1.dir.length≤i+1∧look (Mf.save st v l).1 Mf.final=some (Mf.enc v l)))∨(Mf.good v l=false∧Mf.save st v l=(st,1)):=by
 cases hg:Mf.good v l
 ·exact .inr ⟨rfl,by unfold Mf.save;rw[if_pos hg]⟩
 ·have H:st.dir.length≤i+1:=by have:=h.dir;split at this<;>omega
  have J:(st.dir.length+1)*(800+i)≤22*820:=Nat.mul_le_mul (by omega) (by omega);obtain⟨C,o,E,D,I,A⟩:=Mf.save_calm h.calm h.inv hg (by omega) (M:=800+i) h.len (by rw[h.room];omega) (λf hf=>(h.sound.full f hf).2);obtain⟨B,G⟩:=B4 h.sound h.plan v l;refine .inl ⟨rfl,C,h,λk _=>⟨o.calm,o.inv,B,o.room.trans h.room,λn b hb=>?_,?_,by rw[A,if_pos rfl]⟩⟩
  ·rw[A]at hb;by_cases hn:n=Mf.final
   ·rw[if_pos hn]at hb;have:=Mf.enc_len hg;have e:Mf.enc v l=b:=Option.some.inj hb;rw[← e];omega
   ·rw[if_neg hn]at hb;by_cases hn2:n=Mf.draft
    ·rw[if_pos hn2]at hb;cases hb
    ·rw[if_neg hn2]at hb;exact h.len n b hb
  ·cases hf:mhas st.dir Mf.final
   ·have:=h.dir;rw[hf]at this;simp at this;omega
   ·have F:=D hf;have:=h.dir;rw[hf]at this;simp at this;omega
structure CZ (i:Nat) (st:St) (last:Int×List Int):Prop where
 calm:Calm st
 inv:Inv st
 sound:Sound st (20*i+12)
 room:st.room=60000
 len:∀n b,look st n=some b→b.length≤800+i
 dir:st.dir.length≤i+(if mhas st.dir Mf.final then 1 else 0)
 zero:last.1=0→look st Mf.final=none
 cur:last.1≠0→Mf.good last.1 last.2=true∧look st Mf.final=some (Mf.enc last.1 last.2)
theorem CZ.next {i:Nat} {st:St} {last:Int×List Int} (h:CZ i st last):BA (i+1) st last :=
 ⟨h.calm,h.inv,h.sound.mono (by omega),h.room,λn b hb=>by have:=h.len n b hb;omega,by have:=h.dir;omega,h.zero,h.cur⟩
theorem CZ.plan {i:Nat} {st:St} {last:Int×List Int} (h:CZ i st last):PlanOK st:=λz hz=>by rw[h.calm.2]at hz;cases hz
def other (st:St) (s:List UInt8) (rm:Bool):St :=
 if rm then (remove (append (create st s).1 s [1]).1 s).1 else (append (create st s).1 s [1]).1
theorem Hl {st:St} {s:List UInt8} (hg:Fs.good s=false) (rm:Bool):other st s rm=st:=by
 have A:(create st s).1=st:=by unfold create;rw[if_pos hg]
 have o:openE st s≠0:=by unfold openE;rw[if_pos hg];decide
 have B:(append st s [1]).1=st:=by unfold append;rw[if_pos o]
 have C:(remove st s).1=st:=by unfold remove;rw[if_pos o]
 unfold other;rw[A,B,C];split<;>rfl
theorem CZ.other {i:Nat} {st:St} {last:Int×List Int} (h:CZ i st last) (hi:i<20) {s:List UInt8} (hs:s≠Mf.final) (rm:Bool):BA (i+1) (other st s rm) last∧Sound (create st s).1 (20*i+14)∧PlanOK (create st s).1∧Sound (append (create st s).1 s [1]).1 (20*i+14):=by
 have I:=h.sound.create s;have A:=I.append s [1];have L:=h.plan.of (plan_create st s);refine⟨?_,I,L,A⟩;cases hg:Fs.good s
 ·rw[Hl hg];exact h.next
 have hd:st.dir.length≤i+1:=by have:=h.dir;split at this<;>omega
 obtain⟨o,X,c1,S,O,R,Z,⟨old,Y,o2⟩,U⟩:∃o,(create st s).1=o∧Calm o∧Inv o∧o.room=60000∧(∀n b,look o n=some b→b.length≤800+i)∧o.dir.length≤st.dir.length+1 ∧
   (∃old,look o s=some old∧old.length≤800+i)∧∀m,m≠s→look o m=look st m:=by
  cases hh:mhas st.dir s
  ·obtain⟨a1,Q,a3,K⟩:=calm_create h.calm h.inv hg hh (by omega);refine⟨_,rfl,Q.calm,Q.inv,Q.room.trans h.room,λn b hb=>?_,by omega,⟨[],by rw[K,if_pos rfl],by simp⟩,λm hm=>by rw[K,if_neg hm]⟩;rw[K]at hb;by_cases hn:n=s
   ·rw[if_pos hn]at hb;have e:[]=b:=Option.some.inj hb;rw[← e];simp
   ·rw[if_neg hn]at hb;exact h.len n b hb
  ·have e:(create st s).1=st:=by unfold create;rw[if_neg (by rw[hg];simp),if_pos hh]
   refine⟨st,e,h.calm,h.inv,h.room,h.len,Nat.le_succ _,?_,λm _=>rfl⟩;have:look st s=some (fileAt st s):=by unfold look;rw[if_pos hh]
   exact⟨_,this,h.len s _ this⟩
 have hu:used o≤o.dir.length*(800+i):=used_look S R;have V:o.dir.length*(800+i)≤22*820:=Nat.mul_le_mul (by omega) (by omega);obtain⟨b1,H,T,_,J⟩:=calm_append (b:=[1]) c1 S hg Y (by simp;omega) (by rw[O];simp;omega);have D:∀(s':St),s'.dir.length≤o.dir.length→(mhas s'.dir Mf.final=mhas st.dir Mf.final)→s'.dir.length≤(i+1)+(if mhas s'.dir Mf.final then 1 else 0):=by
  intro s' h1 h2;rw[h2];have:=h.dir;omega
 have C:mhas (append o s [1]).1.dir Mf.final=mhas st.dir Mf.final:=by
  rw[CE,J,if_neg (λe=>hs e.symm),U Mf.final (λe=>hs e.symm),← CE]
 have G:look (append o s [1]).1 Mf.final=look st Mf.final:=by rw[J,if_neg (λe=>hs e.symm),U Mf.final (λe=>hs e.symm)]
 have B:∀n b,look (append o s [1]).1 n=some b→b.length≤800+(i+1):=by
  intro n b hb;rw[J]at hb;by_cases hn:n=s
  ·rw[if_pos hn]at hb;have e:old++[1]=b:=Option.some.inj hb;rw[← e];simp;omega
  ·rw[if_neg hn]at hb;have:=R n b hb;omega
 unfold Fs.other;rw[X]at A ⊢;cases rm
 ·rw[if_neg (by simp)];refine⟨H.calm,H.inv,A.mono (by omega),H.room.trans O,B,D _ (by rw[T];exact QM _) C,λe=>by rw[G];exact h.zero e,λe=>by rw[G];exact h.cur e⟩
 ·rw[if_pos rfl];have N:mhas (append o s [1]).1.dir s=true:=by rw[CE,J,if_pos rfl];rfl
  obtain⟨g1,M,W,_,P⟩:=calm_remove H.calm H.inv hg N;have F:mhas (remove (append o s [1]).1 s).1.dir Mf.final=mhas st.dir Mf.final:=by
   rw[CE,P,if_neg (λe=>hs e.symm),← CE];exact C
  have E:look (remove (append o s [1]).1 s).1 Mf.final=look st Mf.final:=by rw[P,if_neg (λe=>hs e.symm)];exact G
  refine⟨M.calm,M.inv,(A.remove s).mono (by omega),M.room.trans (H.room.trans O),λn b hb=>?_,D _ (by rw[W,T];exact mdel_len _ _) F,λe=>?_,λe=>?_⟩
  ·rw[P]at hb;by_cases hn:n=s
   ·rw[if_pos hn]at hb;cases hb
   ·rw[if_neg hn]at hb;exact B n b hb
  ·show look (remove (append o s [1]).1 s).1 Mf.final=none;rw[E];exact h.zero e
  ·show _∧look (remove (append o s [1]).1 s).1 Mf.final=_;rw[E];exact h.cur e
theorem BA.load {i:Nat} {st:St} {last:Int×List Int} (h:BA i st last):(last.1=0→Mf.load st=((0,[]),3))∧(last.1≠0→Mf.load st=(last,0)) :=
 ⟨λe=>Mf.load_none (h.zero e),λe=>Mf.load_look (h.cur e).1 (h.cur e).2⟩
end Fs
namespace Fs
def keepN (l:List Int) (n:List UInt8):Bool:=decide (n=Mf.final)||l.contains (Sg.idOf n)
def cleanGo (l:List Int):List (List UInt8)→St→Nat→St×Nat×Int
 | [],st,n=>if n=0 then (st,0,0) else ((syncDir st).1,n,(syncDir st).2)
 | x::r,st,n=>if keepN l x then cleanGo l r st n else if (remove st x).2≠0 then ((remove st x).1,n,(remove st x).2) else cleanGo l r (remove st x).1 (n+1)
def clean (st:St) (v:Int) (l:List Int):St×Nat×Int:=if Mf.good v l=false then (st,0,1) else cleanGo l (keys st.dir) st 0
theorem Bt {l:List Int}:∀(r:List (List UInt8)) (st:St) (n k:Nat),Sound st k→PlanOK st→Sound (cleanGo l r st n).1 (k+2*r.length)∧PlanOK (cleanGo l r st n).1
 | [],st,n,k,hs,hp=>by
  unfold cleanGo;split
  ·exact⟨hs,hp⟩
  ·exact⟨hs.syncDir,hp.of (plan_syncDir st)⟩
 | x::r,st,n,k,hs,hp=>by
  unfold cleanGo;have A:=hs.remove x;have o:=hp.of (plan_remove st x);split
  ·obtain⟨a,b⟩:=Bt r st n k hs hp;exact⟨a.mono (by rw[QO];omega),b⟩
  split
  ·exact⟨A.mono (by rw[QO];omega),o⟩
  ·obtain⟨a,b⟩:=Bt r (remove st x).1 (n+1) (k+2) A o;exact⟨a.mono (by rw[QO];omega),b⟩
end Fs
namespace Fs
structure Cap (st:St):Prop where
 full:st.dir=crashDir st st.changes.length
 cap:∀m,(crashDir st m).length≤64
 srt:Srt st.sure
 left:-1≤st.left∧st.left≤9223372036854775807
 plan:st.plan.length≤1000
section
set_option linter.unusedSectionVars false
variable {st st' : St} (h : Cap st)
include h
theorem Cap.srtd:Srt st.dir:=by rw[h.full];exact srt_fold _ h.srt
theorem Cap.dir:st.dir.length≤64:=by rw[h.full];exact h.cap _
theorem Cap.of (h1:st'.dir=st.dir) (h2:st'.sure=st.sure) (h3:st'.changes=st.changes) (hl:-1≤st'.left∧st'.left≤9223372036854775807) (hp:st'.plan.length≤1000):Cap st':=by
 have e:∀m,crashDir st' m=crashDir st m:=λm=>by unfold crashDir;rw[h2,h3]
 exact⟨by rw[e,h1,h3];exact h.full,λm=>by rw[e];exact h.cap m,by rw[h2];exact h.srt,hl,hp⟩
theorem Cap.power:(-1≤(Fs.step st).1.left∧(Fs.step st).1.left≤9223372036854775807)∧(Fs.step st).1.plan.length≤1000:=by
 obtain⟨A,o⟩:=h.left;have B:=h.plan;unfold Fs.step;split
 ·exact⟨⟨A,o⟩,B⟩
 ·refine⟨?_,?_⟩
  ·show -1≤(if 0<st.left then st.left-1 else st.left)∧(if 0<st.left then st.left-1 else st.left)≤_;split<;>omega
  ·show st.plan.tail.length≤_;rw[List.length_tail];omega
theorem Cap.step:Cap (Fs.step st).1:=by
 obtain⟨o,A⟩:=h.power;obtain⟨s,l,p,e⟩:=An st;rw[e]at o A ⊢;exact h.of rfl rfl rfl o A
theorem Cap.turned (l:Names) (h1:st'.dir=doAll st.dir l) (h2:st'.sure=st.sure) (h3:st'.changes=st.changes++[l]) (hl:(doAll st.dir l).length≤64) (h4:-1≤st'.left∧st'.left≤9223372036854775807) (h5:st'.plan.length≤1000):Cap st':=by
 have B:∀m,m≤st.changes.length→crashDir st' m=crashDir st m:=λm hm=>by unfold crashDir;rw[h2,h3,List.take_append_of_le_length hm]
 have A:∀m,st.changes.length<m→crashDir st' m=doAll st.dir l:=λm hm=>by
  have o:=h.full;unfold crashDir at o ⊢;rw[List.take_length]at o;rw[h2,h3,List.take_of_length_le (by simp;omega),List.foldl_append,← o];rfl
 refine⟨?_,λm=>?_,by rw[h2];exact h.srt,h4,h5⟩
 ·rw[h3,A _ (by simp),h1]
 ·rcases Nat.lt_or_ge st.changes.length m with hm|hm
  ·rw[A m hm];exact hl
  ·rw[B m hm];exact h.cap m
theorem Cap.create (n:List UInt8):Cap (create st n).1:=by
 unfold Fs.create;split
 ·exact h
 split
 ·exact h
 split
 ·exact h
 split
 ·exact h.step
 rename_i hd _;have o:=h.power;obtain⟨s,l,p,e⟩:=An st;rw[e]at o ⊢;have A:doAll st.dir [(n,(st.files.length:Int))]=mput st.dir n st.files.length:=by
  show doOne st.dir (n,(st.files.length:Int))=_;unfold doOne;rw[if_neg (by simp only;omega)]
 refine h.turned [(n,(st.files.length:Int))] A.symm rfl rfl ?_ o.1 o.2;rw[A];have:=Cv st.dir n st.files.length;omega
theorem Cap.remove (n:List UInt8):Cap (remove st n).1:=by
 unfold Fs.remove;split
 ·exact h
 split
 ·exact h.step
 ·have o:=h.power;obtain⟨s,l,p,e⟩:=An st;rw[e]at o ⊢;refine h.turned [(n,-1)] rfl rfl rfl ?_ o.1 o.2;show (doOne st.dir (n,-1)).length≤_;unfold doOne;rw[if_pos (by simp)];exact QQ (mdel_len _ _) h.dir
theorem Cap.rename (a b:List UInt8):Cap (rename st a b).1:=by
 unfold Fs.rename;split
 ·exact h
 split
 ·exact h
 rename_i hh;split
 ·exact h.step
 ·have o:=h.power;obtain⟨s,l,p,e⟩:=An st;rw[e]at o ⊢;refine h.turned [(a,-1),(b,mget st.dir a)] rfl rfl rfl ?_ o.1 o.2;show (doOne (doOne st.dir (a,-1)) (b,mget st.dir a)).length≤_;have A:doOne st.dir (a,-1)=mdel st.dir a:=by unfold doOne;rw[if_pos (by simp)]
  rw[A];have C:=Bb (l:=st.dir) (k:=a) (by simpa using hh);have B:=h.dir;unfold doOne;split
  ·have:=mdel_len (mdel st.dir a) b;simp only;omega
  ·have:=Cv (mdel st.dir a) b (mget st.dir a);simp only;omega
theorem Cap.append (n b:List UInt8):Cap (append st n b).1:=by
 unfold Fs.append;split
 ·exact h
 split
 ·exact h
 have o:=h.power;obtain⟨s,l,p,e⟩:=An st;rw[e]at o ⊢;split
 ·split
  ·exact h.of rfl rfl rfl o.1 o.2
  ·exact h.of rfl rfl rfl o.1 o.2
 split
 ·exact h.of rfl rfl rfl o.1 o.2
 ·exact h.of rfl rfl rfl o.1 o.2
theorem Cap.sync (n:List UInt8):Cap (sync st n).1:=by
 unfold Fs.sync;split
 ·exact h
 have o:=h.power;obtain⟨s,l,p,e⟩:=An st;rw[e]at o ⊢;split
 ·exact h.of rfl rfl rfl o.1 o.2
 ·exact h.of rfl rfl rfl o.1 o.2
theorem Cap.syncDir:Cap (syncDir st).1:=by
 unfold Fs.syncDir;have o:=h.power;obtain⟨s,l,p,e⟩:=An st;rw[e]at o ⊢;split
 ·exact h.of rfl rfl rfl o.1 o.2
 ·exact⟨rfl,λm=>by unfold crashDir;simp;exact h.dir,h.srtd,o.1,o.2⟩
theorem Cap.arm (n:Int) (hn:n≤9223372036854775807):Cap (arm st n).1:=by
 unfold Fs.arm;split
 ·exact h
 split
 ·exact h
 ·exact h.of rfl rfl rfl ⟨by simp only;omega,hn⟩ h.plan
theorem Cap.planned (l:List Int) (hl:l.length≤1000):Cap { st with plan:=l }:=h.of rfl rfl rfl h.left hl
theorem Cap.crash (dirs:Int) (tails:List Int):Cap (crash st dirs tails):=by
 rw[crash_ref st dirs tails h.srt];have o:Srt (Fs.crashDir st (dirsOf st dirs)):=srt_fold _ h.srt;refine⟨rfl,λm=>?_,IG o,by simp,by simp⟩;unfold Fs.crashDir;simp only[List.take_nil,List.foldl_nil];rw[idxN_len];exact h.cap _
end
theorem Cap.new (room:Int):Cap (Fs.new room):=⟨rfl,λm=>by unfold crashDir Fs.new;simp,List.Pairwise.nil,⟨by show (-1:Int)≤-1;omega,by show (-1:Int)≤_;omega⟩,by show 0≤_;omega⟩
theorem EK {P:St→Prop}:∀(fs:List (St→St×Int)) (st:St),(∀f∈fs,∀st,P st→P (f st).1)→P st→P (first fs st).1
 | [],st,_,h=>h
 | f::r,st,hf,h=>by
  have o:=hf f QP st h;unfold first
  split
  ·exact o
  ·exact EK r _ (λg hg=>hf g (QT _ hg)) o
theorem Cap.save {st:St} (h:Cap st) (v:Int) (l:List Int):Cap (Mf.save st v l).1:=by
 unfold Mf.save;split
 ·exact h
 ·refine EK _ st (λf hf st h=>?_) h;simp only[Mf.steps,List.mem_cons,List.not_mem_nil,or_false]at hf;rcases hf with rfl|rfl|rfl|rfl|rfl|rfl
  ·unfold Mf.clear;split
   ·exact h.remove _
   ·exact h
  ·exact h.create _
  ·exact h.append _ _
  ·exact h.sync _
  ·exact h.rename _ _
  ·exact h.syncDir
theorem CK {l:List Int}:∀(r:List (List UInt8)) (st:St) (n:Nat),Cap st→Cap (cleanGo l r st n).1
 | [],st,n,h=>by
  unfold cleanGo;split
  ·exact h
  ·exact h.syncDir
 | x::r,st,n,h=>by
  unfold cleanGo;split
  ·exact CK r st n h
  split
  ·exact h.remove _
  ·exact CK r _ _ (h.remove _)
theorem Cap.clean {st:St} (h:Cap st) (v:Int) (l:List Int):Cap (clean st v l).1:=by
 unfold Fs.clean;split
 ·exact h
 ·exact CK _ _ _ h
theorem clean_sound2 {st:St} {k:Nat} (hs:Sound st k) (hp:PlanOK st) (hc:Cap st) (v:Int) (l:List Int):Sound (clean st v l).1 (k+128)∧PlanOK (clean st v l).1:=by
 unfold clean;split
 ·exact⟨hs.mono (by omega),hp⟩
 ·obtain⟨a,b⟩:=Bt (l:=l) (keys st.dir) st 0 k hs hp;refine⟨a.mono ?_,b⟩;have:=hc.dir;rw[keys_len];omega
end Fs
namespace Fs
theorem Aq (st:St):(step st).1.room=st.room:=by
 obtain⟨s,l,p,e⟩:=An st;rw[e]
theorem room_create (st:St) (n:List UInt8):(create st n).1.room=st.room:=by
 unfold create;split
 ·rfl
 split
 ·rfl
 split
 ·rfl
 split
 ·exact Aq st
 ·exact Aq st
theorem room_append (st:St) (n b:List UInt8):(append st n b).1.room=st.room:=by
 unfold append;split
 ·rfl
 split
 ·rfl
 split
 ·split
  ·exact Aq st
  ·exact Aq st
 split
 ·exact Aq st
 ·exact Aq st
theorem room_sync (st:St) (n:List UInt8):(sync st n).1.room=st.room:=by
 unfold sync;split
 ·rfl
 split
 ·exact Aq st
 ·exact Aq st
theorem room_syncDir (st:St):(syncDir st).1.room=st.room:=by
 unfold syncDir;split
 ·exact Aq st
 ·exact Aq st
theorem room_remove (st:St) (n:List UInt8):(remove st n).1.room=st.room:=by
 unfold remove;split
 ·rfl
 split
 ·exact Aq st
 ·exact Aq st
theorem room_rename (st:St) (a b:List UInt8):(rename st a b).1.room=st.room:=by
 unfold rename;split
 ·rfl
 split
 ·rfl
 split
 ·exact Aq st
 ·exact Aq st
theorem Dv:∀(fs:List (St→St×Int)) (st:St),(∀f∈fs,∀s,(f s).1.room=s.room)→(first fs st).1.room=st.room
 | [],st,_=>rfl
 | f::r,st,h=>by
  rw[first];split
  ·exact h f QP st
  ·rw[Dv r _ (λg hg=>h g (QT _ hg))];exact h f QP st
theorem room_save (st:St) (v:Int) (l:List Int):(Mf.save st v l).1.room=st.room:=by
 unfold Mf.save;split
 ·rfl
 ·refine Dv _ _ (λf hf s=>?_);simp only[Mf.steps,List.mem_cons,List.not_mem_nil,or_false]at hf;rcases hf with rfl|rfl|rfl|rfl|rfl|rfl
  ·unfold Mf.clear;split
   ·exact room_remove _ _
   ·rfl
  ·exact room_create _ _
  ·exact room_append _ _ _
  ·exact room_sync _ _
  ·exact room_rename _ _ _
  ·exact room_syncDir _
structure BU (st:St) (there:Bool) (now:Int×List Int):Prop where
 rnd:Mf.Round st (if there then some (Mf.enc now.1 now.2) else none)
 gd:there=true→Mf.good now.1 now.2=true
 room:st.room=20000
 left:st.left=-1
 plan:st.plan=[]
theorem BU.new:BU (Fs.new 20000) false (0,[]):=⟨Mf.Round.new ⟨by decide,by decide⟩,λh=>(by cases h),rfl,rfl,rfl⟩
def BO (st:St) (p:List Int) (n:Int):St:={ st with left:=n,plan:=p }
theorem BU.arm {st:St} {there:Bool} {now:Int×List Int} (h:BU st there now) (p:List Int) {n:Int} (hn:0≤n):arm (planned st p) n=(BO st p n,0)∧arm st n=(BO st [] n,0):=by
 constructor
 ·unfold Fs.arm planned;rw[if_neg (by omega),if_neg (by show ¬st.left=0;rw[h.left];decide)];rfl
 ·unfold Fs.arm;rw[if_neg (by omega),if_neg (by rw[h.left];decide)];unfold BO;rw[← h.plan]
theorem BU.sound {st:St} {there:Bool} {now:Int×List Int} (h:BU st there now) (p:List Int) (n:Int):Sound (BO st p n) 2:=h.rnd.sound.power st.steps n p
theorem BU.round {st:St} {there:Bool} {now:Int×List Int} (h:BU st there now) (p:List Int) (hp:∀z∈p,z≤9223372036854775807) (n:Int) {v:Int} {l:List Int} (hg:Mf.good v l=true) (dirs:Int) (tails:List Int) :
  Sound (Mf.save (BO st p n) v l).1 14∧(Mf.save (BO st p n) v l).1.room=20000∧∀st',st'=crash (Mf.save (BO st p n) v l).1 dirs tails→Sound st' 14 ∧
   ((
    Mf.load st'=((v,l),0)∧BU st' true (v,l)) ∨
    ((Mf.save (BO st p n) v l).2≠0∧BU st' there now∧Mf.load st'=if there then (now,0) else ((0,[]),3))):=by
 obtain⟨G,_⟩:=B4 (h.sound p n) (show PlanOK (BO st p n) from hp) v l;have C:(Mf.save (BO st p n) v l).1.room=20000:=(room_save _ _ _).trans h.room;refine⟨G,C,λst' e=>?_⟩;have E:=Mf.save_sw h.rnd hg (BO st p n) ⟨st.steps,n,p,rfl⟩;obtain⟨H,o,A⟩:=Mf.crash_round G E dirs tails;rw[← e]at o;have F:st'.left=-1:=by rw[e];rfl
 have B:st'.plan=[]:=by rw[e];rfl
 have D:st'.room=20000:=by rw[e];exact C
 refine⟨o.sound.mono (by omega),?_⟩;rcases A with⟨A,hx⟩|A
 ·refine .inr ⟨hx,⟨by rw[← A];exact o,h.gd,D,F,B⟩,?_⟩;obtain⟨I,J⟩:=o.load;cases there
  ·exact I A
  ·exact J now.1 now.2 (h.gd rfl) A
 ·refine .inl ⟨o.load.2 v l hg A,⟨by rw[A]at o;exact o,λ_=>hg,D,F,B⟩⟩
end Fs
end Go.Proofs.YtmlekglfdiacpaaGreatDoor
