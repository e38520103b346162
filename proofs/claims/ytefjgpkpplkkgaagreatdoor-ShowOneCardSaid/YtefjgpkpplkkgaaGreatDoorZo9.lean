/-
  The lexer's 'dedent', walked. utf8.ValidString by its contract; what the document's and the lexer's reading of runes call valid. What is valid UTF-8: the library's reading, the lexer's, the document's.
-/
import Derived.Test.YtefjgpkpplkkgaaGreatDoorZo8
import Derived.Test.YtefjgpkpplkkgaaGreatDoorZo7
import Derived.Outline
import Derived.Deep.LoopGhost
import Derived.Deep.DeepCutAuto
import Derived.Shelf.Unicode.ValidAny
import Derived.Test.YtefjgpkpplkkgaaGreatDoorZo1
import Derived.Test.YtefjgpkpplkkgaaGreatDoorZo3
open Go.Lib renaming hid → QA
open List renaming length_map → QZ, mem_of_getElem? → ZE, drop_eq_getElem_cons → ZG, getElem?_eq_getElem → ZL, length_take → ZM
namespace Go.Proofs.YtefjgpkpplkkgaaGreatDoor
set_option maxRecDepth 100000
set_option linter.unusedSimpArgs false
set_option linter.unusedVariables false
open Go Go.RowKit
def Row (w:World) (g:Nat) (ls:List (List UInt8)):Prop:=w.heap[g]?=some (.cells (ls.map λx=>Value.string ⟨x.toArray⟩).toArray 9 (0,0))
theorem Row.lt {w:World} {g:Nat} {ls:List (List UInt8)} (h:Row w g ls):g<w.heap.size:=by
 rcases Nat.lt_or_ge g w.heap.size with h'|h'
 ·exact h'
 ·unfold Row at h;simp[Array.getElem?_eq_none h']at h
theorem Row.cell {w:World} {g i:Nat} {ls:List (List UInt8)} {x:List UInt8} (h:Row w g ls) (hi:ls[i]?=some x):w.cell? ⟨g,i,none⟩=some (.string ⟨x.toArray⟩):=by
 unfold Row at h;simp[World.cell?,h,hi]
theorem Row.frozen {w:World} {g:Nat} {ls:List (List UInt8)} (h:Row w g ls) (i:Nat):w.frozen? ⟨g,i,none⟩=false:=by
 unfold Row at h;simp[World.frozen?,h]
theorem Row.below {w w':World} {g:Nat} {ls:List (List UInt8)} (h:Row w g ls) (hb:Below w.heap.size w w'):Row w' g ls:=by
 have o:=h.lt;unfold Row at *;rw[hb.block g o];exact h
theorem Row.set {w:World} {g:Nat} {ls:List (List UInt8)} (h:Row w g ls) (i:Nat) (y:List UInt8):Row (w.setCell ⟨g,i,none⟩ (.string ⟨y.toArray⟩)) g (ls.set i y):=by
 unfold Row at *;simp[World.setCell,Array.getElem?_modify,h,List.map_set]
theorem Row.drewN {w:World} {g:Nat} {ls:List (List UInt8)} (h:Row w g ls) (n:Nat):Row (w.drewN n) g ls:=h
theorem Gu (x:List UInt8) (a:Nat):(ByteArray.mk x.toArray).extract a x.length=⟨(x.drop a).toArray⟩:=Br ⟨x.toArray⟩ a
theorem M0 (x:List UInt8) (c:Int) (h:0≤c):x.drop (min c (x.length:Int)).toNat=x.drop c.toNat:=by
 by_cases h1:c≤x.length
 ·rw[Int.min_eq_left h1]
 ·rw[Int.min_eq_right (by omega),List.drop_of_length_le (by omega),List.drop_of_length_le (by omega)]
theorem NN (raw:List UInt8) (w:World) (hE:Env w) (hr:(Lx.nl raw).length≤100000) :
  Calls Tryz.prog 236 #[.string ⟨(Lx.nl raw).toArray⟩,.string ⟨#[10]⟩] w λe w'=>e=.returned (.slice (some ⟨w.heap.size,0,none⟩) (Lx.lines raw).length (Lx.lines raw).length)∧Row w' w.heap.size (Lx.lines raw)∧Below w.heap.size w w':=by
 obtain⟨_,m,o⟩:=hE;refine (Tryz.strings_Split _ _ m w (by show (Lx.nl raw).length<_;omega) o (by decide)).mono ?_;rintro e w' ⟨rfl,rfl⟩;rw[Lx.lines_len];refine⟨rfl,?_,(Below.refl _ _).alloc (Nat.le_refl _) _⟩;unfold Row;show (w.heap.push _)[w.heap.size]?=_;simp[Lx.lines,Lx.linesB,Function.comp_def]
theorem J6 (s old:List UInt8) (w:World) (hE:Env w) (h1:1≤old.length) (hr:s.length≤100000) :
  Calls Tryz.prog 237 #[.string ⟨s.toArray⟩,.string ⟨old.toArray⟩,.string ⟨#[10]⟩] w λe w'=>e=.returned (.string ⟨(Lib.replaceAll s old [10]).toArray⟩)∧Below w.heap.size w w':=by
 obtain⟨_,m,o⟩:=hE;have A:=Lib.count_le s old;refine (Tryz.strings_ReplaceAll ⟨s.toArray⟩ ⟨old.toArray⟩ ⟨#[10]⟩ m w (by show s.length<_;omega) o h1 ?_).mono ?_
 ·show s.length+Lib.count s old*1≤_;omega
 ·rintro e w' ⟨rfl,hb⟩;exact⟨rfl,hb⟩
theorem A3 (x:List UInt8) (w:World) (hl:x.length≤100000) :
  Calls Tryz.prog 238 #[.string ⟨x.toArray⟩] w λe w'=>e=.returned (.int .i64 (Lx.ind x))∧Below w.heap.size w w':=Iu ⟨x.toArray⟩ w hl
theorem EX {α β:Type} (f:α→β→α) (a:α) (l:List β) (i:Nat) (x:β) (h:l[i]?=some x):(l.take (i+1)).foldl f a=f ((l.take i).foldl f a) x:=by
 rw[List.take_add_one,h,List.foldl_append];rfl
theorem List.getElem?_take_of_some {α:Type} {l:List α} {m i:Nat} {y:α} (h:(l.take m)[i]?=some y):l[i]?=some y:=by
 rw[List.getElem?_take]at h;split at h
 ·exact h
 ·cases h
theorem Gk (g o n cap:Nat) (xs:List (List UInt8)) (w:World) (hc:∀(i:Nat) y,xs[i]?=some y→w.cell? ⟨g,o+i,none⟩=some (.string ⟨y.toArray⟩)) (hg:g<w.heap.size)
  (hn:xs.length=n) (hcap:n≤cap) (hl:∀y∈xs,y.length≤100000) (hn2:n≤100000) :
  Calls Tryz.prog 239 #[.slice (some ⟨g,o,none⟩) n cap,.string ⟨#[10]⟩] w λe w'=>e=.returned (.string ⟨(Lib.join xs [10]).toArray⟩)∧Below w.heap.size w w':=by
 have A:(xs.map λx=>(ByteArray.mk x.toArray)).map (·.data.toList)=xs:=by simp[Function.comp_def]
 have B:=Lx.join_le xs 100000 hl;have:=Tryz.strings_Join g o cap (xs.map λx=>ByteArray.mk x.toArray) ⟨#[10]⟩ w (by
   intro j x h;rw[List.getElem?_map]at h;cases hx:xs[j]? with
   | none=>rw[hx]at h;simp at h
   | some y =>
    rw[hx]at h;simp only[Option.map_some,Option.some.injEq]at h;subst h;exact hc j y hx) hg (by rw[QZ];omega) (by rw[QZ];omega) (by
   rw[A];have C:xs.length*100001≤100000*100001:=Nat.mul_le_mul_right _ (by omega);show (Lib.join xs [10]).length≤_;omega)
 rw[A,QZ,hn]at this;exact this
def Nv (raw:List UInt8) (w:World) (e:Ending) (w':World):Prop:=e=.returned (.string ⟨(Lx.dedent raw).toArray⟩)∧Below w.heap.size w w'
set_option maxHeartbeats 8000000 in
theorem I1 (raw:List UInt8) (w:World) (hE:Env w) (hr:raw.length≤5000):Calls Tryz.prog 226 #[.string ⟨raw.toArray⟩] w (Nv raw w):=by
 have aT:=Lx.replaceAll_len raw [13,10] [10] rfl;have a4:=Lx.nl_len raw;go_enter Tryz.func226,Tryz.ntmps226;go_wp2_with fail;refine (J6 raw [13,10] w hE (by decide) (by omega)).mono ?_;rintro e w1 ⟨rfl,hb1⟩;go_wp2_with fail;refine (J6 _ [13] w1 (hE.below hb1) (by decide) (by omega)).mono ?_;rintro e w2 ⟨rfl,hb2⟩;have K:=hb1.trans (hb2.mono hb1.size);have aK:=hE.below K;go_wp2_with fail;refine (NN raw w2 aK (by omega)).mono ?_;rintro e w3 ⟨rfl,hR,hb3⟩;have bf:=Lx.lines_le raw;have aL:=Lx.line_le raw;have aY:=Lx.lines_len raw;have hB:Below w.heap.size w w3:=K.trans (hb3.mono K.size);have hg:w.heap.size≤w2.heap.size:=K.size;have HF:Hid (Lx.dedent raw=Lib.join (Lx.trimEnd ((Lx.strip (Lx.common (Lx.lines raw).tail) (Lx.lines raw)).dropWhile Lx.allSp)) [10]):=rfl
 generalize hls:Lx.lines raw=ls at *
 have h1:1≤ls.length:=by omega
 have aa:=QA aL;clear aL aY hls hb1 hb2 K hb3 a4 aT hE aK
 generalize w2.heap.size=g at *
 go_upto_region 3 with (fail)
 go_cut [3,14,15,16] (λs3 s14 s15 s16 wx=>wx=w3∧∃o1,s3=.slice (some ⟨g,0,none⟩) ls.length ls.length∧s14=.slice (some ⟨g,o1,none⟩) (ls.length-1) (ls.length-1)∧(2≤ls.length→o1=1)∧s15=.int .i64 ((ls.length-1:Nat):Int)∧s16=.int .i64 0)
 case first =>
  by_cases hn1:ls.length=1
  ·rw[hn1];go_wp2
   go_meet
   exact⟨rfl,0,by rw[hn1],by rw[hn1],by omega,by rw[hn1];rfl,rfl⟩
  ·have bl:2≤ls.length:=by omega
   have bs:=QA hn1;clear hn1;go_wp2
   go_meet
   exact⟨rfl,1,rfl,rfl,λ_=>rfl,rfl,rfl⟩
 case rest =>
  obtain⟨rfl,o1,rfl,rfl,aD,rfl,rfl⟩:=hcut;have a5:=QA aD;clear aD;go_wp2_with fail
  go_loopg [4,16] (ls.length-1) (λk s4 s16 wr=>∃i:Nat,k=ls.length-1-i∧i≤ls.length-1∧s16=.int .i64 i∧s4=.int .i64 ((ls.tail.take i).foldl Lx.comStep (-1))∧Below wc.heap.size wc wr)
  case atStart=>exact⟨0,by omega,by omega,rfl,rfl,Below.refl _ _⟩
  case round =>
   obtain⟨i,T,hi,rfl,rfl,C⟩:=hrel;have HK:=QA T;clear T;by_cases hlt:i<ls.length-1
   ·have ho:=a5.out (by omega);subst ho;obtain⟨x,D⟩:∃x,ls[1+i]?=some x:=⟨ls[1+i]'(by omega),ZL _⟩
    have al:=aa.out x (ZE D);have aP:(ls.tail)[i]?=some x:=by rw[List.getElem?_tail,Nat.add_comm];exact D
    have HF:=QA (EX Lx.comStep (-1) ls.tail i x aP);have A:wr.cell? ⟨g,1+i,none⟩=some (.string ⟨x.toArray⟩):=(hR.below C).cell D;have ab:=Lx.common_ge (ls.tail.take i) (-1) (by omega);have ai:-1≤List.foldl Lx.comStep (-1) (List.take i ls.tail)∧List.foldl Lx.comStep (-1) (List.take i ls.tail)≤1000000000:=by
     rcases ab with h'|⟨y,hy,h'⟩
     ·omega
     ·have:=aa.out y (List.mem_of_mem_tail (List.mem_of_mem_take hy));omega
    obtain⟨a8,ba⟩:=ai;clear ab D aP
    generalize List.foldl Lx.comStep (-1) (List.take i ls.tail)=c at *
    have bn:=Lx.ind_le x;have br:(0:Int)≤(i:Int):=Int.natCast_nonneg _;have a9:(i:Int)<((ls.length-1:Nat):Int):=by omega
    have an:(ByteArray.mk x.toArray).size=x.length:=rfl;have P:(decide (Lx.ind x<x.length)=false∧Lx.comStep c x=c) ∨
      (decide (Lx.ind x<x.length)=true∧decide (c<0)=true∧Lx.comStep c x=Lx.ind x) ∨
      (decide (Lx.ind x<x.length)=true∧decide (c<0)=false∧decide ((Lx.ind x:Int)<c)=true∧Lx.comStep c x=Lx.ind x) ∨
      (decide (Lx.ind x<x.length)=true∧decide (c<0)=false∧decide ((Lx.ind x:Int)<c)=false∧Lx.comStep c x=c):=by
     unfold Lx.comStep;by_cases a1:Lx.ind x<x.length
     ·by_cases a2:c<0
      ·exact .inr (.inl ⟨by simpa using a1,by simpa using a2,by rw[if_pos ⟨by omega,.inl a2⟩]⟩)
      ·by_cases a3:(Lx.ind x:Int)<c
       ·exact .inr (.inr (.inl ⟨by simpa using a1,by simpa using a2,by simpa using a3,by rw[if_pos ⟨by omega,.inr a3⟩]⟩))
       ·exact .inr (.inr (.inr ⟨by simpa using a1,by simpa using a2,by simpa using a3,by rw[if_neg (by omega)]⟩))
     ·exact .inl ⟨by simpa using a1,by rw[if_neg (by omega)]⟩
    rcases P with⟨J,e4⟩|⟨J,V,e4⟩|⟨J,V,e3,e4⟩|⟨J,V,e3,e4⟩
    all_goals
     have E4:=QA e4;clear e4;go_wp2_with fail;refine (A3 x wr (by omega)).mono ?_;rintro e w5 ⟨rfl,hb5⟩;have F:=C.trans (hb5.mono C.size);go_wp2;go_roundg (ls.length-1-(i+1))
     case measure=>rw[HK.out];omega
     case rel=>exact⟨i+1,rfl,by omega,by go_num,by rw[HF.out,E4.out],F⟩
   ·have aW:i=ls.length-1:=by omega
    have a9:((ls.length-1:Nat):Int)≤(i:Int):=by omega
    have aI:List.take i ls.tail=ls.tail:=List.take_of_length_le (by rw[List.length_tail];omega);rw[aI];have ab:=Lx.common_ge ls.tail (-1) (by omega);have ai:-1≤Lx.common ls.tail∧Lx.common ls.tail≤1000000000:=by
     rcases ab with h'|⟨y,hy,h'⟩
     ·unfold Lx.common;omega
     ·have:=aa.out y (List.mem_of_mem_tail hy);omega
    change Code.wp _ _ _ { tmps:=_,defers:=_ } _;have aB:Hid (Lx.common ls.tail=List.foldl Lx.comStep (-1) ls.tail):=rfl;rw[← aB.out];have aG:=hR.below C;have aH:Below w.heap.size w wr:=hB.trans (C.mono hB.size);obtain⟨a8,ba⟩:=ai
    generalize Lx.common ls.tail=c at *
    clear ab aI aB hR C hB aW hi HK;go_wp2_with fail
    go_loopg [39] ls.length (λk s39 U=>∃j:Nat,k=ls.length-j∧j≤ls.length∧s39=.int .i64 j∧Row U g ((Lx.strip c ls).take j++ls.drop j)∧Below w.heap.size w U)
    case atStart=>exact⟨0,by omega,by omega,rfl,by simpa using aG,aH⟩
    case round =>
     obtain⟨j,T,hj,rfl,O,M⟩:=hrel;have HK:=QA T;clear T aG aH;by_cases hlt:j<ls.length
     ·obtain⟨x,D⟩:∃x,ls[j]?=some x:=⟨ls[j],ZL _⟩
      have al:=aa.out x (ZE D);have am:((Lx.strip c ls).take j).length=j:=by rw[ZM,Lx.strip_len];omega
      have S:((Lx.strip c ls).take j++ls.drop j)[j]?=some x:=by
       rw[List.getElem?_append_right (by omega),am,List.getElem?_drop,Nat.sub_self,Nat.add_zero];exact D
      have R:((Lx.strip c ls).take j++ls.drop j).set j (Lx.stripAt c j x)=(Lx.strip c ls).take (j+1)++ls.drop (j+1):=by
       rw[List.set_append_right _ _ (by omega),am,Nat.sub_self,ZG hlt,List.set_cons_zero,List.take_add_one,Lx.strip_get,D];simp
      have A:=O.cell S;have bj:=O.frozen j;have aO:=QA R;have aN:(0:Int)≤(j:Int):=Int.natCast_nonneg _;have aM:(j:Int)<(ls.length:Int):=by omega
      have an:(ByteArray.mk x.toArray).size=x.length:=rfl;by_cases hdo:0<j∧0<c
      ·have aw:Hid (Lx.stripAt c j x=x.drop c.toNat):=by unfold Lx.stripAt;rw[if_pos hdo];rfl
       obtain⟨bp,bu⟩:=hdo;have bd:(0:Int)<(j:Int):=by omega
       clear D am S R;go_wp2_with fail;refine AF [15] (by kernel_rfl) (by kernel_rfl) ?_;simp only[Ae,List.take_succ_cons,List.take_zero,List.drop_succ_cons,List.drop_zero,Nat.sub_zero,Nat.reduceSub,Nat.reduceAdd]
       repeat (go_big_quiet_step (fail))
       refine wpQuiet_nil ?_;rintro _ ⟨nq,rfl⟩;go_wp2
       repeat (go_big_quiet_step (fail))
       refine wpQuiet_nil ?_;rintro _ ⟨nq,rfl⟩;go_wp2;go_roundg (ls.length-(j+1))
       case measure=>rw[HK.out];omega
       case rel =>
        refine⟨j+1,rfl,by omega,by go_num,?_,?_⟩
        ·have h1:∀n m:Nat,Row (((wr.drewN n).setCell ⟨g,j,none⟩ (.string ((ByteArray.mk x.toArray).extract (min c (x.length:Int)).toNat x.length))).drewN m) g ((Lx.strip c ls).take (j+1)++ls.drop (j+1)):=λn m=>by
          rw[Gu,M0 x c (by omega),← aO.out,aw.out];exact ((O.drewN n).set j _).drewN m
         exact h1 _ _
        ·exact Below.drewN (Below.setCell (Below.drewN M _) hg _) _
      ·have aw:Hid (Lx.stripAt c j x=x):=by unfold Lx.stripAt;rw[if_neg hdo];rfl
       have P:j=0∨((0:Int)<(j:Int)∧c≤0):=by omega
       have HR:Hid (Row wr g ((Lx.strip c ls).take (j+1)++ls.drop (j+1))):=by
        rw[← aO.out,aw.out];have:((Lx.strip c ls).take j++ls.drop j).set j x=(Lx.strip c ls).take j++ls.drop j:=by
         apply List.ext_getElem?;intro m;rw[List.getElem?_set];split
         ·rename_i h';subst h';split
          ·exact S.symm
          ·rename_i h'';rw[List.getElem?_eq_none (by omega)]
         ·rfl
        rw[this];exact O
       clear D am S R hdo;rcases P with rfl|⟨J,V⟩
       ·go_wp2;go_roundg (ls.length-1)
        case measure=>rw[HK.out];omega
        case rel=>exact⟨1,rfl,by omega,rfl,HR.out,M⟩
       ·go_wp2;go_roundg (ls.length-(j+1))
        case measure=>rw[HK.out];omega
        case rel=>exact⟨j+1,rfl,by omega,by go_num,HR.out,M⟩
     ·have aJ:j=ls.length:=by omega
      have aM:(ls.length:Int)≤(j:Int):=by omega
      have bg:decide (j<ls.length)=false:=by simp;omega
      have ar:Row wr g (Lx.strip c ls):=by
       rw[aJ,List.take_of_length_le (by rw[Lx.strip_len];omega),List.drop_of_length_le (by omega),List.append_nil]at O;exact O
      have be:=Lx.strip_len c ls;have ap:∀y,y∈Lx.strip c ls→y.length≤4*raw.length+3:=by
       intro y hy;obtain⟨m,W⟩:=List.getElem?_of_mem hy;rw[Lx.strip_get]at W;cases hlm:ls[m]? with
       | none=>rw[hlm]at W;simp at W
       | some z =>
        rw[hlm]at W;simp only[Option.map_some,Option.some.injEq]at W;subst W;have h1:=Lx.stripAt_le c m z;have h2:=aa.out z (ZE hlm);omega
      have af:=QA ap;clear ap O aJ HK hlt
      generalize Lx.strip c ls=ms at *
      go_wp2_with fail
      go_loopg [3] ls.length (λk s3 U=>∃j o:Nat,k=ls.length-j∧j≤ls.length∧s3=.slice (some ⟨g,o,none⟩) (ls.length-j) (ls.length-j)∧(j<ls.length→o=j)∧(ms.drop j).dropWhile Lx.allSp=ms.dropWhile Lx.allSp∧Below wr.heap.size wr U)
      case atStart=>exact⟨0,0,by omega,by omega,rfl,λ_=>rfl,rfl,Below.refl _ _⟩
      case round =>
       obtain⟨j,o,T,hj,rfl,ho,aF,C⟩:=hrel;obtain⟨U,rfl⟩:∃U:World,U=wr:=⟨_,rfl⟩
       have HK:=QA T;have HO:=QA ho;have ao:=QA aF;clear T ho aF;by_cases hlt:j<ls.length
       ·have a0:=HO.out hlt;subst a0;obtain⟨x,D⟩:∃x,ms[o]?=some x:=⟨ms[o]'(by omega),ZL _⟩
        have al:=af.out x (ZE D);have A:=(ar.below C).cell D;have X:∀y:Later U,y.1.cell? ⟨g,o,none⟩=some (.string ⟨x.toArray⟩):=λy=>Later.cell A y
        have an:(ByteArray.mk x.toArray).size=x.length:=rfl;have aE:ms.drop o=x::ms.drop (o+1):=by
         rw[ZG (by omega)];have:=(List.getElem?_eq_some_iff.1 D).2;rw[this]
        have ay:=QA aE;have aU:(0:Int)<((ls.length-o:Nat):Int):=by omega
        have aS:0<ls.length-o:=by omega
        clear D aE;cases hsp:Lx.allSp x
        ·have J:(Lx.ind x==x.length)=false:=hsp;have V:((Lx.ind x:Int)==(x.length:Int))=false:=eqF (by simp at J;omega);have E:=QA hsp;clear hsp;go_wp2_with fail;refine Am (by kernel_rfl) (by kernel_rfl) ?_
         repeat (go_big_quiet_step (((exact Later.call (v:=.int .i64 (Lx.ind x)) (A3 x _ (by omega))))))
         refine wpQuiet_nil ?_;rintro w5 ⟨⟨_,hb5⟩,rfl⟩;have ae:ms.dropWhile Lx.allSp=ms.drop o:=by
          rw[← ao.out,ay.out,List.dropWhile_cons,E.out];simp
         obtain⟨B,ah,aZ,Y⟩:∃B,Hid (Lx.dedent raw=Lib.join (Lx.trimEnd B) [10])∧B.length=ls.length-o∧(∀(i:Nat) y,B[i]?=some y→ms[o+i]?=some y) :=
          ⟨ms.drop o,by rw[← ae];exact HF,by rw[List.length_drop];omega,λi y h=>by rw[List.getElem?_drop]at h;exact h⟩
         have L:=C.trans (hb5.mono C.size);clear ae ay ao A X aU aS E J V;have I:=QA Y;clear Y HF;go_wp2_with fail
         go_loopg [3] (ls.length-o) (λk s3 U=>∃m:Nat,k=m∧m≤(ls.length-o)∧s3=.slice (some ⟨g,o,none⟩) m (ls.length-o)∧Lx.trimEnd (B.take m)=Lx.trimEnd B∧Below wr.heap.size wr U)
         case atStart=>exact⟨_,rfl,Nat.le_refl _,rfl,by rw[List.take_of_length_le (by omega)],(by first|exact L|exact Below.drewN L _)⟩
         case round =>
          obtain⟨m,T,W,rfl,ad,C⟩:=hrel;have Q:=ar.below C;have H:=M.trans (C.mono M.size);have av:=QA T;have N:=QA ad;clear T ad L;by_cases hm0:0<m
          ·obtain⟨x,D⟩:∃x,B[m-1]?=some x:=⟨B[m-1]'(by omega),ZL _⟩
           have al:=af.out x (ZE (I.out _ _ D));have A:=Q.cell (I.out _ _ D);have X:∀y:Later wr,y.1.cell? ⟨g,o+(m-1),none⟩=some (.string ⟨x.toArray⟩):=λy=>Later.cell A y
           have an:(ByteArray.mk x.toArray).size=x.length:=rfl;have Z:B.take m=B.take (m-1)++[x]:=by
            have:=List.take_add_one (l:=B) (i:=m-1);rw[show m-1+1=m by omega,D]at this;exact this
           have ac:=QA Z;have aV:(0:Int)<(m:Int):=by omega
           have bb:(0:Int)≤(m:Int)-1:=by omega
           have a7:(m:Int)-1<(m:Int):=by omega
           clear D Z;cases hsp:Lx.allSp x
           ·have J:(Lx.ind x==x.length)=false:=hsp;have V:((Lx.ind x:Int)==(x.length:Int))=false:=eqF (by simp at J;omega);have E:=QA hsp;clear hsp;have G:Hid (Lx.dedent raw=Lib.join (B.take m) [10]):=by
             rw[ah.out,← N.out,ac.out,Lx.trimEnd_snoc,E.out];rfl
            go_wp2_with fail;refine Am (by kernel_rfl) (by kernel_rfl) ?_
            repeat (go_big_quiet_step (((exact Later.call (v:=.int .i64 (Lx.ind x)) (A3 x _ (by omega))))))
            refine wpQuiet_nil ?_;rintro w6 ⟨⟨_,F⟩,rfl⟩;have aj:=Q.below F;have ag:=H.trans (F.mono H.size);have HJ:=QA (Gk g o m (ls.length-o) (B.take m) w6 (λi y h=>aj.cell (I.out i y (List.getElem?_take_of_some h))) aj.lt (by rw[ZM];omega) W (λy hy=>by
             obtain⟨i,hi⟩:=List.getElem?_of_mem (List.mem_of_mem_take hy);have:=af.out y (ZE (I.out _ _ hi));omega) (by omega))
            clear A X J V;go_wp2_with fail;refine HJ.out.mono ?_;rintro e w7 ⟨rfl,hb7⟩;go_wp2;go_ret;exact⟨by rw[G.out];rfl,ag.trans (hb7.mono ag.size)⟩
           ·have J:(Lx.ind x==x.length)=true:=hsp;have V:((Lx.ind x:Int)==(x.length:Int))=true:=eqT (by simp at J;omega);have E:=QA hsp;clear hsp;go_wp2_with fail;refine Am (by kernel_rfl) (by kernel_rfl) ?_
            repeat (go_big_quiet_step (((exact Later.call (v:=.int .i64 (Lx.ind x)) (A3 x _ (by omega))))))
            refine wpQuiet_nil ?_;rintro w6 ⟨⟨_,F⟩,rfl⟩;go_wp2;go_roundg (m-1)
            case measure=>rw[av.out];omega
            case rel =>
             refine⟨m-1,rfl,by omega,rfl,?_,C.trans (F.mono C.size)⟩;rw[← N.out,ac.out,Lx.trimEnd_snoc,E.out];rfl
          ·have ax:m=0:=by omega
           subst ax;have G:Hid (Lx.dedent raw=Lib.join [] [10]):=by
            rw[ah.out,← N.out];rfl
           have au:¬(0:Int)<((0:Nat):Int):=by omega
           have HJ:Hid (∀n:Nat,Calls Tryz.prog 239 #[.slice (some ⟨g,o,none⟩) 0 (ls.length-o),.string ⟨#[10]⟩] (wr.drewN n) λe w'=>e=.returned (.string ⟨(Lib.join [] [10]).toArray⟩)∧Below (wr.drewN n).heap.size (wr.drewN n) w') :=
            λn=>Gk g o 0 (ls.length-o) [] (wr.drewN n) (λi y h=>by simp at h) (Q.drewN n).lt rfl W (λy hy=>by simp at hy) (by omega)
           clear au;go_wp2_with fail
           go_quiet (fail)
           go_wp2_with fail;refine (HJ.out _).mono ?_;rintro e w7 ⟨rfl,hb7⟩;go_wp2;go_ret;exact⟨by rw[G.out];rfl,H.trans ((Below.undrew hb7).mono H.size)⟩
        ·have J:(Lx.ind x==x.length)=true:=hsp;have V:((Lx.ind x:Int)==(x.length:Int))=true:=eqT (by simp at J;omega);have E:=QA hsp;clear hsp;have aC:(ms.drop (o+1)).dropWhile Lx.allSp=ms.dropWhile Lx.allSp:=by
          rw[← ao.out,ay.out,List.dropWhile_cons,E.out];simp
         have aA:=QA aC;clear aC;by_cases hlast:ls.length-o=1
         ·go_wp2_with fail;refine Am (by kernel_rfl) (by kernel_rfl) ?_
          repeat (go_big_quiet_step (((exact Later.call (v:=.int .i64 (Lx.ind x)) (A3 x _ (by omega))))))
          refine wpQuiet_nil ?_;rintro w5 ⟨⟨_,hb5⟩,rfl⟩;go_wp2;go_roundg (ls.length-(o+1))
          case measure=>rw[HK.out];omega
          case rel=>exact⟨o+1,o,rfl,by omega,by rw[show ls.length-(o+1)=0 by omega],by omega,aA.out,C.trans (hb5.mono C.size)⟩
         ·have bq:1<ls.length-o:=by omega
          have bi:=QA hlast;clear hlast;go_wp2_with fail;refine Am (by kernel_rfl) (by kernel_rfl) ?_
          repeat (go_big_quiet_step (((exact Later.call (v:=.int .i64 (Lx.ind x)) (A3 x _ (by omega))))))
          refine wpQuiet_nil ?_;rintro w5 ⟨⟨_,hb5⟩,rfl⟩;go_wp2;go_roundg (ls.length-(o+1))
          case measure=>rw[HK.out];omega
          case rel=>exact⟨o+1,o+1,rfl,by omega,by rw[Nat.sub_sub],λ_=>rfl,aA.out,C.trans (hb5.mono C.size)⟩
       ·have aX:j=ls.length:=by omega
        have ae:ms.dropWhile Lx.allSp=[]:=by
         rw[← ao.out,List.drop_of_length_le (by omega)];rfl
        obtain⟨B,ah,aZ,Y⟩:∃B,Hid (Lx.dedent raw=Lib.join (Lx.trimEnd B) [10])∧B.length=0∧(∀(i:Nat) y,B[i]?=some y→ms[o+i]?=some y) :=
          ⟨[],by rw[← ae];exact HF,rfl,λi y h=>by simp at h⟩
        have aN:ls.length-j=0:=by omega
        have aM:¬(0:Int)<((ls.length-j:Nat):Int):=by omega
        have bm:ls.length≤j:=by omega
        have L:=C;clear aX aN ae;go_wp2_with fail
        go_quiet (fail)
        have I:=QA Y;clear Y HF;go_wp2_with fail
        go_loopg [3] 0 (λk s3 U=>∃m:Nat,k=m∧m≤0∧s3=.slice (some ⟨g,o,none⟩) m 0∧Lx.trimEnd (B.take m)=Lx.trimEnd B∧Below wr.heap.size wr U)
        case atStart=>exact⟨_,rfl,Nat.le_refl _,rfl,by rw[List.take_of_length_le (by omega)],(by first|exact L|exact Below.drewN L _)⟩
        case round =>
         obtain⟨m,T,W,rfl,ad,C⟩:=hrel;have Q:=ar.below C;have H:=M.trans (C.mono M.size);have av:=QA T;have N:=QA ad;clear T ad L;by_cases hm0:0<m
         ·obtain⟨x,D⟩:∃x,B[m-1]?=some x:=⟨B[m-1]'(by omega),ZL _⟩
          have al:=af.out x (ZE (I.out _ _ D));have A:=Q.cell (I.out _ _ D);have X:∀y:Later wr,y.1.cell? ⟨g,o+(m-1),none⟩=some (.string ⟨x.toArray⟩):=λy=>Later.cell A y
          have an:(ByteArray.mk x.toArray).size=x.length:=rfl;have Z:B.take m=B.take (m-1)++[x]:=by
           have:=List.take_add_one (l:=B) (i:=m-1);rw[show m-1+1=m by omega,D]at this;exact this
          have ac:=QA Z;have aV:(0:Int)<(m:Int):=by omega
          have bb:(0:Int)≤(m:Int)-1:=by omega
          have a7:(m:Int)-1<(m:Int):=by omega
          clear D Z;cases hsp:Lx.allSp x
          ·have J:(Lx.ind x==x.length)=false:=hsp;have V:((Lx.ind x:Int)==(x.length:Int))=false:=eqF (by simp at J;omega);have E:=QA hsp;clear hsp;have G:Hid (Lx.dedent raw=Lib.join (B.take m) [10]):=by
            rw[ah.out,← N.out,ac.out,Lx.trimEnd_snoc,E.out];rfl
           go_wp2_with fail;refine Am (by kernel_rfl) (by kernel_rfl) ?_
           repeat (go_big_quiet_step (((exact Later.call (v:=.int .i64 (Lx.ind x)) (A3 x _ (by omega))))))
           refine wpQuiet_nil ?_;rintro w6 ⟨⟨_,F⟩,rfl⟩;have aj:=Q.below F;have ag:=H.trans (F.mono H.size);have HJ:=QA (Gk g o m 0 (B.take m) w6 (λi y h=>aj.cell (I.out i y (List.getElem?_take_of_some h))) aj.lt (by rw[ZM];omega) W (λy hy=>by
            obtain⟨i,hi⟩:=List.getElem?_of_mem (List.mem_of_mem_take hy);have:=af.out y (ZE (I.out _ _ hi));omega) (by omega))
           clear A X J V;go_wp2_with fail;refine HJ.out.mono ?_;rintro e w7 ⟨rfl,hb7⟩;go_wp2;go_ret;exact⟨by rw[G.out];rfl,ag.trans (hb7.mono ag.size)⟩
          ·have J:(Lx.ind x==x.length)=true:=hsp;have V:((Lx.ind x:Int)==(x.length:Int))=true:=eqT (by simp at J;omega);have E:=QA hsp;clear hsp;go_wp2_with fail;refine Am (by kernel_rfl) (by kernel_rfl) ?_
           repeat (go_big_quiet_step (((exact Later.call (v:=.int .i64 (Lx.ind x)) (A3 x _ (by omega))))))
           refine wpQuiet_nil ?_;rintro w6 ⟨⟨_,F⟩,rfl⟩;go_wp2;go_roundg (m-1)
           case measure=>rw[av.out];omega
           case rel =>
            refine⟨m-1,rfl,by omega,rfl,?_,C.trans (F.mono C.size)⟩;rw[← N.out,ac.out,Lx.trimEnd_snoc,E.out];rfl
         ·have ax:m=0:=by omega
          subst ax;have G:Hid (Lx.dedent raw=Lib.join [] [10]):=by
           rw[ah.out,← N.out];rfl
          have au:¬(0:Int)<((0:Nat):Int):=by omega
          have HJ:Hid (∀n:Nat,Calls Tryz.prog 239 #[.slice (some ⟨g,o,none⟩) 0 0,.string ⟨#[10]⟩] (wr.drewN n) λe w'=>e=.returned (.string ⟨(Lib.join [] [10]).toArray⟩)∧Below (wr.drewN n).heap.size (wr.drewN n) w') :=
           λn=>Gk g o 0 0 [] (wr.drewN n) (λi y h=>by simp at h) (Q.drewN n).lt rfl W (λy hy=>by simp at hy) (by omega)
          clear au;go_wp2_with fail
          go_quiet (fail)
          go_wp2_with fail;refine (HJ.out _).mono ?_;rintro e w7 ⟨rfl,hb7⟩;go_wp2;go_ret;exact⟨by rw[G.out];rfl,H.trans ((Below.undrew hb7).mono H.size)⟩
def NM:Go.Shelf.Ren:=⟨fun|196=>161|259=>199|n=>n,fun|9=>9|4=>4|3=>3|5=>5|12=>12|119=>239|0=>0|46=>210|139=>242|138=>241|53=>258|n=>n,fun|3=>0|4=>1|n=>n⟩
theorem L5:Go.Proofs.Lays.n196 Tryz.prog NM:={
 mixed:=by kernel_rfl
 f196:=Tryz.func161.trans (congrArg some (by kernel_rfl))
 f259:=Tryz.func199.trans (congrArg some (by kernel_rfl))
 t0:=Tryz.underlying0
 a0:=Tryz.isAgg0
 z0:=Tryz.sizeOf0
 v0:=Tryz.zeroValue0
 t3:=Tryz.underlying3
 a3:=Tryz.isAgg3
 z3:=Tryz.sizeOf3
 v3:=Tryz.zeroValue3
 t4:=Tryz.underlying4
 a4:=Tryz.isAgg4
 z4:=Tryz.sizeOf4
 v4:=Tryz.zeroValue4
 t5:=Tryz.underlying5
 a5:=Tryz.isAgg5
 z5:=Tryz.sizeOf5
 v5:=Tryz.zeroValue5
 t9:=Tryz.underlying9
 a9:=Tryz.isAgg9
 z9:=Tryz.sizeOf9
 v9:=Tryz.zeroValue9
 t12:=Tryz.underlying12
 a12:=Tryz.isAgg12
 z12:=Tryz.sizeOf12
 v12:=Tryz.zeroValue12
 t46:=Tryz.underlying210
 a46:=Tryz.isAgg210
 z46:=Tryz.sizeOf210
 v46:=Tryz.zeroValue210
 t53:=Tryz.underlying258
 a53:=Tryz.isAgg258
 z53:=Tryz.sizeOf258
 v53:=Tryz.zeroValue258
 t119:=Tryz.underlying239
 a119:=Tryz.isAgg239
 z119:=Tryz.sizeOf239
 t138:=Tryz.underlying241
 a138:=Tryz.isAgg241
 z138:=Tryz.sizeOf241
 v138:=Tryz.zeroValue241
 t139:=Tryz.underlying242
 a139:=Tryz.isAgg242
 z139:=Tryz.sizeOf242
 v139:=Tryz.zeroValue242
 g3:=by kernel_rfl
 g4:=by kernel_rfl }
theorem Fl (s:ByteArray) (w:World) (hs:s.size≤9223372036854775807) (hE:Env w) :
  Calls Tryz.prog 161 #[.string s] w λe w'=>e=.returned (.bool (Lib.validD s.data.toList))∧Below w.heap.size w w' :=
 Any.utf8_ValidString L5 s w hs hE.1
theorem H8 (l:List UInt8) (h:l≠[]):1≤(Lib.decodeL l).2:=by
 have o:0<l.length:=List.length_pos_iff.2 h;unfold Lib.decodeL;rw[Lx.decode_plain l _ _ _ _ rfl rfl rfl rfl]
 repeat' split
 all_goals first|omega|simp
theorem Hw:∀(n:Nat) (l:List UInt8),Lib.validGoD n l=Lx.validGo n l
 | 0,_=>rfl
 | n+1,l=>by
  unfold Lib.validGoD Lx.validGo;by_cases h:l=[]
  ·rw[if_pos h,if_pos h]
  ·rw[if_neg h,if_neg h];have o:=Lx.rune_decode l;have B:Lib.decodeGo ⟨l.toArray⟩=Lib.decodeL l:=by
    unfold Lib.decodeGo Lib.decodeL;rw[if_neg];show ¬l.length=0;intro e;exact h (List.length_eq_zero_iff.1 e)
   rw[B]at o;have D:1≤(Lib.decodeL l).2:=H8 l h;by_cases hb:(Lib.decodeL l).1=65533∧(Lib.decodeL l).2=1
   ·have C:(Lx.rune l).2=0:=by
     rw[← o];unfold Lx.clip;rw[if_pos ⟨hb.1,by omega⟩]
    rw[if_pos hb,if_pos C]
   ·have A:Lx.clip (Lib.decodeL l)=Lib.decodeL l:=by
     unfold Lx.clip;rw[if_neg (λx=>hb ⟨x.1,by omega⟩)]
    rw[A]at o;rw[if_neg hb,← o,if_neg (by omega)];exact Hw n _
theorem GG (l:List UInt8):Lib.validD l=Lx.valid l:=Hw _ l
end Go.Proofs.YtefjgpkpplkkgaaGreatDoor
