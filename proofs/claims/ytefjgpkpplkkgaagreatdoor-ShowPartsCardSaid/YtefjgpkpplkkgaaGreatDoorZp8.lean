/-
  The lexer's 'dedent', walked. The shower of values: what it is in memory; its builder, its need, walked. The writer of documents: what it is in memory; its builder, its need, walked. utf8.ValidString by its contract; what the document's and the lexer's reading of runes call valid. What is valid UTF-8: the library's reading, the lexer's, the document's.
-/
import Derived.Test.YtefjgpkpplkkgaaGreatDoorZp7
import Derived.Test.YtefjgpkpplkkgaaGreatDoorZp6
import Derived.Outline
import Derived.Deep.LoopGhost
import Derived.Deep.DeepCutAuto
import Derived.Shelf.Unicode.ValidAny
import Derived.Test.YtefjgpkpplkkgaaGreatDoorZp1
import Derived.Test.YtefjgpkpplkkgaaGreatDoorZp3
open Go.Lib renaming hid → QA
open List renaming length_append → QT, length_map → QX, mem_of_getElem? → ZC, drop_eq_getElem_cons → ZE, getElem?_eq_getElem → ZJ, length_take → ZK
namespace Go.Proofs.YtefjgpkpplkkgaaGreatDoor
set_option linter.unusedSimpArgs false
set_option linter.unusedVariables false
open Go Go.RowKit
def Row (w:World) (g:Nat) (ls:List (List UInt8)):Prop:=w.heap[g]?=some (.cells (ls.map fun x=>Value.string ⟨x.toArray⟩).toArray 9 (0,0))
theorem Row.lt {w:World} {g:Nat} {ls:List (List UInt8)} (h:Row w g ls):g<w.heap.size:=by
 rcases Nat.lt_or_ge g w.heap.size with h'|h'
 ·exact h'
 ·unfold Row at h;simp[Array.getElem?_eq_none h'] at h
theorem Row.cell {w:World} {g i:Nat} {ls:List (List UInt8)} {x:List UInt8} (h:Row w g ls) (hi:ls[i]?=some x):w.cell? ⟨g,i,none⟩=some (.string ⟨x.toArray⟩):=by
 unfold Row at h;simp[World.cell?,h,hi]
theorem Row.frozen {w:World} {g:Nat} {ls:List (List UInt8)} (h:Row w g ls) (i:Nat):w.frozen? ⟨g,i,none⟩=false:=by
 unfold Row at h;simp[World.frozen?,h]
theorem Row.below {w w':World} {g:Nat} {ls:List (List UInt8)} (h:Row w g ls) (hb:Below w.heap.size w w'):Row w' g ls:=by
 have o:=h.lt;unfold Row at *;rw[hb.block g o];exact h
theorem Row.set {w:World} {g:Nat} {ls:List (List UInt8)} (h:Row w g ls) (i:Nat) (y:List UInt8):Row (w.setCell ⟨g,i,none⟩ (.string ⟨y.toArray⟩)) g (ls.set i y):=by
 unfold Row at *
 simp[World.setCell,Array.getElem?_modify,h,List.map_set]
theorem Row.drewN {w:World} {g:Nat} {ls:List (List UInt8)} (h:Row w g ls) (n:Nat):Row (w.drewN n) g ls:=h
theorem extract_list (x:List UInt8) (a:Nat):(ByteArray.mk x.toArray).extract a x.length=⟨(x.drop a).toArray⟩:=extract_sfx ⟨x.toArray⟩ a
theorem drop_min (x:List UInt8) (c:Int) (h:0≤c):x.drop (min c (x.length:Int)).toNat=x.drop c.toNat:=by
 by_cases h1:c≤x.length
 ·rw[Int.min_eq_left h1]
 ·rw[Int.min_eq_right (by omega),List.drop_of_length_le (by omega),List.drop_of_length_le (by omega)]
theorem splitNl (raw:List UInt8) (w:World) (hE:Env w) (hr:(Lx.nl raw).length≤100000) :
  Calls Tryz.prog 236 #[.string ⟨(Lx.nl raw).toArray⟩,.string ⟨#[10]⟩] w fun e w'=>e=.returned (.slice (some ⟨w.heap.size,0,none⟩) (Lx.lines raw).length (Lx.lines raw).length)∧Row w' w.heap.size (Lx.lines raw)∧Below w.heap.size w w':=by
 obtain ⟨_,m,o⟩:=hE
 refine (Tryz.strings_Split _ _ m w (by show (Lx.nl raw).length<_;omega) o (by decide)).mono ?_
 rintro e w' ⟨rfl,rfl⟩
 rw[Lx.lines_len]
 refine ⟨rfl,?_,(Below.refl _ _).alloc (Nat.le_refl _) _⟩
 unfold Row
 show (w.heap.push _)[w.heap.size]?=_
 simp[Lx.lines,Lx.linesB,Function.comp_def]
theorem replAll (s old:List UInt8) (w:World) (hE:Env w) (h1:1≤old.length) (hr:s.length≤100000) :
  Calls Tryz.prog 237 #[.string ⟨s.toArray⟩,.string ⟨old.toArray⟩,.string ⟨#[10]⟩] w fun e w'=>e=.returned (.string ⟨(Lib.replaceAll s old [10]).toArray⟩)∧Below w.heap.size w w':=by
 obtain ⟨_,m,o⟩:=hE
 have A:=Lib.count_le s old
 refine (Tryz.strings_ReplaceAll ⟨s.toArray⟩ ⟨old.toArray⟩ ⟨#[10]⟩ m w (by show s.length<_;omega) o h1 ?_).mono ?_
 ·show s.length+Lib.count s old*1≤_
  omega
 ·rintro e w' ⟨rfl,hb⟩
  exact ⟨rfl,hb⟩
theorem indent_list (x:List UInt8) (w:World) (hl:x.length≤100000) :
  Calls Tryz.prog 238 #[.string ⟨x.toArray⟩] w fun e w'=>e=.returned (.int .i64 (Lx.ind x))∧Below w.heap.size w w':=indent_any ⟨x.toArray⟩ w hl
theorem foldl_take_succ {α β:Type} (f:α→β→α) (a:α) (l:List β) (i:Nat) (x:β) (h:l[i]?=some x):(l.take (i+1)).foldl f a=f ((l.take i).foldl f a) x:=by
 rw[List.take_add_one,h,List.foldl_append];rfl
theorem List.getElem?_take_of_some {α:Type} {l:List α} {m i:Nat} {y:α} (h:(l.take m)[i]?=some y):l[i]?=some y:=by
 rw[List.getElem?_take] at h
 split at h
 ·exact h
 ·cases h
theorem joinNl (g o n cap:Nat) (xs:List (List UInt8)) (w:World) (hc:∀ (i:Nat) y,xs[i]?=some y→w.cell? ⟨g,o+i,none⟩=some (.string ⟨y.toArray⟩)) (hg:g<w.heap.size)
  (hn:xs.length=n) (hcap:n≤cap) (hl:∀ y∈xs,y.length≤100000) (hn2:n≤100000) :
  Calls Tryz.prog 239 #[.slice (some ⟨g,o,none⟩) n cap,.string ⟨#[10]⟩] w fun e w'=>e=.returned (.string ⟨(Lib.join xs [10]).toArray⟩)∧Below w.heap.size w w':=by
 have A:(xs.map fun x=>(ByteArray.mk x.toArray)).map (·.data.toList)=xs:=by simp[Function.comp_def]
 have B:=Lx.join_le xs 100000 hl
 have:=Tryz.strings_Join g o cap (xs.map fun x=>ByteArray.mk x.toArray) ⟨#[10]⟩ w (by
   intro j x h
   rw[List.getElem?_map] at h
   cases hx:xs[j]? with
   | none=>rw[hx] at h;simp at h
   | some y =>
    rw[hx] at h
    simp only[Option.map_some,Option.some.injEq] at h
    subst h
    exact hc j y hx) hg (by rw[QX];omega) (by rw[QX];omega) (by
   rw[A]
   have C:xs.length*100001≤100000*100001:=Nat.mul_le_mul_right _ (by omega)
   show (Lib.join xs [10]).length≤_
   omega)
 rw[A,QX,hn] at this
 exact this
def DedPost (raw:List UInt8) (w:World) (e:Ending) (w':World):Prop:=e=.returned (.string ⟨(Lx.dedent raw).toArray⟩)∧Below w.heap.size w w'
set_option maxHeartbeats 8000000 in
set_option maxRecDepth 100000 in
theorem dedent_any (raw:List UInt8) (w:World) (hE:Env w) (hr:raw.length≤5000):Calls Tryz.prog 226 #[.string ⟨raw.toArray⟩] w (DedPost raw w):=by
 have aZ:=Lx.replaceAll_len raw [13,10] [10] rfl
 have a8:=Lx.nl_len raw
 go_enter Tryz.func226,Tryz.ntmps226
 go_wp2_with fail
 refine (replAll raw [13,10] w hE (by decide) (by omega)).mono ?_
 rintro e w1 ⟨rfl,hb1⟩
 go_wp2_with fail
 refine (replAll _ [13] w1 (hE.below hb1) (by decide) (by omega)).mono ?_
 rintro e w2 ⟨rfl,hb2⟩
 have K:=hb1.trans (hb2.mono hb1.size)
 have aA:=hE.below K
 go_wp2_with fail
 refine (splitNl raw w2 aA (by omega)).mono ?_
 rintro e w3 ⟨rfl,hR,hb3⟩
 have bl:=Lx.lines_le raw
 have aM:=Lx.line_le raw
 have a0:=Lx.lines_len raw
 have hB:Below w.heap.size w w3:=K.trans (hb3.mono K.size)
 have hg:w.heap.size≤w2.heap.size:=K.size
 have HF:Hid (Lx.dedent raw=Lib.join (Lx.trimEnd ((Lx.strip (Lx.common (Lx.lines raw).tail) (Lx.lines raw)).dropWhile Lx.allSp)) [10]):=rfl
 generalize hls:Lx.lines raw=ls at *
 have h1:1≤ls.length:=by omega
 have ae:=QA aM
 clear aM a0 hls hb1 hb2 K hb3 a8 aZ hE aA
 generalize w2.heap.size=g at *
 go_upto_region 3 with (fail)
 go_cut [3,14,15,16] (fun s3 s14 s15 s16 wx=>wx=w3∧∃ o1,s3=.slice (some ⟨g,0,none⟩) ls.length ls.length∧s14=.slice (some ⟨g,o1,none⟩) (ls.length-1) (ls.length-1)∧(2≤ls.length→o1=1)∧s15=.int .i64 ((ls.length-1:Nat):Int)∧s16=.int .i64 0)
 case first =>
  by_cases hn1:ls.length=1
  ·rw[hn1]
   go_wp2
   go_meet
   exact ⟨rfl,0,by rw[hn1],by rw[hn1],by omega,by rw[hn1];rfl,rfl⟩
  ·have bn:2≤ls.length:=by omega
   have bp:=QA hn1
   clear hn1
   go_wp2
   go_meet
   exact ⟨rfl,1,rfl,rfl,fun _=>rfl,rfl,rfl⟩
 case rest =>
  obtain ⟨rfl,o1,rfl,rfl,aH,rfl,rfl⟩:=hcut
  have aS:=QA aH
  clear aH
  go_wp2_with fail
  go_loopg [4,16] (ls.length-1) (fun k s4 s16 wr=>∃ i:Nat,k=ls.length-1-i∧i≤ls.length-1∧s16=.int .i64 i∧s4=.int .i64 ((ls.tail.take i).foldl Lx.comStep (-1))∧Below wc.heap.size wc wr)
  case atStart=>exact ⟨0,by omega,by omega,rfl,rfl,Below.refl _ _⟩
  case round =>
   obtain ⟨i,T,hi,rfl,rfl,C⟩:=hrel
   have HK:=QA T
   clear T
   by_cases hlt:i<ls.length-1
   ·have ho:=aS.out (by omega)
    subst ho
    obtain ⟨x,E⟩:∃ x,ls[1+i]?=some x:=⟨ls[1+i]'(by omega),ZJ _⟩
    have ao:=ae.out x (ZC E)
    have aL:(ls.tail)[i]?=some x:=by rw[List.getElem?_tail,Nat.add_comm];exact E
    have HF:=QA (foldl_take_succ Lx.comStep (-1) ls.tail i x aL)
    have A:wr.cell? ⟨g,1+i,none⟩=some (.string ⟨x.toArray⟩):=(hR.below C).cell E
    have af:=Lx.common_ge (ls.tail.take i) (-1) (by omega)
    have Y:-1≤List.foldl Lx.comStep (-1) (List.take i ls.tail)∧List.foldl Lx.comStep (-1) (List.take i ls.tail)≤1000000000:=by
     rcases af with h'|⟨y,hy,h'⟩
     ·omega
     ·have:=ae.out y (List.mem_of_mem_tail (List.mem_of_mem_take hy))
      omega
    obtain ⟨a9,aV⟩:=Y
    clear af E aL
    generalize List.foldl Lx.comStep (-1) (List.take i ls.tail)=c at *
    have be:=Lx.ind_le x
    have br:(0:Int)≤(i:Int):=Int.natCast_nonneg _
    have aR:(i:Int)<((ls.length-1:Nat):Int):=by omega
    have al:(ByteArray.mk x.toArray).size=x.length:=rfl
    have N:(decide (Lx.ind x<x.length)=false∧Lx.comStep c x=c) ∨
      (decide (Lx.ind x<x.length)=true∧decide (c<0)=true∧Lx.comStep c x=Lx.ind x) ∨
      (decide (Lx.ind x<x.length)=true∧decide (c<0)=false∧decide ((Lx.ind x:Int)<c)=true∧Lx.comStep c x=Lx.ind x) ∨
      (decide (Lx.ind x<x.length)=true∧decide (c<0)=false∧decide ((Lx.ind x:Int)<c)=false∧Lx.comStep c x=c):=by
     unfold Lx.comStep
     by_cases a1:Lx.ind x<x.length
     ·by_cases a2:c<0
      ·exact .inr (.inl ⟨by simpa using a1,by simpa using a2,by rw[if_pos ⟨by omega,.inl a2⟩]⟩)
      ·by_cases a3:(Lx.ind x:Int)<c
       ·exact .inr (.inr (.inl ⟨by simpa using a1,by simpa using a2,by simpa using a3,by rw[if_pos ⟨by omega,.inr a3⟩]⟩))
       ·exact .inr (.inr (.inr ⟨by simpa using a1,by simpa using a2,by simpa using a3,by rw[if_neg (by omega)]⟩))
     ·exact .inl ⟨by simpa using a1,by rw[if_neg (by omega)]⟩
    rcases N with ⟨H,e4⟩|⟨H,U,e4⟩|⟨H,U,e3,e4⟩|⟨H,U,e3,e4⟩
    all_goals
     have E4:=QA e4
     clear e4
     go_wp2_with fail
     refine (indent_list x wr (by omega)).mono ?_
     rintro e w5 ⟨rfl,hb5⟩
     have F:=C.trans (hb5.mono C.size)
     go_wp2
     go_roundg (ls.length-1-(i+1))
     case measure=>rw[HK.out];omega
     case rel=>exact ⟨i+1,rfl,by omega,by go_num,by rw[HF.out,E4.out],F⟩
   ·have aW:i=ls.length-1:=by omega
    have aR:((ls.length-1:Nat):Int)≤(i:Int):=by omega
    have aE:List.take i ls.tail=ls.tail:=List.take_of_length_le (by rw[List.length_tail];omega)
    rw[aE]
    have af:=Lx.common_ge ls.tail (-1) (by omega)
    have Y:-1≤Lx.common ls.tail∧Lx.common ls.tail≤1000000000:=by
     rcases af with h'|⟨y,hy,h'⟩
     ·unfold Lx.common;omega
     ·have:=ae.out y (List.mem_of_mem_tail hy)
      omega
    change Code.wp _ _ _ { tmps:=_,defers:=_ } _
    have aC:Hid (Lx.common ls.tail=List.foldl Lx.comStep (-1) ls.tail):=rfl
    rw[← aC.out]
    have aO:=hR.below C
    have aF:Below w.heap.size w wr:=hB.trans (C.mono hB.size)
    obtain ⟨a9,aV⟩:=Y
    generalize Lx.common ls.tail=c at *
    clear af aE aC hR C hB aW hi HK
    go_wp2_with fail
    go_loopg [39] ls.length (fun k s39 V=>∃ j:Nat,k=ls.length-j∧j≤ls.length∧s39=.int .i64 j∧Row V g ((Lx.strip c ls).take j++ls.drop j)∧Below w.heap.size w V)
    case atStart=>exact ⟨0,by omega,by omega,rfl,by simpa using aO,aF⟩
    case round =>
     obtain ⟨j,T,hj,rfl,M,R⟩:=hrel
     have HK:=QA T
     clear T aO aF
     by_cases hlt:j<ls.length
     ·obtain ⟨x,E⟩:∃ x,ls[j]?=some x:=⟨ls[j],ZJ _⟩
      have ao:=ae.out x (ZC E)
      have am:((Lx.strip c ls).take j).length=j:=by rw[ZK,Lx.strip_len];omega
      have S:((Lx.strip c ls).take j++ls.drop j)[j]?=some x:=by
       rw[List.getElem?_append_right (by omega),am,List.getElem?_drop,Nat.sub_self,Nat.add_zero];exact E
      have O:((Lx.strip c ls).take j++ls.drop j).set j (Lx.stripAt c j x)=(Lx.strip c ls).take (j+1)++ls.drop (j+1):=by
       rw[List.set_append_right _ _ (by omega),am,Nat.sub_self,ZE hlt,List.set_cons_zero,List.take_add_one,Lx.strip_get,E]
       simp
      have A:=M.cell S
      have bs:=M.frozen j
      have aB:=QA O
      have aK:(0:Int)≤(j:Int):=Int.natCast_nonneg _
      have aN:(j:Int)<(ls.length:Int):=by omega
      have al:(ByteArray.mk x.toArray).size=x.length:=rfl
      by_cases hdo:0<j∧0<c
      ·have ax:Hid (Lx.stripAt c j x=x.drop c.toNat):=by unfold Lx.stripAt;rw[if_pos hdo];rfl
       obtain ⟨bf,bq⟩:=hdo
       have bd:(0:Int)<(j:Int):=by omega
       clear E am S O
       go_wp2_with fail
       refine wp_region_cuts [15] (by kernel_rfl) (by kernel_rfl) ?_;simp only[wpMix,List.take_succ_cons,List.take_zero,List.drop_succ_cons,List.drop_zero,Nat.sub_zero,Nat.reduceSub,Nat.reduceAdd]
       repeat (go_big_quiet_step (fail))
       refine wpQuiet_nil ?_;rintro _ ⟨nq,rfl⟩
       go_wp2
       repeat (go_big_quiet_step (fail))
       refine wpQuiet_nil ?_;rintro _ ⟨nq,rfl⟩
       go_wp2
       go_roundg (ls.length-(j+1))
       case measure=>rw[HK.out];omega
       case rel =>
        refine ⟨j+1,rfl,by omega,by go_num,?_,?_⟩
        ·have h1:∀ n m:Nat,Row (((wr.drewN n).setCell ⟨g,j,none⟩ (.string ((ByteArray.mk x.toArray).extract (min c (x.length:Int)).toNat x.length))).drewN m) g ((Lx.strip c ls).take (j+1)++ls.drop (j+1)):=fun n m=>by
          rw[extract_list,drop_min x c (by omega),← aB.out,ax.out]
          exact ((M.drewN n).set j _).drewN m
         exact h1 _ _
        ·exact Below.drewN (Below.setCell (Below.drewN R _) hg _) _
      ·have ax:Hid (Lx.stripAt c j x=x):=by unfold Lx.stripAt;rw[if_neg hdo];rfl
       have N:j=0∨((0:Int)<(j:Int)∧c≤0):=by omega
       have HR:Hid (Row wr g ((Lx.strip c ls).take (j+1)++ls.drop (j+1))):=by
        rw[← aB.out,ax.out]
        have:((Lx.strip c ls).take j++ls.drop j).set j x=(Lx.strip c ls).take j++ls.drop j:=by
         apply List.ext_getElem?
         intro m
         rw[List.getElem?_set]
         split
         ·rename_i h'
          subst h'
          split
          ·exact S.symm
          ·rename_i h''
           rw[List.getElem?_eq_none (by omega)]
         ·rfl
        rw[this]
        exact M
       clear E am S O hdo
       rcases N with rfl|⟨H,U⟩
       ·go_wp2
        go_roundg (ls.length-1)
        case measure=>rw[HK.out];omega
        case rel=>exact ⟨1,rfl,by omega,rfl,HR.out,R⟩
       ·go_wp2
        go_roundg (ls.length-(j+1))
        case measure=>rw[HK.out];omega
        case rel=>exact ⟨j+1,rfl,by omega,by go_num,HR.out,R⟩
     ·have aP:j=ls.length:=by omega
      have aN:(ls.length:Int)≤(j:Int):=by omega
      have bm:decide (j<ls.length)=false:=by simp;omega
      have av:Row wr g (Lx.strip c ls):=by
       rw[aP,List.take_of_length_le (by rw[Lx.strip_len];omega),List.drop_of_length_le (by omega),List.append_nil] at M
       exact M
      have bj:=Lx.strip_len c ls
      have ap:∀ y,y∈Lx.strip c ls→y.length≤4*raw.length+3:=by
       intro y hy
       obtain ⟨m,W⟩:=List.getElem?_of_mem hy
       rw[Lx.strip_get] at W
       cases hlm:ls[m]? with
       | none=>rw[hlm] at W;simp at W
       | some z =>
        rw[hlm] at W
        simp only[Option.map_some,Option.some.injEq] at W
        subst W
        have h1:=Lx.stripAt_le c m z
        have h2:=ae.out z (ZC hlm)
        omega
      have ah:=QA ap
      clear ap M aP HK hlt
      generalize Lx.strip c ls=ms at *
      go_wp2_with fail
      go_loopg [3] ls.length (fun k s3 V=>∃ j o:Nat,k=ls.length-j∧j≤ls.length∧s3=.slice (some ⟨g,o,none⟩) (ls.length-j) (ls.length-j)∧(j<ls.length→o=j)∧(ms.drop j).dropWhile Lx.allSp=ms.dropWhile Lx.allSp∧Below wr.heap.size wr V)
      case atStart=>exact ⟨0,0,by omega,by omega,rfl,fun _=>rfl,rfl,Below.refl _ _⟩
      case round =>
       obtain ⟨j,o,T,hj,rfl,ho,aG,C⟩:=hrel
       obtain ⟨V,rfl⟩:∃ V:World,V=wr:=⟨_,rfl⟩
       have HK:=QA T
       have HO:=QA ho
       have an:=QA aG
       clear T ho aG
       by_cases hlt:j<ls.length
       ·have a7:=HO.out hlt
        subst a7
        obtain ⟨x,E⟩:∃ x,ms[o]?=some x:=⟨ms[o]'(by omega),ZJ _⟩
        have ao:=ah.out x (ZC E)
        have A:=(av.below C).cell E
        have ag:∀ y:Later V,y.1.cell? ⟨g,o,none⟩=some (.string ⟨x.toArray⟩):=fun y=>Later.cell A y
        have al:(ByteArray.mk x.toArray).size=x.length:=rfl
        have aJ:ms.drop o=x::ms.drop (o+1):=by
         rw[ZE (by omega)]
         have:=(List.getElem?_eq_some_iff.1 E).2
         rw[this]
        have au:=QA aJ
        have aX:(0:Int)<((ls.length-o:Nat):Int):=by omega
        have aU:0<ls.length-o:=by omega
        clear E aJ
        cases hsp:Lx.allSp x
        ·have H:(Lx.ind x==x.length)=false:=hsp
         have U:((Lx.ind x:Int)==(x.length:Int))=false:=eqF (by simp at H;omega)
         have D:=QA hsp
         clear hsp
         go_wp2_with fail
         refine wp_region_later (by kernel_rfl) (by kernel_rfl) ?_
         repeat (go_big_quiet_step (((exact Later.call (v:=.int .i64 (Lx.ind x)) (indent_list x _ (by omega))))))
         refine wpQuiet_nil ?_;rintro w5 ⟨⟨_,hb5⟩,rfl⟩
         have Z:ms.dropWhile Lx.allSp=ms.drop o:=by
          rw[← an.out,au.out,List.dropWhile_cons,D.out]
          simp
         obtain ⟨B,ac,aT,aa⟩:∃ B,Hid (Lx.dedent raw=Lib.join (Lx.trimEnd B) [10])∧B.length=ls.length-o∧(∀ (i:Nat) y,B[i]?=some y→ms[o+i]?=some y) :=
          ⟨ms.drop o,by rw[← Z];exact HF,by rw[List.length_drop];omega,fun i y h=>by rw[List.getElem?_drop] at h;exact h⟩
         have Q:=C.trans (hb5.mono C.size)
         clear Z au an A ag aX aU D H U
         have I:=QA aa
         clear aa HF
         go_wp2_with fail
         go_loopg [3] (ls.length-o) (fun k s3 V=>∃ m:Nat,k=m∧m≤(ls.length-o)∧s3=.slice (some ⟨g,o,none⟩) m (ls.length-o)∧Lx.trimEnd (B.take m)=Lx.trimEnd B∧Below wr.heap.size wr V)
         case atStart=>exact ⟨_,rfl,Nat.le_refl _,rfl,by rw[List.take_of_length_le (by omega)],(by first|exact Q|exact Below.drewN Q _)⟩
         case round =>
          obtain ⟨m,T,W,rfl,aj,C⟩:=hrel
          have P:=av.below C
          have J:=R.trans (C.mono R.size)
          have aw:=QA T
          have L:=QA aj
          clear T aj Q
          by_cases hm0:0<m
          ·obtain ⟨x,E⟩:∃ x,B[m-1]?=some x:=⟨B[m-1]'(by omega),ZJ _⟩
           have ao:=ah.out x (ZC (I.out _ _ E))
           have A:=P.cell (I.out _ _ E)
           have ag:∀ y:Later wr,y.1.cell? ⟨g,o+(m-1),none⟩=some (.string ⟨x.toArray⟩):=fun y=>Later.cell A y
           have al:(ByteArray.mk x.toArray).size=x.length:=rfl
           have ad:B.take m=B.take (m-1)++[x]:=by
            have:=List.take_add_one (l:=B) (i:=m-1)
            rw[show m-1+1=m by omega,E] at this
            exact this
           have X:=QA ad
           have a4:(0:Int)<(m:Int):=by omega
           have a5:(0:Int)≤(m:Int)-1:=by omega
           have aY:(m:Int)-1<(m:Int):=by omega
           clear E ad
           cases hsp:Lx.allSp x
           ·have H:(Lx.ind x==x.length)=false:=hsp
            have U:((Lx.ind x:Int)==(x.length:Int))=false:=eqF (by simp at H;omega)
            have D:=QA hsp
            clear hsp
            have G:Hid (Lx.dedent raw=Lib.join (B.take m) [10]):=by
             rw[ac.out,← L.out,X.out,Lx.trimEnd_snoc,D.out]
             rfl
            go_wp2_with fail
            refine wp_region_later (by kernel_rfl) (by kernel_rfl) ?_
            repeat (go_big_quiet_step (((exact Later.call (v:=.int .i64 (Lx.ind x)) (indent_list x _ (by omega))))))
            refine wpQuiet_nil ?_;rintro w6 ⟨⟨_,F⟩,rfl⟩
            have ab:=P.below F
            have ai:=J.trans (F.mono J.size)
            have HJ:=QA (joinNl g o m (ls.length-o) (B.take m) w6 (fun i y h=>ab.cell (I.out i y (List.getElem?_take_of_some h))) ab.lt (by rw[ZK];omega) W (fun y hy=>by
             obtain ⟨i,hi⟩:=List.getElem?_of_mem (List.mem_of_mem_take hy)
             have:=ah.out y (ZC (I.out _ _ hi))
             omega) (by omega))
            clear A ag H U
            go_wp2_with fail
            refine HJ.out.mono ?_
            rintro e w7 ⟨rfl,hb7⟩
            go_wp2
            go_ret
            exact ⟨by rw[G.out];rfl,ai.trans (hb7.mono ai.size)⟩
           ·have H:(Lx.ind x==x.length)=true:=hsp
            have U:((Lx.ind x:Int)==(x.length:Int))=true:=eqT (by simp at H;omega)
            have D:=QA hsp
            clear hsp
            go_wp2_with fail
            refine wp_region_later (by kernel_rfl) (by kernel_rfl) ?_
            repeat (go_big_quiet_step (((exact Later.call (v:=.int .i64 (Lx.ind x)) (indent_list x _ (by omega))))))
            refine wpQuiet_nil ?_;rintro w6 ⟨⟨_,F⟩,rfl⟩
            go_wp2
            go_roundg (m-1)
            case measure=>rw[aw.out];omega
            case rel =>
             refine ⟨m-1,rfl,by omega,rfl,?_,C.trans (F.mono C.size)⟩
             rw[← L.out,X.out,Lx.trimEnd_snoc,D.out]
             rfl
          ·have ar:m=0:=by omega
           subst ar
           have G:Hid (Lx.dedent raw=Lib.join [] [10]):=by
            rw[ac.out,← L.out]
            rfl
           have ay:¬ (0:Int)<((0:Nat):Int):=by omega
           have HJ:Hid (∀ n:Nat,Calls Tryz.prog 239 #[.slice (some ⟨g,o,none⟩) 0 (ls.length-o),.string ⟨#[10]⟩] (wr.drewN n) fun e w'=>e=.returned (.string ⟨(Lib.join [] [10]).toArray⟩)∧Below (wr.drewN n).heap.size (wr.drewN n) w') :=
            fun n=>joinNl g o 0 (ls.length-o) [] (wr.drewN n) (fun i y h=>by simp at h) (P.drewN n).lt rfl W (fun y hy=>by simp at hy) (by omega)
           clear ay
           go_wp2_with fail
           go_quiet (fail)
           go_wp2_with fail
           refine (HJ.out _).mono ?_
           rintro e w7 ⟨rfl,hb7⟩
           go_wp2
           go_ret
           exact ⟨by rw[G.out];rfl,J.trans ((Below.undrew hb7).mono J.size)⟩
        ·have H:(Lx.ind x==x.length)=true:=hsp
         have U:((Lx.ind x:Int)==(x.length:Int))=true:=eqT (by simp at H;omega)
         have D:=QA hsp
         clear hsp
         have aI:(ms.drop (o+1)).dropWhile Lx.allSp=ms.dropWhile Lx.allSp:=by
          rw[← an.out,au.out,List.dropWhile_cons,D.out]
          simp
         have aD:=QA aI
         clear aI
         by_cases hlast:ls.length-o=1
         ·go_wp2_with fail
          refine wp_region_later (by kernel_rfl) (by kernel_rfl) ?_
          repeat (go_big_quiet_step (((exact Later.call (v:=.int .i64 (Lx.ind x)) (indent_list x _ (by omega))))))
          refine wpQuiet_nil ?_;rintro w5 ⟨⟨_,hb5⟩,rfl⟩
          go_wp2
          go_roundg (ls.length-(o+1))
          case measure=>rw[HK.out];omega
          case rel=>exact ⟨o+1,o,rfl,by omega,by rw[show ls.length-(o+1)=0 by omega],by omega,aD.out,C.trans (hb5.mono C.size)⟩
         ·have bk:1<ls.length-o:=by omega
          have bi:=QA hlast
          clear hlast
          go_wp2_with fail
          refine wp_region_later (by kernel_rfl) (by kernel_rfl) ?_
          repeat (go_big_quiet_step (((exact Later.call (v:=.int .i64 (Lx.ind x)) (indent_list x _ (by omega))))))
          refine wpQuiet_nil ?_;rintro w5 ⟨⟨_,hb5⟩,rfl⟩
          go_wp2
          go_roundg (ls.length-(o+1))
          case measure=>rw[HK.out];omega
          case rel=>exact ⟨o+1,o+1,rfl,by omega,by rw[Nat.sub_sub],fun _=>rfl,aD.out,C.trans (hb5.mono C.size)⟩
       ·have ba:j=ls.length:=by omega
        have Z:ms.dropWhile Lx.allSp=[]:=by
         rw[← an.out,List.drop_of_length_le (by omega)]
         rfl
        obtain ⟨B,ac,aT,aa⟩:∃ B,Hid (Lx.dedent raw=Lib.join (Lx.trimEnd B) [10])∧B.length=0∧(∀ (i:Nat) y,B[i]?=some y→ms[o+i]?=some y) :=
          ⟨[],by rw[← Z];exact HF,rfl,fun i y h=>by simp at h⟩
        have aK:ls.length-j=0:=by omega
        have aN:¬ (0:Int)<((ls.length-j:Nat):Int):=by omega
        have bh:ls.length≤j:=by omega
        have Q:=C
        clear ba aK Z
        go_wp2_with fail
        go_quiet (fail)
        have I:=QA aa
        clear aa HF
        go_wp2_with fail
        go_loopg [3] 0 (fun k s3 V=>∃ m:Nat,k=m∧m≤0∧s3=.slice (some ⟨g,o,none⟩) m 0∧Lx.trimEnd (B.take m)=Lx.trimEnd B∧Below wr.heap.size wr V)
        case atStart=>exact ⟨_,rfl,Nat.le_refl _,rfl,by rw[List.take_of_length_le (by omega)],(by first|exact Q|exact Below.drewN Q _)⟩
        case round =>
         obtain ⟨m,T,W,rfl,aj,C⟩:=hrel
         have P:=av.below C
         have J:=R.trans (C.mono R.size)
         have aw:=QA T
         have L:=QA aj
         clear T aj Q
         by_cases hm0:0<m
         ·obtain ⟨x,E⟩:∃ x,B[m-1]?=some x:=⟨B[m-1]'(by omega),ZJ _⟩
          have ao:=ah.out x (ZC (I.out _ _ E))
          have A:=P.cell (I.out _ _ E)
          have ag:∀ y:Later wr,y.1.cell? ⟨g,o+(m-1),none⟩=some (.string ⟨x.toArray⟩):=fun y=>Later.cell A y
          have al:(ByteArray.mk x.toArray).size=x.length:=rfl
          have ad:B.take m=B.take (m-1)++[x]:=by
           have:=List.take_add_one (l:=B) (i:=m-1)
           rw[show m-1+1=m by omega,E] at this
           exact this
          have X:=QA ad
          have a4:(0:Int)<(m:Int):=by omega
          have a5:(0:Int)≤(m:Int)-1:=by omega
          have aY:(m:Int)-1<(m:Int):=by omega
          clear E ad
          cases hsp:Lx.allSp x
          ·have H:(Lx.ind x==x.length)=false:=hsp
           have U:((Lx.ind x:Int)==(x.length:Int))=false:=eqF (by simp at H;omega)
           have D:=QA hsp
           clear hsp
           have G:Hid (Lx.dedent raw=Lib.join (B.take m) [10]):=by
            rw[ac.out,← L.out,X.out,Lx.trimEnd_snoc,D.out]
            rfl
           go_wp2_with fail
           refine wp_region_later (by kernel_rfl) (by kernel_rfl) ?_
           repeat (go_big_quiet_step (((exact Later.call (v:=.int .i64 (Lx.ind x)) (indent_list x _ (by omega))))))
           refine wpQuiet_nil ?_;rintro w6 ⟨⟨_,F⟩,rfl⟩
           have ab:=P.below F
           have ai:=J.trans (F.mono J.size)
           have HJ:=QA (joinNl g o m 0 (B.take m) w6 (fun i y h=>ab.cell (I.out i y (List.getElem?_take_of_some h))) ab.lt (by rw[ZK];omega) W (fun y hy=>by
            obtain ⟨i,hi⟩:=List.getElem?_of_mem (List.mem_of_mem_take hy)
            have:=ah.out y (ZC (I.out _ _ hi))
            omega) (by omega))
           clear A ag H U
           go_wp2_with fail
           refine HJ.out.mono ?_
           rintro e w7 ⟨rfl,hb7⟩
           go_wp2
           go_ret
           exact ⟨by rw[G.out];rfl,ai.trans (hb7.mono ai.size)⟩
          ·have H:(Lx.ind x==x.length)=true:=hsp
           have U:((Lx.ind x:Int)==(x.length:Int))=true:=eqT (by simp at H;omega)
           have D:=QA hsp
           clear hsp
           go_wp2_with fail
           refine wp_region_later (by kernel_rfl) (by kernel_rfl) ?_
           repeat (go_big_quiet_step (((exact Later.call (v:=.int .i64 (Lx.ind x)) (indent_list x _ (by omega))))))
           refine wpQuiet_nil ?_;rintro w6 ⟨⟨_,F⟩,rfl⟩
           go_wp2
           go_roundg (m-1)
           case measure=>rw[aw.out];omega
           case rel =>
            refine ⟨m-1,rfl,by omega,rfl,?_,C.trans (F.mono C.size)⟩
            rw[← L.out,X.out,Lx.trimEnd_snoc,D.out]
            rfl
         ·have ar:m=0:=by omega
          subst ar
          have G:Hid (Lx.dedent raw=Lib.join [] [10]):=by
           rw[ac.out,← L.out]
           rfl
          have ay:¬ (0:Int)<((0:Nat):Int):=by omega
          have HJ:Hid (∀ n:Nat,Calls Tryz.prog 239 #[.slice (some ⟨g,o,none⟩) 0 0,.string ⟨#[10]⟩] (wr.drewN n) fun e w'=>e=.returned (.string ⟨(Lib.join [] [10]).toArray⟩)∧Below (wr.drewN n).heap.size (wr.drewN n) w') :=
           fun n=>joinNl g o 0 0 [] (wr.drewN n) (fun i y h=>by simp at h) (P.drewN n).lt rfl W (fun y hy=>by simp at hy) (by omega)
          clear ay
          go_wp2_with fail
          go_quiet (fail)
          go_wp2_with fail
          refine (HJ.out _).mono ?_
          rintro e w7 ⟨rfl,hb7⟩
          go_wp2
          go_ret
          exact ⟨by rw[G.out];rfl,J.trans ((Below.undrew hb7).mono J.size)⟩
theorem sh_lt {w:World} {k:Nat} {o:Obj} (h:w.heap[k]?=some o):k<w.heap.size:=by
 rcases Nat.lt_or_ge k w.heap.size with h'|h'
 ·exact h'
 ·simp[Array.getElem?_eq_none h'] at h
structure SH (B b:Nat) (out:List UInt8) (bad:Bool) (w:World):Prop where
 hB:B≤b
 ex:∃ p v,(p=Value.pointer none∨p=.pointer (some ⟨b,0,none⟩))∧w.heap[b]?=some (.cells #[p,v,.bool bad] 67 (0,0))∧w.ownsRowF B 5 1 v out.length (Lib.byteCells out)∧v.ownBlock≠some b
theorem shLies:liesAt Tryz.prog Tryz.prog.depth 67 (3 / Tryz.prog.cellsOf 67) 0 65 1=true:=by kernel_rfl
theorem SH.lt {B b:Nat} {out:List UInt8} {bad:Bool} {w:World} (h:SH B b out bad w):b<w.heap.size:=by
 obtain ⟨-,p,v,-,o,-⟩:=h
 exact sh_lt o
theorem sh_put {B b:Nat} {p v:Value} {out:List UInt8} {bad:Bool} {w:World} (hB:B≤b) (hp:p=Value.pointer none∨p=.pointer (some ⟨b,0,none⟩)) (hb:w.heap[b]?=some (.cells #[p,v,.bool bad] 67 (0,0))) {v':Value} (hown:w.ownsRowF B 5 1 v' out.length (Lib.byteCells out)) :
  SH B b out bad (w.setCell ⟨b,1,none⟩ v'):=by
 have o:=Lib.ownBlock_neF hown hb (by decide)
 refine ⟨hB,p,v',hp,?_,?_,o⟩
 ·simp[World.setCell,Array.getElem?_modify,hb]
 ·exact hown.kept (row:=some b) ⟨rfl,rfl,rfl,by simp[World.setCell],fun k _ hk=>Below.heap_setCell _ _ _ _ (fun e=>hk (by simp[e]))⟩ (Or.inr o)
theorem sh_bad {B b:Nat} {out:List UInt8} {bad:Bool} {w:World} (h:SH B b out bad w) (q:Bool):SH B b out q (w.setCell ⟨b,2,none⟩ (.bool q)):=by
 obtain ⟨hB,p,v,D,C,A,o⟩:=h
 refine ⟨hB,p,v,D,?_,?_,o⟩
 ·simp[World.setCell,Array.getElem?_modify,C]
 ·exact A.kept (row:=some b) ⟨rfl,rfl,rfl,by simp[World.setCell],fun k _ hk=>Below.heap_setCell _ _ _ _ (fun e=>hk (by simp[e]))⟩ (Or.inr o)
theorem sh_used {B b:Nat} {out:List UInt8} {bad:Bool} {v p:Value} {w:World} (hb:w.heap[b]?=some (.cells #[p,v,.bool bad] 67 (0,0))) (hown:w.ownsRowF B 5 1 v out.length (Lib.byteCells out)) (hne:v.ownBlock≠some b) :
  (w.setCell ⟨b,0,none⟩ (.pointer (some ⟨b,0,none⟩))).heap[b]?=some (.cells #[.pointer (some ⟨b,0,none⟩),v,.bool bad] 67 (0,0))∧(w.setCell ⟨b,0,none⟩ (.pointer (some ⟨b,0,none⟩))).ownsRowF B 5 1 v out.length (Lib.byteCells out):=by
 refine ⟨?_,?_⟩
 ·simp[World.setCell,Array.getElem?_modify,hb]
 ·exact hown.kept (row:=some b) ⟨rfl,rfl,rfl,by simp[World.setCell],fun k _ hk=>Below.heap_setCell _ _ _ _ (fun e=>hk (by simp[e]))⟩ (Or.inr hne)
set_option maxHeartbeats 1000000 in
set_option maxRecDepth 100000 in
theorem shCheck_fresh (b:Nat) (w:World) (h0:w.cell? ⟨b,0,none⟩=some (.pointer none)) (hsh:w.shape? b=some (67,3)) (hfz:w.frozen? ⟨b,0,none⟩=false) :
  Calls Tryz.prog 160 #[.pointer (some ⟨b,0,none⟩)] w fun e w'=>e=.returned (.tuple #[])∧w'=w.setCell ⟨b,0,none⟩ (.pointer (some ⟨b,0,none⟩)):=by
 obtain ⟨j,A,o⟩:=Option.map_eq_some_iff.1 sbSize
 go_enter Tryz.func160,Tryz.ntmps160
 go_wp2
 rw[Lib.run_to_unsafe w ⟨b,0,none⟩ Tryz.underlying62 Tryz.underlying236 A (by rw[o];decide) hsh (Nat.zero_lt_succ 2)]
 simp only[Result.andThen]
 rw[Oper.upon_value]
 go_wp2
 rw[run_callFunc_extern Tryz.func198 (by kernel_rfl) (by kernel_rfl) (by kernel_rfl) (e:=Extern.AbiNoEscape.same) (by kernel_rfl)]
 rw[Lib.run_noEscape]
 simp only[Result.andThen]
 rw[Oper.upon_value]
 go_wp2
 rw[Lib.run_from_unsafe w ⟨b,0,none⟩ Tryz.underlying236 Tryz.underlying62 A hsh shLies]
 simp only[Result.andThen]
 rw[Oper.upon_value]
 go_wp2
 go_end0
 exact ⟨rfl,rfl⟩
theorem shCheck (B b:Nat) (out:List UInt8) (bad:Bool) (w:World) (h:SH B b out bad w) :
  Calls Tryz.prog 160 #[.pointer (some ⟨b,0,none⟩)] w fun e w'=>e=.returned (.tuple #[])∧(∃ v,w'.heap[b]?=some (.cells #[.pointer (some ⟨b,0,none⟩),v,.bool bad] 67 (0,0))∧w'.ownsRowF B 5 1 v out.length (Lib.byteCells out)∧v.ownBlock≠some b)∧Below B w w'∧Lib.OthersKept 5 (some b) w w':=by
 obtain ⟨hB,p,v,F,C,o,A⟩:=h
 have c0:w.cell? ⟨b,0,none⟩=some p:=by rw[Lib.cell_of_heap C];rfl
 rcases F with rfl|rfl
 ·refine (shCheck_fresh b w c0 (by simp[World.shape?,C]) (by simp[World.frozen?,C])).mono ?_
  rintro e w' ⟨rfl,rfl⟩
  obtain ⟨D,E⟩:=sh_used C o A
  exact ⟨rfl,⟨v,D,E,A⟩,(Below.refl B w).setCell (p:=⟨b,0,none⟩) hB _,(Lib.OthersKept.refl _ _ w).setCell ⟨b,0,none⟩ rfl _⟩
 ·refine (copyCheck_used b w c0).mono ?_
  rintro e w' ⟨rfl,rfl⟩
  exact ⟨rfl,⟨v,C,o,A⟩,Below.refl B _,Lib.OthersKept.refl _ _ _⟩
set_option maxHeartbeats 2000000 in
set_option maxRecDepth 100000 in
theorem shByte (B b:Nat) (out:List UInt8) (bad:Bool) (c:UInt8) (w:World) (h:SH B b out bad w) (hlen:out.length≤10000000000) (hBw:B≤w.heap.size) :
  Calls Tryz.prog 162 #[.pointer (some ⟨b,0,none⟩),.int .u8 c.toNat] w fun e w'=>e=.returned .nilIface∧SH B b (out++[c]) bad w'∧Below B w w'∧Lib.OthersKept 5 (some b) w w':=by
 obtain ⟨H,hi,C,D,F⟩:=info_parts byteInfo
 have hB:=h.hB
 have G:(Lib.byteCells out).length=out.length:=Lib.byteCells_length out
 go_enter Tryz.func162,Tryz.ntmps162
 go_wp2_with (go_at_call 160;refine (shCheck B b out bad _ h).mono ?_)
 rintro e w1 ⟨rfl,⟨v,hbk,hown,hne⟩,hb1,hk1⟩
 have c0:w1.cell? ⟨b,0,none⟩=some (.pointer (some ⟨b,0,none⟩)):=by rw[Lib.cell_of_heap hbk];rfl
 have c1:w1.cell? ⟨b,1,none⟩=some v:=by rw[Lib.cell_of_heap hbk];rfl
 go_wp2_with (at_builtin;refine wpList_append_ownF _ rfl _ _ 63 rfl B 5 H (.int .u8 0) 1 1 Tryz.underlying63 hi C D F rfl (by decide) _ _ _ rfl (hown.alloc _) ⟨w1.heap.size,0,none⟩ 1 1 [.int .u8 c.toNat] rfl rfl ?c1 ?c2 ?c3 ?c4 ?c5 ?_)
 case c1 =>
  intro j u hj
  match j,hj with
  | 0,hj=>simp at hj;subst hj;simp[Addr.add]
 case c2=>intro u hu;simp at hu;subst hu;rfl
 case c3=>unfold maxLen;omega
 case c4=>omega
 case c5=>have:=hb1.size;simp;omega
 intro v' w2 hown' hgrow _
 have E:b<w1.heap.size:=sh_lt hbk
 have o:w2.heap[b]?=some (.cells #[.pointer (some ⟨b,0,none⟩),v,.bool bad] 67 (0,0)):=by
  rw[hgrow.block b (by simp;omega) (fun e=>hne e.symm),Lib.alloc_old w1 _ b E]
  exact hbk
 have I:w2.cell? ⟨b,0,none⟩=some (.pointer (some ⟨b,0,none⟩)):=by rw[Lib.cell_of_heap o];rfl
 have J:w2.cell? ⟨b,1,none⟩=some v:=by rw[Lib.cell_of_heap o];rfl
 have f1:w2.frozen? ⟨b,1,none⟩=false:=Lib.frozen_of_heap o 1
 obtain ⟨g,A,rfl⟩:∃ g A,v'=.slice (some ⟨g,0,none⟩) (out.length+1) A:=by
  rcases hown'.2 with ⟨_,h0⟩|⟨g,A,cur,fz,hv,_⟩
  ·omega
  ·exact ⟨g,A,hv⟩
 go_wp2
 go_ret
 refine ⟨rfl,?_,?_,((hk1.alloc _).grown hgrow (Lib.ownsRowF_kind (hown.alloc _))).setCell ⟨b,1,none⟩ rfl _⟩
 ·refine sh_put (out:=out++[c]) hB (.inr rfl) o ?_
  rw[QT,Lib.byteCells_append]
  exact hown'
 ·exact ((hb1.alloc (by have:=hb1.size;omega) _).grown hgrow (by have:=hb1.size;simp;omega) (fun k hk=>(hown.lt k hk).1)).setCell (p:=⟨b,1,none⟩) hB _
set_option maxHeartbeats 2000000 in
set_option maxRecDepth 100000 in
theorem shStr (B b:Nat) (out l:List UInt8) (bad:Bool) (w:World) (h:SH B b out bad w) (hlen:out.length+l.length≤10000000000) (hBw:B≤w.heap.size) :
  Calls Tryz.prog 88 #[.pointer (some ⟨b,0,none⟩),.string ⟨l.toArray⟩] w fun e w'=>(∃ n:Int,e=.returned (.tuple #[.int .i64 n,.nilIface]))∧SH B b (out++l) bad w'∧Below B w w'∧Lib.OthersKept 5 (some b) w w':=by
 obtain ⟨M,hi,F,I,G⟩:=info_parts byteInfo
 have hB:=h.hB
 have N:(Lib.byteCells out).length=out.length:=Lib.byteCells_length out
 obtain ⟨s,E⟩:∃ s:ByteArray,s=⟨l.toArray⟩:=⟨_,rfl⟩
 have D:s.size=l.length:=by rw[E];rfl
 have H:Hid (Lib.strCells s=Lib.byteCells l):=by rw[E];exact QA rfl
 rw[← E]
 clear E
 go_enter Tryz.func88,Tryz.ntmps88
 go_wp2_with (go_at_call 160;refine (shCheck B b out bad _ h).mono ?_)
 rintro e w1 ⟨rfl,⟨v,hbk,hown,hne⟩,hb1,hk1⟩
 have c0:w1.cell? ⟨b,0,none⟩=some (.pointer (some ⟨b,0,none⟩)):=by rw[Lib.cell_of_heap hbk];rfl
 have c1:w1.cell? ⟨b,1,none⟩=some v:=by rw[Lib.cell_of_heap hbk];rfl
 have A:=QA D
 clear D
 go_wp2_with (at_builtin;refine Lib.wpList_append_own_stringF _ rfl _ _ 63 9 rfl B 5 M Tryz.underlying63 Tryz.underlying9 hi F I G _ _ _ rfl hown s rfl ?c3 ?c4 ?c5 ?_)
 case c3=>have:=A.out;unfold maxLen;omega
 case c4=>have:=A.out;omega
 case c5=>have:=hb1.size;omega
 intro v' w2 hown' hgrow _
 have J:b<w1.heap.size:=sh_lt hbk
 have o:w2.heap[b]?=some (.cells #[.pointer (some ⟨b,0,none⟩),v,.bool bad] 67 (0,0)):=by
  rw[hgrow.block b J (fun e=>hne e.symm)]
  exact hbk
 have P:w2.cell? ⟨b,0,none⟩=some (.pointer (some ⟨b,0,none⟩)):=by rw[Lib.cell_of_heap o];rfl
 have O:w2.cell? ⟨b,1,none⟩=some v:=by rw[Lib.cell_of_heap o];rfl
 have f1:w2.frozen? ⟨b,1,none⟩=false:=Lib.frozen_of_heap o 1
 obtain ⟨K,L,C,rfl⟩:∃ K L C,v'=.slice K L C:=by
  rcases hown'.2 with ⟨hv,_⟩|⟨g,C,cur,fz,hv,_⟩
  ·exact ⟨_,_,_,hv⟩
  ·exact ⟨_,_,_,hv⟩
 go_wp2
 go_ret2
 refine ⟨⟨_,rfl⟩,?_,?_,(hk1.grown hgrow (Lib.ownsRowF_kind hown)).setCell ⟨b,1,none⟩ rfl _⟩
 ·refine sh_put (out:=out++l) hB (.inr rfl) o ?_
  rw[QT,Lib.byteCells_append,← H.out,← A.out]
  exact hown'
 ·exact (hb1.grown hgrow (by have:=hb1.size;omega) (fun k hk=>(hown.lt k hk).1)).setCell (p:=⟨b,1,none⟩) hB _
set_option maxRecDepth 100000 in
theorem shNeed (B b:Nat) (out:List UInt8) (bad ok:Bool) (w:World) (h:SH B b out bad w) :
  Calls Tryz.prog 86 #[.pointer (some ⟨b,0,none⟩),.bool ok] w fun e w'=>e=.returned (.tuple #[])∧SH B b out (bad||!ok) w'∧Below B w w'∧Lib.OthersKept 5 (some b) w w':=by
 have hB:=h.hB
 have C:=fun q=>sh_bad h q
 obtain ⟨-,p,v,D,o,-⟩:=h
 have c2:w.cell? ⟨b,2,none⟩=some (.bool bad):=by rw[Lib.cell_of_heap o];rfl
 have f2:w.frozen? ⟨b,2,none⟩=false:=Lib.frozen_of_heap o 2
 clear o D
 have A:∀ q,SH B b out q (w.setCell ⟨b,2,none⟩ (.bool q))∧Below B w (w.setCell ⟨b,2,none⟩ (.bool q))∧Lib.OthersKept 5 (some b) w (w.setCell ⟨b,2,none⟩ (.bool q)):=fun q =>
  ⟨C q,(Below.refl B w).setCell (p:=⟨b,2,none⟩) hB _,(Lib.OthersKept.refl _ _ w).setCell ⟨b,2,none⟩ rfl _⟩
 cases bad<;>cases ok
 all_goals
  go_enter Tryz.func86,Tryz.ntmps86
  go_wp2_with fail
  go_end0
  exact ⟨rfl,A _⟩
set_option maxHeartbeats 2000000 in
set_option maxRecDepth 100000 in
theorem shString (B b:Nat) (out:List UInt8) (bad:Bool) (w:World) (h:SH B b out bad w) (h0:out≠[]) :
  Calls Tryz.prog 33 #[.pointer (some ⟨b,0,none⟩)] w fun e w'=>e=.returned (.string ⟨out.toArray⟩)∧Below B w w':=by
 obtain ⟨hB,p,v,S,F,C,G⟩:=h
 have L:out.length≠0:=by simpa using h0
 obtain ⟨g,o,A,E,rfl,J,O,H,Q,I,K,D⟩:∃ g o A E,v=.slice (some ⟨g,0,none⟩) out.length o∧B≤g∧w.heap[g]?=some (.cells A 5 E)∧E.2≤out.length*1∧out.length≤o∧o≤maxLen∧A.size=o*1∧A.toList.take (out.length*1)=Lib.byteCells out:=by
  rcases C.2 with ⟨_,hz⟩|⟨g,o,A,E,hv,r⟩
  ·exact absurd hz L
  ·exact ⟨g,o,A,E,hv,r⟩
 have c1:w.drew.cell? ⟨b,1,none⟩=some (.slice (some ⟨g,0,none⟩) out.length o):=by
  have:w.drew.heap[b]?=some (.cells #[p,.slice (some ⟨g,0,none⟩) out.length o,.bool bad] 67 (0,0)):=F
  rw[Lib.cell_of_heap this];rfl
 have P:(Builtin.unsafeSliceData_ #[63] 154 #[.slice (some ⟨g,0,none⟩) out.length o]).run Tryz.prog w.drew=.ok (.pointer (some ⟨g,0,none⟩)) w.drew :=
  Lib.run_unsafeSliceData_row _ _ _ _ _ _ (by omega)
 have R:(Builtin.unsafeString_ #[154,3] 9 #[.pointer (some ⟨g,0,none⟩),.int .i64 out.length]).run Tryz.prog w.drew=.ok (.string ⟨out.toArray⟩) (w.drew.freeze ⟨g,0,none⟩ out.length):=by
  refine Lib.run_unsafeString_row w.drew 154 3 9 5 Tryz.underlying154 (by kernel_rfl) g A.size (by have M:w.drew.heap[g]?=some (.cells A 5 E):=O;simp[World.shape?,M]) out h0 (by omega) (by unfold maxLen at I;omega) ?_
  intro j x hx
  have:=C.cells (g:=g) rfl j (.int .u8 x.toNat) (by simp[Lib.byteCells,hx])
  exact this
 have N:Tryz.prog.follows Departure.mixedOrders=true:=by kernel_rfl
 clear C D K H O F G h0
 go_enter Tryz.func33,Tryz.ntmps33
 go_wp2
 go_region_o
 all_goals (go_wp2;go_ret;exact ⟨rfl,Lib.below_freeze (Below.drew (Below.refl B w)) (p:=⟨g,0,none⟩) J _⟩)
structure WH (B b:Nat) (out:List UInt8) (bad:Bool) (w:World):Prop where
 hB:B≤b
 ex:∃ p v,(p=Value.pointer none∨p=.pointer (some ⟨b,0,none⟩))∧w.heap[b]?=some (.cells #[p,v,.bool bad] 104 (0,0))∧w.ownsRowF B 5 1 v out.length (Lib.byteCells out)∧v.ownBlock≠some b
theorem wrLies:liesAt Tryz.prog Tryz.prog.depth 104 (3 / Tryz.prog.cellsOf 104) 0 65 1=true:=by kernel_rfl
theorem WH.lt {B b:Nat} {out:List UInt8} {bad:Bool} {w:World} (h:WH B b out bad w):b<w.heap.size:=by
 obtain ⟨-,p,v,-,o,-⟩:=h
 exact sh_lt o
theorem wr_put {B b:Nat} {p v:Value} {out:List UInt8} {bad:Bool} {w:World} (hB:B≤b) (hp:p=Value.pointer none∨p=.pointer (some ⟨b,0,none⟩)) (hb:w.heap[b]?=some (.cells #[p,v,.bool bad] 104 (0,0))) {v':Value} (hown:w.ownsRowF B 5 1 v' out.length (Lib.byteCells out)) :
  WH B b out bad (w.setCell ⟨b,1,none⟩ v'):=by
 have o:=Lib.ownBlock_neF hown hb (by decide)
 refine ⟨hB,p,v',hp,?_,?_,o⟩
 ·simp[World.setCell,Array.getElem?_modify,hb]
 ·exact hown.kept (row:=some b) ⟨rfl,rfl,rfl,by simp[World.setCell],fun k _ hk=>Below.heap_setCell _ _ _ _ (fun e=>hk (by simp[e]))⟩ (Or.inr o)
theorem wr_bad {B b:Nat} {out:List UInt8} {bad:Bool} {w:World} (h:WH B b out bad w) (q:Bool):WH B b out q (w.setCell ⟨b,2,none⟩ (.bool q)):=by
 obtain ⟨hB,p,v,D,C,A,o⟩:=h
 refine ⟨hB,p,v,D,?_,?_,o⟩
 ·simp[World.setCell,Array.getElem?_modify,C]
 ·exact A.kept (row:=some b) ⟨rfl,rfl,rfl,by simp[World.setCell],fun k _ hk=>Below.heap_setCell _ _ _ _ (fun e=>hk (by simp[e]))⟩ (Or.inr o)
theorem wr_used {B b:Nat} {out:List UInt8} {bad:Bool} {v p:Value} {w:World} (hb:w.heap[b]?=some (.cells #[p,v,.bool bad] 104 (0,0))) (hown:w.ownsRowF B 5 1 v out.length (Lib.byteCells out)) (hne:v.ownBlock≠some b) :
  (w.setCell ⟨b,0,none⟩ (.pointer (some ⟨b,0,none⟩))).heap[b]?=some (.cells #[.pointer (some ⟨b,0,none⟩),v,.bool bad] 104 (0,0))∧(w.setCell ⟨b,0,none⟩ (.pointer (some ⟨b,0,none⟩))).ownsRowF B 5 1 v out.length (Lib.byteCells out):=by
 refine ⟨?_,?_⟩
 ·simp[World.setCell,Array.getElem?_modify,hb]
 ·exact hown.kept (row:=some b) ⟨rfl,rfl,rfl,by simp[World.setCell],fun k _ hk=>Below.heap_setCell _ _ _ _ (fun e=>hk (by simp[e]))⟩ (Or.inr hne)
set_option maxHeartbeats 1000000 in
set_option maxRecDepth 100000 in
theorem wrCheck_fresh (b:Nat) (w:World) (h0:w.cell? ⟨b,0,none⟩=some (.pointer none)) (hsh:w.shape? b=some (104,3)) (hfz:w.frozen? ⟨b,0,none⟩=false) :
  Calls Tryz.prog 160 #[.pointer (some ⟨b,0,none⟩)] w fun e w'=>e=.returned (.tuple #[])∧w'=w.setCell ⟨b,0,none⟩ (.pointer (some ⟨b,0,none⟩)):=by
 obtain ⟨j,A,o⟩:=Option.map_eq_some_iff.1 sbSize
 go_enter Tryz.func160,Tryz.ntmps160
 go_wp2
 rw[Lib.run_to_unsafe w ⟨b,0,none⟩ Tryz.underlying62 Tryz.underlying236 A (by rw[o];decide) hsh (Nat.zero_lt_succ 2)]
 simp only[Result.andThen]
 rw[Oper.upon_value]
 go_wp2
 rw[run_callFunc_extern Tryz.func198 (by kernel_rfl) (by kernel_rfl) (by kernel_rfl) (e:=Extern.AbiNoEscape.same) (by kernel_rfl)]
 rw[Lib.run_noEscape]
 simp only[Result.andThen]
 rw[Oper.upon_value]
 go_wp2
 rw[Lib.run_from_unsafe w ⟨b,0,none⟩ Tryz.underlying236 Tryz.underlying62 A hsh wrLies]
 simp only[Result.andThen]
 rw[Oper.upon_value]
 go_wp2
 go_end0
 exact ⟨rfl,rfl⟩
theorem wrCheck (B b:Nat) (out:List UInt8) (bad:Bool) (w:World) (h:WH B b out bad w) :
  Calls Tryz.prog 160 #[.pointer (some ⟨b,0,none⟩)] w fun e w'=>e=.returned (.tuple #[])∧(∃ v,w'.heap[b]?=some (.cells #[.pointer (some ⟨b,0,none⟩),v,.bool bad] 104 (0,0))∧w'.ownsRowF B 5 1 v out.length (Lib.byteCells out)∧v.ownBlock≠some b)∧Below B w w'∧Lib.OthersKept 5 (some b) w w':=by
 obtain ⟨hB,p,v,F,C,o,A⟩:=h
 have c0:w.cell? ⟨b,0,none⟩=some p:=by rw[Lib.cell_of_heap C];rfl
 rcases F with rfl|rfl
 ·refine (wrCheck_fresh b w c0 (by simp[World.shape?,C]) (by simp[World.frozen?,C])).mono ?_
  rintro e w' ⟨rfl,rfl⟩
  obtain ⟨D,E⟩:=wr_used C o A
  exact ⟨rfl,⟨v,D,E,A⟩,(Below.refl B w).setCell (p:=⟨b,0,none⟩) hB _,(Lib.OthersKept.refl _ _ w).setCell ⟨b,0,none⟩ rfl _⟩
 ·refine (copyCheck_used b w c0).mono ?_
  rintro e w' ⟨rfl,rfl⟩
  exact ⟨rfl,⟨v,C,o,A⟩,Below.refl B _,Lib.OthersKept.refl _ _ _⟩
set_option maxHeartbeats 2000000 in
set_option maxRecDepth 100000 in
theorem wrStr (B b:Nat) (out l:List UInt8) (bad:Bool) (w:World) (h:WH B b out bad w) (hlen:out.length+l.length≤1000000000000) (hBw:B≤w.heap.size) :
  Calls Tryz.prog 88 #[.pointer (some ⟨b,0,none⟩),.string ⟨l.toArray⟩] w fun e w'=>(∃ n:Int,e=.returned (.tuple #[.int .i64 n,.nilIface]))∧WH B b (out++l) bad w'∧Below B w w'∧Lib.OthersKept 5 (some b) w w':=by
 obtain ⟨M,hi,F,I,G⟩:=info_parts byteInfo
 have hB:=h.hB
 have N:(Lib.byteCells out).length=out.length:=Lib.byteCells_length out
 obtain ⟨s,E⟩:∃ s:ByteArray,s=⟨l.toArray⟩:=⟨_,rfl⟩
 have D:s.size=l.length:=by rw[E];rfl
 have H:Hid (Lib.strCells s=Lib.byteCells l):=by rw[E];exact QA rfl
 rw[← E]
 clear E
 go_enter Tryz.func88,Tryz.ntmps88
 go_wp2_with (go_at_call 160;refine (wrCheck B b out bad _ h).mono ?_)
 rintro e w1 ⟨rfl,⟨v,hbk,hown,hne⟩,hb1,hk1⟩
 have c0:w1.cell? ⟨b,0,none⟩=some (.pointer (some ⟨b,0,none⟩)):=by rw[Lib.cell_of_heap hbk];rfl
 have c1:w1.cell? ⟨b,1,none⟩=some v:=by rw[Lib.cell_of_heap hbk];rfl
 have A:=QA D
 clear D
 go_wp2_with (at_builtin;refine Lib.wpList_append_own_stringF _ rfl _ _ 63 9 rfl B 5 M Tryz.underlying63 Tryz.underlying9 hi F I G _ _ _ rfl hown s rfl ?c3 ?c4 ?c5 ?_)
 case c3=>have:=A.out;unfold maxLen;omega
 case c4=>have:=A.out;omega
 case c5=>have:=hb1.size;omega
 intro v' w2 hown' hgrow _
 have J:b<w1.heap.size:=sh_lt hbk
 have o:w2.heap[b]?=some (.cells #[.pointer (some ⟨b,0,none⟩),v,.bool bad] 104 (0,0)):=by
  rw[hgrow.block b J (fun e=>hne e.symm)]
  exact hbk
 have P:w2.cell? ⟨b,0,none⟩=some (.pointer (some ⟨b,0,none⟩)):=by rw[Lib.cell_of_heap o];rfl
 have O:w2.cell? ⟨b,1,none⟩=some v:=by rw[Lib.cell_of_heap o];rfl
 have f1:w2.frozen? ⟨b,1,none⟩=false:=Lib.frozen_of_heap o 1
 obtain ⟨K,L,C,rfl⟩:∃ K L C,v'=.slice K L C:=by
  rcases hown'.2 with ⟨hv,_⟩|⟨g,C,cur,fz,hv,_⟩
  ·exact ⟨_,_,_,hv⟩
  ·exact ⟨_,_,_,hv⟩
 go_wp2
 go_ret2
 refine ⟨⟨_,rfl⟩,?_,?_,(hk1.grown hgrow (Lib.ownsRowF_kind hown)).setCell ⟨b,1,none⟩ rfl _⟩
 ·refine wr_put (out:=out++l) hB (.inr rfl) o ?_
  rw[QT,Lib.byteCells_append,← H.out,← A.out]
  exact hown'
 ·exact (hb1.grown hgrow (by have:=hb1.size;omega) (fun k hk=>(hown.lt k hk).1)).setCell (p:=⟨b,1,none⟩) hB _
set_option maxRecDepth 100000 in
theorem wrNeed (B b:Nat) (out:List UInt8) (bad ok:Bool) (w:World) (h:WH B b out bad w) :
  Calls Tryz.prog 50 #[.pointer (some ⟨b,0,none⟩),.bool ok] w fun e w'=>e=.returned (.tuple #[])∧WH B b out (bad||!ok) w'∧Below B w w'∧Lib.OthersKept 5 (some b) w w':=by
 have hB:=h.hB
 have C:=fun q=>wr_bad h q
 obtain ⟨-,p,v,D,o,-⟩:=h
 have c2:w.cell? ⟨b,2,none⟩=some (.bool bad):=by rw[Lib.cell_of_heap o];rfl
 have f2:w.frozen? ⟨b,2,none⟩=false:=Lib.frozen_of_heap o 2
 clear o D
 have A:∀ q,WH B b out q (w.setCell ⟨b,2,none⟩ (.bool q))∧Below B w (w.setCell ⟨b,2,none⟩ (.bool q))∧Lib.OthersKept 5 (some b) w (w.setCell ⟨b,2,none⟩ (.bool q)):=fun q =>
  ⟨C q,(Below.refl B w).setCell (p:=⟨b,2,none⟩) hB _,(Lib.OthersKept.refl _ _ w).setCell ⟨b,2,none⟩ rfl _⟩
 cases bad<;>cases ok
 all_goals
  go_enter Tryz.func50,Tryz.ntmps50
  go_wp2_with fail
  go_end0
  exact ⟨rfl,A _⟩
set_option maxHeartbeats 2000000 in
set_option maxRecDepth 100000 in
theorem wrString (B b:Nat) (out:List UInt8) (bad:Bool) (w:World) (h:WH B b out bad w) (h0:out≠[]) :
  Calls Tryz.prog 33 #[.pointer (some ⟨b,0,none⟩)] w fun e w'=>e=.returned (.string ⟨out.toArray⟩)∧Below B w w':=by
 obtain ⟨hB,p,v,S,F,C,G⟩:=h
 have L:out.length≠0:=by simpa using h0
 obtain ⟨g,o,A,E,rfl,J,O,H,Q,I,K,D⟩:∃ g o A E,v=.slice (some ⟨g,0,none⟩) out.length o∧B≤g∧w.heap[g]?=some (.cells A 5 E)∧E.2≤out.length*1∧out.length≤o∧o≤maxLen∧A.size=o*1∧A.toList.take (out.length*1)=Lib.byteCells out:=by
  rcases C.2 with ⟨_,hz⟩|⟨g,o,A,E,hv,r⟩
  ·exact absurd hz L
  ·exact ⟨g,o,A,E,hv,r⟩
 have c1:w.drew.cell? ⟨b,1,none⟩=some (.slice (some ⟨g,0,none⟩) out.length o):=by
  have:w.drew.heap[b]?=some (.cells #[p,.slice (some ⟨g,0,none⟩) out.length o,.bool bad] 104 (0,0)):=F
  rw[Lib.cell_of_heap this];rfl
 have P:(Builtin.unsafeSliceData_ #[63] 154 #[.slice (some ⟨g,0,none⟩) out.length o]).run Tryz.prog w.drew=.ok (.pointer (some ⟨g,0,none⟩)) w.drew :=
  Lib.run_unsafeSliceData_row _ _ _ _ _ _ (by omega)
 have R:(Builtin.unsafeString_ #[154,3] 9 #[.pointer (some ⟨g,0,none⟩),.int .i64 out.length]).run Tryz.prog w.drew=.ok (.string ⟨out.toArray⟩) (w.drew.freeze ⟨g,0,none⟩ out.length):=by
  refine Lib.run_unsafeString_row w.drew 154 3 9 5 Tryz.underlying154 (by kernel_rfl) g A.size (by have M:w.drew.heap[g]?=some (.cells A 5 E):=O;simp[World.shape?,M]) out h0 (by omega) (by unfold maxLen at I;omega) ?_
  intro j x hx
  have:=C.cells (g:=g) rfl j (.int .u8 x.toNat) (by simp[Lib.byteCells,hx])
  exact this
 have N:Tryz.prog.follows Departure.mixedOrders=true:=by kernel_rfl
 clear C D K H O F G h0
 go_enter Tryz.func33,Tryz.ntmps33
 go_wp2
 go_region_o
 all_goals (go_wp2;go_ret;exact ⟨rfl,Lib.below_freeze (Below.drew (Below.refl B w)) (p:=⟨g,0,none⟩) J _⟩)
def val_ren:Go.Shelf.Ren:=⟨fun|196=>161|259=>199|n=>n,fun|9=>9|4=>4|3=>3|5=>5|12=>12|119=>239|0=>0|46=>210|139=>242|138=>241|53=>258|n=>n,fun|3=>0|4=>1|n=>n⟩
theorem val_lays:Go.Proofs.Lays.n196 Tryz.prog val_ren:={
 mixed:=by kernel_rfl
 f196:=Tryz.func161.trans (congrArg some (by kernel_rfl))
 f259:=Tryz.func199.trans (congrArg some (by kernel_rfl))
 t0:=Tryz.underlying0
 a0:=Tryz.isAgg0
 z0:=Tryz.sizeOf0
 v0:=Tryz.zeroValue0
 t3:=Tryz.underlying3
 a3:=Tryz.isAgg3
 z3:=Tryz.sizeOf3
 v3:=Tryz.zeroValue3
 t4:=Tryz.underlying4
 a4:=Tryz.isAgg4
 z4:=Tryz.sizeOf4
 v4:=Tryz.zeroValue4
 t5:=Tryz.underlying5
 a5:=Tryz.isAgg5
 z5:=Tryz.sizeOf5
 v5:=Tryz.zeroValue5
 t9:=Tryz.underlying9
 a9:=Tryz.isAgg9
 z9:=Tryz.sizeOf9
 v9:=Tryz.zeroValue9
 t12:=Tryz.underlying12
 a12:=Tryz.isAgg12
 z12:=Tryz.sizeOf12
 v12:=Tryz.zeroValue12
 t46:=Tryz.underlying210
 a46:=Tryz.isAgg210
 z46:=Tryz.sizeOf210
 v46:=Tryz.zeroValue210
 t53:=Tryz.underlying258
 a53:=Tryz.isAgg258
 z53:=Tryz.sizeOf258
 v53:=Tryz.zeroValue258
 t119:=Tryz.underlying239
 a119:=Tryz.isAgg239
 z119:=Tryz.sizeOf239
 t138:=Tryz.underlying241
 a138:=Tryz.isAgg241
 z138:=Tryz.sizeOf241
 v138:=Tryz.zeroValue241
 t139:=Tryz.underlying242
 a139:=Tryz.isAgg242
 z139:=Tryz.sizeOf242
 v139:=Tryz.zeroValue242
 g3:=by kernel_rfl
 g4:=by kernel_rfl }
theorem valid_any (s:ByteArray) (w:World) (hs:s.size≤9223372036854775807) (hE:Env w) :
  Calls Tryz.prog 161 #[.string s] w fun e w'=>e=.returned (.bool (Lib.validD s.data.toList))∧Below w.heap.size w w' :=
 Any.utf8_ValidString val_lays s w hs hE.1
theorem decodeL_pos (l:List UInt8) (h:l≠[]):1≤(Lib.decodeL l).2:=by
 have o:0<l.length:=List.length_pos_iff.2 h
 unfold Lib.decodeL
 rw[Lx.decode_plain l _ _ _ _ rfl rfl rfl rfl]
 repeat' split
 all_goals first|omega|simp
theorem valid_go:∀ (n:Nat) (l:List UInt8),Lib.validGoD n l=Lx.validGo n l
 | 0,_=>rfl
 | n+1,l=>by
  unfold Lib.validGoD Lx.validGo
  by_cases h:l=[]
  ·rw[if_pos h,if_pos h]
  ·rw[if_neg h,if_neg h]
   have o:=Lx.rune_decode l
   have B:Lib.decodeGo ⟨l.toArray⟩=Lib.decodeL l:=by
    unfold Lib.decodeGo Lib.decodeL
    rw[if_neg]
    show ¬ l.length=0
    intro e
    exact h (List.length_eq_zero_iff.1 e)
   rw[B] at o
   have D:1≤(Lib.decodeL l).2:=decodeL_pos l h
   by_cases hb:(Lib.decodeL l).1=65533∧(Lib.decodeL l).2=1
   ·have A:(Lx.rune l).2=0:=by
     rw[← o]
     unfold Lx.clip
     rw[if_pos ⟨hb.1,by omega⟩]
    rw[if_pos hb,if_pos A]
   ·have C:Lx.clip (Lib.decodeL l)=Lib.decodeL l:=by
     unfold Lx.clip
     rw[if_neg (fun x=>hb ⟨x.1,by omega⟩)]
    rw[C] at o
    rw[if_neg hb,← o,if_neg (by omega)]
    exact valid_go n _
theorem validD_eq (l:List UInt8):Lib.validD l=Lx.valid l:=valid_go _ l
end Go.Proofs.YtefjgpkpplkkgaaGreatDoor
