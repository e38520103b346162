/-
  What the world holds while the lexer runs: the library's tables; the scanner's block. The lexer's small functions, walked: letter, digit, a name's byte, peek, rune, hex. The lexer's 'while', walked, at its two functions. The lexer's 'gap', walked. The lexer's 'number', walked. The lexer's 'hex', walked.
-/
import Derived.Test.YtedeapbonbbacaaGreatDoorZr7
import Derived.Test.YtedeapbonbbacaaGreatDoorZr3
import Derived.Test.YtedeapbonbbacaaGreatDoorZr10
import Derived.Outline
import Derived.Deep.LoopGhost
import Derived.Deep.DeepCutAuto
open Go.Lib renaming hid → QA
open Nat renaming le_refl → QM, lt_or_ge → ZV
namespace Go.Proofs.YtedeapbonbbacaaGreatDoor
set_option maxRecDepth 100000
set_option maxHeartbeats 4000000
set_option linter.unusedSimpArgs false
set_option linter.unusedVariables false
open Go Go.RowKit
def Env (w:World):Prop :=
 Lib.Utf8Tabs 0 1 w∧∃m,w.cell? ⟨2,0,none⟩=some (.int .i64 m)
theorem BK {w:World} {a:Addr} {v:Value} (h:w.cell? a=some v):a.block<w.heap.size:=by
 unfold World.cell? at h;rcases ZV a.block w.heap.size with h'|h'
 ·exact h'
 ·simp[Array.getElem?_eq_none h']at h
theorem Env.but {X:Nat→Prop} {w w':World} (h:Env w) (hb:But X w w') (hx:∀k,X k→3≤k):Env w':=by
 obtain⟨⟨A,o⟩,m,B⟩:=h;refine⟨⟨λc hc=>?_,λi hi=>⟨?_,?_⟩⟩,m,?_⟩
 ·rw[hb.cell (BK (A c hc)) (λx=>by have:=hx _ x;simp at this)];exact A c hc
 ·rw[hb.cell (BK (o i hi).1) (λx=>by have:=hx _ x;simp at this)];exact (o i hi).1
 ·rw[hb.cell (BK (o i hi).2) (λx=>by have:=hx _ x;simp at this)];exact (o i hi).2
 ·rw[hb.cell (BK B) (λx=>by have:=hx _ x;simp at this)];exact B
theorem Env.below {w w':World} (h:Env w) (hb:Below w.heap.size w w'):Env w':=h.but (X:=λ_=>False) (But.of_below hb) (λ_ f=>f.elim)
theorem Env.drewN {w:World} (h:Env w) (n:Nat):Env (w.drewN n):=h.but (X:=λ_=>False) ((But.refl _ w).drewN n) (λ_ f=>f.elim)
def AN (w:World) (bx:Nat) (s:ByteArray) (a:Nat):Prop:=w.heap[bx]?=some (.cells #[.string s,.int .i64 a] 118 (0,0))
theorem AN.c0 {w:World} {bx:Nat} {s:ByteArray} {a:Nat} (h:AN w bx s a):w.cell? ⟨bx,0,none⟩=some (.string s):=by
 unfold AN at h;simp[World.cell?,h]
theorem AN.c1 {w:World} {bx:Nat} {s:ByteArray} {a:Nat} (h:AN w bx s a):w.cell? ⟨bx,1,none⟩=some (.int .i64 a):=by
 unfold AN at h;simp[World.cell?,h]
theorem AN.f1 {w:World} {bx:Nat} {s:ByteArray} {a:Nat} (h:AN w bx s a):w.frozen? ⟨bx,1,none⟩=false:=by
 unfold AN at h;simp[World.frozen?,h]
theorem AN.lt {w:World} {bx:Nat} {s:ByteArray} {a:Nat} (h:AN w bx s a):bx<w.heap.size:=BK h.c0
theorem AN.put {w:World} {bx:Nat} {s:ByteArray} {a:Nat} (h:AN w bx s a) (b:Nat):AN (w.setCell ⟨bx,1,none⟩ (.int .i64 b)) bx s b:=by
 unfold AN at *;simp[World.setCell,Array.getElem?_modify,h]
theorem AN.drewN {w:World} {bx:Nat} {s:ByteArray} {a:Nat} (h:AN w bx s a) (n:Nat):AN (w.drewN n) bx s a:=h
theorem AN.drew {w:World} {bx:Nat} {s:ByteArray} {a:Nat} (h:AN w bx s a):AN w.drew bx s a:=h
theorem AN.but {X:Nat→Prop} {w w':World} {bx:Nat} {s:ByteArray} {a:Nat} (h:AN w bx s a) (hb:But X w w') (hx:¬X bx):AN w' bx s a:=by
 unfold AN at *;rw[hb.block bx (AN.lt h) hx];exact h
theorem AN.below {w w':World} {bx:Nat} {s:ByteArray} {a:Nat} (h:AN w bx s a) (hb:Below w.heap.size w w'):AN w' bx s a:=by
 have o:=h;unfold AN at *;rw[hb.block bx (AN.lt o)];exact h
abbrev Fr (bx:Nat) (w w':World):Prop:=But (λk=>k=bx) w w'
theorem Fr.set {bx:Nat} {w w':World} (h:Fr bx w w') (o:Nat) (v:Value):Fr bx w (w'.setCell ⟨bx,o,none⟩ v):=But.setCell h (.inl rfl) v
theorem Env.fr {w w':World} {bx:Nat} (h:Env w) (hb:Fr bx w w') (h3:3≤bx):Env w':=h.but hb (λk hk=>by rw[hk];exact h3)
def KY (n:Nat):Bool:=(bits BinOp.or IntKind.u8 (n:Int) 32:Int)==(((UInt8.ofNat n) ||| 32).toNat:Int)
theorem Km (c:UInt8):bits BinOp.or IntKind.u8 (c.toNat:Int) 32=((c ||| 32).toNat:Int):=by
 have h:∀n:Fin 256,KY n.val=true:=by decide +kernel
 have:=h ⟨c.toNat,UInt8.toNat_lt c⟩
 simpa [KY] using this
theorem Al (c:UInt8) (w:World) :
  Calls Tryz.prog 84 #[.int .u8 c.toNat] w λe w'=>e=.returned (.bool (Lx.isLetter c))∧w'=w:=by
 have o:=QA (Km c);go_enter Tryz.func84,Tryz.ntmps84;go_wp2
 all_goals go_ret
 all_goals refine⟨EE ?_,rfl⟩
 all_goals rw[Bool.eq_iff_iff]
 all_goals simp only[beq_iff_eq,Lx.isLetter,Bool.or_eq_true,Bool.and_eq_true,decide_eq_true_eq,Bool.false_eq_true,false_iff,true_iff,iff_true,iff_false]
 all_goals (try simp only[o.out]at *)
 all_goals omega
theorem Ao (c:UInt8) (w:World) :
  Calls Tryz.prog 87 #[.int .u8 c.toNat] w λe w'=>e=.returned (.bool (Lx.isDigit c))∧w'=w:=by
 go_enter Tryz.func87,Tryz.ntmps87;go_wp2
 all_goals go_ret
 all_goals refine⟨EE ?_,rfl⟩
 all_goals rw[Bool.eq_iff_iff]
 all_goals simp only[Lx.isDigit,Bool.and_eq_true,decide_eq_true_eq,Bool.false_eq_true,false_iff,true_iff]
 all_goals omega
abbrev isWord:=Lx.isWord
theorem Fp (c:UInt8) (w:World) :
  Calls Tryz.prog 86 #[.int .u8 c.toNat] w λe w'=>e=.returned (.bool (isWord c))∧w'=w:=by
 go_enter Tryz.func86,Tryz.ntmps86;go_wp2_with (first|(go_at_call 84;refine (Al _ _).mono ?_;rintro e w' ⟨rfl,rfl⟩)|(go_at_call 87;refine (Ao _ _).mono ?_;rintro e w' ⟨rfl,rfl⟩))
 all_goals go_ret
 all_goals refine⟨EE ?_,rfl⟩
 all_goals simp_all [Lx.isWord]
theorem GF (bx:Nat) (s:ByteArray) (a k:Nat) (w:World) (hs:s.size≤4096) (hat:a≤s.size) (hk:k≤10) (h:AN w bx s a) :
  Calls Tryz.prog 83 #[.pointer (some ⟨bx,0,none⟩),.int .i64 k] w λe w'=>e=.returned (.int .u8 (bt s (a+k)).toNat)∧∃n,w'=w.drewN n:=by
 have A:=h.c0;have o:=h.c1;clear h;by_cases hlt:a+k<s.size
 ·go_enter Tryz.func83,Tryz.ntmps83;go_wp2
  go_quiet (fail)
  go_wp2
  go_quiet (fail)
  go_wp2;go_ret;exact⟨rfl,_,World.drewN_drewN _ _ _⟩
 ·go_enter Tryz.func83,Tryz.ntmps83;go_wp2
  go_quiet (fail)
  go_wp2;go_ret;exact⟨Ho (by rw[bt_end _ _ (by omega)];rfl),_,rfl⟩
theorem BR (bx:Nat) (s:ByteArray) (a:Nat) (w:World) (hs:s.size≤4096) (hat:a≤s.size) (h:AN w bx s a) :
  Calls Tryz.prog 83 #[.pointer (some ⟨bx,0,none⟩),.int .i64 0] w λe w'=>e=.returned (.int .u8 (bt s a).toNat)∧∃n,w'=w.drewN n:=GF bx s a 0 w hs hat (by omega) h
theorem BD (bx:Nat) (s:ByteArray) (a:Nat) (w:World) (hs:s.size≤4096) (hat:a≤s.size) (h:AN w bx s a) :
  Calls Tryz.prog 83 #[.pointer (some ⟨bx,0,none⟩),.int .i64 1] w λe w'=>e=.returned (.int .u8 (bt s (a+1)).toNat)∧∃n,w'=w.drewN n:=GF bx s a 1 w hs hat (by omega) h
theorem BZ (s:ByteArray) (a:Nat):s.extract a s.size=⟨(sfx s a).toArray⟩:=by
 have h:(s.extract a s.size).data=(sfx s a).toArray:=by
  apply Array.ext';simp only[ByteArray.data_extract,Array.toList_extract,sfx,List.extract_eq_take_drop];exact List.take_of_length_le (by simp)
 cases h':s.extract a s.size
 simp_all
theorem Aw (bx:Nat) (s:ByteArray) (a:Nat) (w:World) (hs:s.size≤4096) (hat:a≤s.size) (h:AN w bx s a) (hE:Env w) :
  Calls Tryz.prog 82 #[.pointer (some ⟨bx,0,none⟩)] w λe w'=>e=.returned (.tuple #[.int .i32 (Lx.rune (sfx s a)).1,.int .i64 (Lx.rune (sfx s a)).2])∧Below w.heap.size w w':=by
 have C:=Lx.rune_decode (sfx s a);have G:=h.c0;have F:=h.c1;have hx:=BZ s a;have B:Lib.Utf8Tabs 0 1 w:=hE.1;have E:Hid (∀n,Lib.Utf8Tabs 0 1 (w.drewN n)):=λn=>B;have o:=QA C
 clear h hE B C;go_enter Tryz.func82,Tryz.ntmps82;go_wp2;refine AO [9] (by kernel_rfl) (by kernel_rfl) ?_;simp only[BM,List.take_succ_cons,List.take_zero,List.drop_succ_cons,List.drop_zero,Nat.sub_zero,Nat.reduceSub,Nat.reduceAdd]
 repeat (go_big_quiet_step (fail))
 refine wpQuiet_nil ?_;rintro _ ⟨nq,rfl⟩;go_wp2_with fail;refine (Tryz.utf8_DecodeRuneInString _ _ (E.out nq)).mono ?_;rintro e w1 ⟨rfl,hb0⟩;have A:=Below.undrew hb0;clear hb0;go_wp2
 repeat (go_big_quiet_step (fail))
 rename_i q0;refine wpQuiet_nil ?_;rintro _ ⟨nq,rfl⟩;go_wp2
 all_goals go_ret2
 ·have e:Lx.rune (sfx s a)=(0,0):=by rw[← o.out];unfold Lx.clip;rw[if_pos ⟨by omega,by omega⟩]
  rw[e];exact⟨rfl,Below.drewN A _⟩
 ·have e:Lx.rune (sfx s a)=Lib.decodeGo ⟨(sfx s a).toArray⟩:=by rw[← o.out];unfold Lx.clip;rw[if_neg (by omega)]
  have D:(Lib.decodeGo ⟨(sfx s a).toArray⟩).1=65533:=by omega
  rw[e,D];exact⟨rfl,Below.drewN A _⟩
 ·have e:Lx.rune (sfx s a)=Lib.decodeGo ⟨(sfx s a).toArray⟩:=by rw[← o.out];unfold Lx.clip;rw[if_neg (by omega)]
  rw[e];exact⟨rfl,Below.drewN A _⟩
theorem Bo (bx:Nat) (s:ByteArray) (a:Nat) (w:World) (hs:s.size≤4096) (hat:a≤s.size) (h:AN w bx s a) :
  Calls Tryz.prog 85 #[.pointer (some ⟨bx,0,none⟩),.func (.func 87) #[] #[]] w λe w'=>∃b,a≤b∧b≤s.size∧sfx s b=(sfx s a).dropWhile Lx.isDigit∧e=.returned (.int .i64 ((b:Int)-a))∧AN w' bx s b∧Fr bx w w':=by
 have J:=QA h;have M:=h.c0;have K:=h.c1;clear h;go_enter Tryz.func85,Tryz.ntmps85;go_wp2
 go_loopg [] (s.size-a) (λk wr=>∃b,k=s.size-b∧a≤b∧b≤s.size∧(sfx s b).dropWhile Lx.isDigit=(sfx s a).dropWhile Lx.isDigit∧AN wr bx s b∧Fr bx w wr)
 case atStart=>exact⟨a,rfl,QM _,hat,rfl,J.out,But.refl _ _⟩
 case round =>
  obtain⟨b,F,A,H,G,o,D⟩:=hrel;have c0:=o.c0;have c1:=o.c1;have f1:=o.f1;have C:=QA G;have I:=QA F;clear G F M K;by_cases hlt:b<s.size
  ·have L:(0:Int)≤(b:Int):=Int.natCast_nonneg _;have E:(b:Int)<s.size:=by omega
   cases hp:Lx.isDigit (bt s b)
   ·have B:=QA hp;go_wp2
    go_quiet ((refine Calls.quiet_of_same (v:=.bool false) ((Ao (bt s b) _).mono ?_);rintro e w' ⟨rfl,hw⟩;exact⟨by rw[B.out],hw⟩))
    go_wp2;go_ret;refine⟨b,A,H,?_,rfl,o.drewN _,D.drewN _⟩;rw[← C.out,Ax s b hlt,List.dropWhile_cons,B.out];simp
   ·have B:=QA hp;clear hp;go_wp2
    go_quiet ((refine Calls.quiet_of_same (v:=.bool true) ((Ao (bt s b) _).mono ?_);rintro e w' ⟨rfl,hw⟩;exact⟨by rw[B.out],hw⟩))
    go_wp2;go_roundg (s.size-(b+1))
    case measure=>rw[I.out];omega
    case rel =>
     refine⟨b+1,rfl,by omega,hlt,?_,(o.drewN _).put (b+1),(D.drewN _).setCell (.inl rfl) _⟩;rw[← C.out,Ax s b hlt,List.dropWhile_cons,B.out];simp
  ·have E:(s.size:Int)≤b:=by omega
   go_wp2
   go_quiet (fail)
   go_wp2;go_ret;refine⟨b,A,H,?_,rfl,o.drewN _,D.drewN _⟩;rw[← C.out,Cc s b (by omega)];rfl
theorem Gu (bx:Nat) (s:ByteArray) (a:Nat) (w:World) (hs:s.size≤4096) (hat:a≤s.size) (h:AN w bx s a) :
  Calls Tryz.prog 85 #[.pointer (some ⟨bx,0,none⟩),.func (.func 86) #[] #[]] w λe w'=>∃b,a≤b∧b≤s.size∧sfx s b=(sfx s a).dropWhile isWord∧e=.returned (.int .i64 ((b:Int)-a))∧AN w' bx s b∧Fr bx w w':=by
 have J:=QA h;have M:=h.c0;have K:=h.c1;clear h;go_enter Tryz.func85,Tryz.ntmps85;go_wp2
 go_loopg [] (s.size-a) (λk wr=>∃b,k=s.size-b∧a≤b∧b≤s.size∧(sfx s b).dropWhile isWord=(sfx s a).dropWhile isWord∧AN wr bx s b∧Fr bx w wr)
 case atStart=>exact⟨a,rfl,QM _,hat,rfl,J.out,But.refl _ _⟩
 case round =>
  obtain⟨b,F,A,H,G,o,D⟩:=hrel;have c0:=o.c0;have c1:=o.c1;have f1:=o.f1;have C:=QA G;have I:=QA F;clear G F M K;by_cases hlt:b<s.size
  ·have L:(0:Int)≤(b:Int):=Int.natCast_nonneg _;have E:(b:Int)<s.size:=by omega
   cases hp:isWord (bt s b)
   ·have B:=QA hp;go_wp2
    go_quiet ((refine Calls.quiet_of_same (v:=.bool false) ((Fp (bt s b) _).mono ?_);rintro e w' ⟨rfl,hw⟩;exact⟨by rw[B.out],hw⟩))
    go_wp2;go_ret;refine⟨b,A,H,?_,rfl,o.drewN _,D.drewN _⟩;rw[← C.out,Ax s b hlt,List.dropWhile_cons,B.out];simp
   ·have B:=QA hp;clear hp;go_wp2
    go_quiet ((refine Calls.quiet_of_same (v:=.bool true) ((Fp (bt s b) _).mono ?_);rintro e w' ⟨rfl,hw⟩;exact⟨by rw[B.out],hw⟩))
    go_wp2;go_roundg (s.size-(b+1))
    case measure=>rw[I.out];omega
    case rel =>
     refine⟨b+1,rfl,by omega,hlt,?_,(o.drewN _).put (b+1),(D.drewN _).setCell (.inl rfl) _⟩;rw[← C.out,Ax s b hlt,List.dropWhile_cons,B.out];simp
  ·have E:(s.size:Int)≤b:=by omega
   go_wp2
   go_quiet (fail)
   go_wp2;go_ret;refine⟨b,A,H,?_,rfl,o.drewN _,D.drewN _⟩;rw[← C.out,Cc s b (by omega)];rfl
theorem J3 (bx:Nat) (s:ByteArray) (a:Nat) (w:World) (hs:s.size≤4096) (hat:a≤s.size) (h:AN w bx s a) (hE:Env w) (h3:3≤bx) :
  Calls Tryz.prog 60 #[.pointer (some ⟨bx,0,none⟩)] w λe w'=>∃b r,a≤b∧b≤s.size∧Lx.gap (decide (a=0)) (sfx s a)=(sfx s b,r)∧e=.returned (.bool r)∧AN w' bx s b∧Fr bx w w':=by
 go_enter Tryz.func60,Tryz.ntmps60;go_wp2
 go_loopg [] (s.size-a) (λk wr=>∃b,k=s.size-b∧a≤b∧b≤s.size∧Lx.gap (decide (b=0)) (sfx s b)=Lx.gap (decide (a=0)) (sfx s a)∧AN wr bx s b∧Fr bx w wr)
 case atStart=>exact⟨a,rfl,QM _,hat,rfl,h,But.refl _ _⟩
 case round =>
  obtain⟨b,T,U,hb,M,Q,hF⟩:=hrel;obtain⟨wo,rfl⟩:∃wo:World,wo=wr:=⟨_,rfl⟩
  have ae:=QA hE;have c0:=Q.c0;have c1:=Q.c1;have f1:=Q.f1;have P:=QA M;have X:=QA T;clear M T h hE;by_cases hlt:b<s.size
  ·have aa:(0:Int)≤(b:Int):=Int.natCast_nonneg _;have N:(b:Int)<s.size:=by omega
   have L:=QA (Ax s b hlt);cases hbl:Lx.isBlank (bt s b)
   ·have E:=hbl;simp only[Lx.isBlank,Bool.or_eq_false_iff,decide_eq_false_iff_not]at E;obtain⟨⟨⟨⟨n1,n2⟩,n3⟩,n4⟩,n5⟩:=E;have W:=eqF (n:=(bt s b).toNat) (k:=32) (by omega);have e2:=eqF (n:=(bt s b).toNat) (k:=9) (by omega);have e3:=eqF (n:=(bt s b).toNat) (k:=10) (by omega);have e4:=eqF (n:=(bt s b).toNat) (k:=13) (by omega);have e5:=eqF (n:=(bt s b).toNat) (k:=44) (by omega);have F:=QA hbl;clear hbl n1 n2 n3 n4 n5;by_cases hbom:b=0∧Lx.bom (sfx s b)=true
    ·obtain⟨rfl,H⟩:=hbom;have ag:3≤s.size:=by
      have h1:=H;rw[Lx.bom,decide_eq_true_eq]at h1;have h2:=congrArg List.length h1;rw[List.length_take,AQ]at h2;simp at h2;omega
     have o:Lib.hasPrefix s.data.toList [239,187,191]=true:=by rw[← Lx.bom_prefix,← Dz];exact H
     have aA:wo.cell? ⟨bx,1,none⟩=some (.int .i64 0):=c1;have ah:=QA H;have B:=QA o;clear c1 H o;go_wp2
     go_quiet (fail)
     go_wp2
     go_quiet (fail)
     go_wp2_with (go_at_call 81;refine (Tryz.strings_HasPrefix _ _ _).mono ?_;rintro e w' ⟨rfl,rfl⟩;rw[B.out]);go_roundg (s.size-3)
     case measure=>rw[X.out];omega
     case rel =>
      refine⟨3,rfl,by omega,ag,?_,(Q.drewN _).put 3,by (repeat' (first|(with_reducible assumption)|(with_reducible exact But.refl _ _)|(with_reducible refine But.drewN ?_ _)|(with_reducible refine But.drew ?_)|(with_reducible refine Fr.set ?_ _ _)|(with_reducible refine But.alloc ?_ _)))⟩;rw[← P.out];have hg:=Lx.gap_bom F.out (t:=sfx s 1) (by have:=ah.out;rwa [Ax s 0 hlt]at this);have O:sfx s 0=bt s 0::sfx s 1:=L.out;rw[O];refine Eq.trans ?_ hg.symm;rw[← O,Ah];rfl
    ·have C:(((b:Int)==0)=true∧Lib.hasPrefix s.data.toList [239,187,191]=false)∨((b:Int)==0)=false:=by
      by_cases hb0:b=0
      ·refine .inl ⟨eqT (by omega),?_⟩;rw[← Lx.bom_prefix,← Dz];subst hb0
       simpa using hbom
      ·exact .inr (eqF (by omega))
     have HP:Hid (¬(decide (b=0)=true∧Lx.bom (bt s b::sfx s (b+1))=true)):=by
      rw[← L.out];intro h;exact hbom ⟨by simpa using h.1,h.2⟩
     clear hbom;by_cases h35:(bt s b).toNat=35
     ·have A:=QA h35;have e6:=eqT (n:=(bt s b).toNat) (k:=35) (by omega);clear h35;rcases C with⟨O,o⟩|O
      all_goals
       try (have B:=QA o;clear o)
       go_wp2
       go_quiet (fail)
       go_wp2
       go_quiet (fail)
       go_wp2_with (go_at_call 81;refine (Tryz.strings_HasPrefix _ _ _).mono ?_;rintro e w' ⟨rfl,rfl⟩;rw[B.out]);clear c0 c1 f1 O W e2 e3 e4 e5 e6
       go_loopg [] (s.size-b) (λk wi=>∃d,k=s.size-d∧b≤d∧d≤s.size∧Lx.remark (sfx s d)=Lx.remark (sfx s (b+1))∧AN wi bx s d∧Fr bx w wi)
       case atStart=>exact⟨b,rfl,QM _,hb,by rw[L.out,Lx.remark_hash A.out],by (repeat' (first|(with_reducible assumption)|(with_reducible refine AN.drewN ?_ _)|(with_reducible refine AN.drew ?_))),by (repeat' (first|(with_reducible assumption)|(with_reducible exact But.refl _ _)|(with_reducible refine But.drewN ?_ _)|(with_reducible refine But.drew ?_)|(with_reducible refine Fr.set ?_ _ _)|(with_reducible refine But.alloc ?_ _)))⟩
       case round =>
        obtain⟨d,T,aF,M,hm,J,V⟩:=hrel;have ab:=ae.out.fr V h3;have c0:=J.c0;have c1:=J.c1;have f1:=J.f1;have Y:=QA hm;have af:=QA T;clear hm T;by_cases hdl:d<s.size
        ·have aa:(0:Int)≤(d:Int):=Int.natCast_nonneg _;have N:(d:Int)<s.size:=by omega
         have D:=QA (Ax s d hdl);by_cases hnl:(bt s d).toNat=10∨(bt s d).toNat=13
         ·have ak:b<d:=by
           rcases ZV b d with h'|h'
           ·exact h'
           ·have aj:d=b:=by omega
            rw[aj,A.out]at hnl;omega
          have G:=QA hnl;have K:(((bt s d).toNat:Int) != 10)=false∨(((bt s d).toNat:Int) != 10)=true∧(((bt s d).toNat:Int) != 13)=false:=by
           rcases hnl with h'|h'
           ·exact .inl (neF (by omega))
           ·exact .inr ⟨neT (by omega),neF (by omega)⟩
          clear hnl;rcases K with W|⟨W,e2⟩
          all_goals
           go_wp2
           go_quiet (fail)
           go_wp2;go_roundg (s.size-d)
           case measure=>rw[X.out];omega
           case rel =>
            refine⟨d,rfl,by omega,M,?_,by (repeat' (first|(with_reducible assumption)|(with_reducible refine AN.drewN ?_ _)|(with_reducible refine AN.drew ?_))),by (repeat' (first|(with_reducible assumption)|(with_reducible exact But.refl _ _)|(with_reducible refine But.drewN ?_ _)|(with_reducible refine But.drew ?_)|(with_reducible refine Fr.set ?_ _ _)|(with_reducible refine But.alloc ?_ _)))⟩;rw[← P.out,L.out,Lx.gap_rem A.out,← Y.out,D.out,Lx.remark_end G.out,if_pos rfl,decide_eq_false (by omega)]
         ·have W:=neT (n:=(bt s d).toNat) (k:=10) (by omega);have e2:=neT (n:=(bt s d).toNat) (k:=13) (by omega);have G:=QA hnl;have au:=Lx.rune_le4 (sfx s d);have S:=Lx.rune_len (sfx s d);rw[AQ]at S;clear hnl;rcases Lx.ctl_cases (Lx.rune (sfx s d)).1 (Lx.rune (sfx s d)).2 with⟨q1,q4⟩|⟨q1,q2,q3,q4⟩|⟨q1,q2,q3,q4⟩|⟨q1,q2,q4⟩
          all_goals
           have Z:=QA q4;clear q4;go_wp2
           go_quiet (fail)
           go_wp2_with fail;refine (Aw bx s d _ hs M (by (repeat' (first|(with_reducible assumption)|(with_reducible refine AN.drewN ?_ _)|(with_reducible refine AN.drew ?_)))) (ab.drewN _)).mono ?_;rintro e w1 ⟨rfl,hb1⟩;have R:=Below.undrew hb1;have I:=J.below R;have aB:Fr bx w w1:=V.trans (But.of_below R);clear hb1 c0 c1 f1;have c0:=I.c0;have c1:=I.c1;have f1:=I.f1;go_wp2
           first
           | (
             go_ret;refine⟨d,false,by omega,M,?_,rfl,by (repeat' (first|(with_reducible assumption)|(with_reducible refine AN.drewN ?_ _)|(with_reducible refine AN.drew ?_))),by (repeat' (first|(with_reducible assumption)|(with_reducible exact But.refl _ _)|(with_reducible refine But.drewN ?_ _)|(with_reducible refine But.drew ?_)|(with_reducible refine Fr.set ?_ _ _)|(with_reducible refine But.alloc ?_ _)))⟩;rw[← P.out,L.out,Lx.gap_rem A.out,← Y.out,D.out,Lx.remark_bad G.out (by rw[← D.out];exact Z.out)];rfl)
           | (
             have q5:(Lx.rune (sfx s d)).2≠0:=λh=>Z.out (.inl h)
             go_roundg (s.size-(d+(Lx.rune (sfx s d)).2))
             case measure=>rw[af.out];omega
             case rel =>
              refine⟨d+(Lx.rune (sfx s d)).2,rfl,by omega,by omega,?_,I.put _,by (repeat' (first|(with_reducible assumption)|(with_reducible exact But.refl _ _)|(with_reducible refine But.drewN ?_ _)|(with_reducible refine But.drew ?_)|(with_reducible refine Fr.set ?_ _ _)|(with_reducible refine But.alloc ?_ _)))⟩;rw[← Y.out,← Ah];have:=Lx.remark_go G.out (t:=sfx s (d+1)) (by rw[← D.out];exact Z.out);rw[← D.out]at this;exact this.symm)
        ·have N:(s.size:Int)≤d:=by omega
         go_wp2
         go_quiet (fail)
         go_wp2;go_roundg (s.size-d)
         case measure=>rw[X.out];omega
         case rel =>
          refine⟨d,rfl,by omega,M,?_,by (repeat' (first|(with_reducible assumption)|(with_reducible refine AN.drewN ?_ _)|(with_reducible refine AN.drew ?_))),by (repeat' (first|(with_reducible assumption)|(with_reducible exact But.refl _ _)|(with_reducible refine But.drewN ?_ _)|(with_reducible refine But.drew ?_)|(with_reducible refine Fr.set ?_ _ _)|(with_reducible refine But.alloc ?_ _)))⟩;rw[← P.out,L.out,Lx.gap_rem A.out,← Y.out,Cc s d (by omega),Lx.remark_nil,if_pos rfl,decide_eq_false (by omega)]
     ·have e6:=eqF (n:=(bt s b).toNat) (k:=35) (by omega);have A:=QA h35;clear h35;rcases C with⟨O,o⟩|O
      all_goals
       try (have B:=QA o;clear o)
       go_wp2
       go_quiet (fail)
       go_wp2
       go_quiet (fail)
       go_wp2_with (go_at_call 81;refine (Tryz.strings_HasPrefix _ _ _).mono ?_;rintro e w' ⟨rfl,rfl⟩;rw[B.out]);go_ret;refine⟨b,true,U,hb,?_,rfl,by (repeat' (first|(with_reducible assumption)|(with_reducible refine AN.drewN ?_ _)|(with_reducible refine AN.drew ?_))),by (repeat' (first|(with_reducible assumption)|(with_reducible exact But.refl _ _)|(with_reducible refine But.drewN ?_ _)|(with_reducible refine But.drew ?_)|(with_reducible refine Fr.set ?_ _ _)|(with_reducible refine But.alloc ?_ _)))⟩;rw[← P.out,L.out];exact Lx.gap_stop F.out HP.out A.out
   ·have E:=hbl;simp only[Lx.isBlank,Bool.or_eq_true,decide_eq_true_eq]at E;have F:=QA hbl;clear hbl;rcases E with (((E|E)|E)|E)|E
    all_goals
     go_wp2
     go_quiet (fail)
     go_wp2
     go_quiet (fail)
     go_wp2;go_roundg (s.size-(b+1))
     case measure=>rw[X.out];omega
     case rel =>
      refine⟨b+1,rfl,by omega,hlt,?_,(Q.drewN _).put (b+1),by (repeat' (first|(with_reducible assumption)|(with_reducible exact But.refl _ _)|(with_reducible refine But.drewN ?_ _)|(with_reducible refine But.drew ?_)|(with_reducible refine Fr.set ?_ _ _)|(with_reducible refine But.alloc ?_ _)))⟩;rw[← P.out,L.out,Lx.gap_blank F.out];rfl
  ·have N:(s.size:Int)≤b:=by omega
   go_wp2
   go_quiet (fail)
   go_wp2;go_ret;refine⟨b,true,U,hb,?_,rfl,Q.drewN _,hF.drewN _⟩;rw[← P.out,Cc s b (by omega),Lx.gap_nil]
theorem BQ (s:ByteArray) (n:Nat):Lx.hd (sfx s n)=bt s n:=by
 have:=Fj s n 0;unfold Lx.hd;cases h:sfx s n with
 | nil=>rw[h]at this;simpa using this
 | cons c t=>rw[h]at this;simpa using this
def Hf (bx:Nat) (s:ByteArray) (a:Nat) (w:World) (e:Ending) (w':World):Prop :=
 ∃b,a≤b∧b≤s.size∧AN w' bx s b∧Fr bx w w' ∧
  ((∃k:Nat,Lx.number (sfx s a)=some (k,sfx s b)∧(k=2∨k=3)∧e=.returned (.int .i64 k))∨(Lx.number (sfx s a)=none∧e=.returned (.int .i64 0)))
theorem HW (bx:Nat) (s:ByteArray) (a:Nat) (w:World) (hs:s.size≤4096) (hat:a≤s.size) (h:AN w bx s a) :
  Calls Tryz.prog 88 #[.pointer (some ⟨bx,0,none⟩)] w (Hf bx s a w):=by
 go_enter Tryz.func88,Tryz.ntmps88;go_wp2_with fail;refine (BR bx s a _ hs (by omega) (by (repeat' (first|(with_reducible assumption)|(with_reducible refine AN.drewN ?_ _)|(with_reducible refine AN.drew ?_))))).mono ?_;rintro e w' ⟨rfl,n1,rfl⟩
 go_upto_if 10 with (fail)
 go_cut [] (λwx=>∃b,a≤b∧b≤s.size∧sfx s b=(if (Lx.hd (sfx s a)).toNat=45 then (sfx s a).drop 1 else sfx s a)∧AN wx bx s b∧Fr bx w wx)
 case first =>
  have c0:=h.c0;have c1:=h.c1;have f1:=h.f1;by_cases h45:(bt s a).toNat=45
  ·have A:=eqT (n:=(bt s a).toNat) (k:=45) (by omega);have J:=QA h45;clear h45;have G:a<s.size:=by
    rcases ZV a s.size with h'|h'
    ·exact h'
    ·rw[bt_end _ _ h']at J;exact absurd J.out (by decide)
   go_wp2_with fail
   go_meet
   exact⟨a+1,by omega,G,by rw[BQ,if_pos J.out,Ah],(h.drewN _).put (a+1),by (repeat' (first|(with_reducible assumption)|(with_reducible exact But.refl _ _)|(with_reducible refine But.drewN ?_ _)|(with_reducible refine But.drew ?_)|(with_reducible refine Fr.set ?_ _ _)|(with_reducible refine But.alloc ?_ _)))⟩
  ·have A:=eqF (n:=(bt s a).toNat) (k:=45) (by omega);have J:=QA h45;clear h45;go_wp2_with fail
   go_meet
   exact⟨a,by omega,hat,by rw[BQ,if_neg J.out],by (repeat' (first|(with_reducible assumption)|(with_reducible refine AN.drewN ?_ _)|(with_reducible refine AN.drew ?_))),by (repeat' (first|(with_reducible assumption)|(with_reducible exact But.refl _ _)|(with_reducible refine But.drewN ?_ _)|(with_reducible refine But.drew ?_)|(with_reducible refine Fr.set ?_ _ _)|(with_reducible refine But.alloc ?_ _)))⟩
 case rest =>
  obtain⟨b,ao,hb,am,hS,hF⟩:=hcut;have HN:=QA (Lx.number_at _ _ am);clear am;go_wp2_with fail;refine (BR bx s b _ hs (by omega) (by (repeat' (first|(with_reducible assumption)|(with_reducible refine AN.drewN ?_ _)|(with_reducible refine AN.drew ?_))))).mono ?_;rintro e w' ⟨rfl,n2,rfl⟩;go_wp2_with fail;refine (Bo bx s b _ hs hb (by (repeat' (first|(with_reducible assumption)|(with_reducible refine AN.drewN ?_ _)|(with_reducible refine AN.drew ?_))))).mono ?_;rintro e w1 ⟨c,hbc,hc,hdc,rfl,hS1,Q⟩;have Q:=But.undrew Q;have F:=QA hdc;clear hdc;have ab:Fr bx w w1:=hF.trans Q;clear Q;have al:∀w',AN w' bx s c→Fr bx w w'→((Lx.digits (sfx s b)).length=(sfx s b).length∨((Lx.hd (sfx s b)).toNat=48∧1<(sfx s b).length-(Lx.digits (sfx s b)).length)) →
    Hf bx s a w (.returned (.int .i64 0)) w':=λw' h1 h2 h3=>⟨c,by omega,hc,h1,h2,.inr ⟨by rw[HN.out,if_pos h3],rfl⟩⟩
  have O:(Lx.digits (sfx s b)).length=s.size-c:=by
   have h1:=congrArg List.length F.out;rw[AQ]at h1;exact h1.symm
  have P:=AQ s b;have ac:=QA al;have V:=QA O;have U:=QA P;clear al O P;by_cases hcb:c=b
  ·have A:((c:Int)-(b:Int)==0)=true:=by rw[beq_iff_eq];omega
   have W:=QA hcb;clear hcb;go_wp2_with fail;go_ret;exact ac.out _ hS1 ab (.inl (by rw[V.out,U.out,W.out]))
  ·have A:((c:Int)-(b:Int)==0)=false:=by rw[beq_eq_false_iff_ne];omega
   have W:=QA hcb;clear hcb;by_cases h48:(bt s b).toNat=48∧1<c-b
   ·have e2:=eqT (n:=(bt s b).toNat) (k:=48) (by omega);have Y:decide (1<(c:Int)-(b:Int))=true:=by simp;omega
    have ad:=QA h48;clear h48;go_wp2_with fail;go_ret;exact ac.out _ hS1 ab (.inr ⟨by rw[BQ];exact ad.out.1,by rw[V.out,U.out];have:=ad.out.2;omega⟩)
   ·have Z:((((bt s b).toNat:Int)==48)=false)∨((((bt s b).toNat:Int)==48)=true∧decide (1<(c:Int)-(b:Int))=false):=by
     by_cases h1:(bt s b).toNat=48
     ·exact .inr ⟨eqT (by omega),by simp;omega⟩
     ·exact .inl (eqF (by omega))
    have T:Hid (Lx.number (sfx s a)=Lx.numFrac (sfx s c)):=by
     show _=_;rw[HN.out,if_neg,F.out]
     ·rfl
     ·rw[V.out,U.out,BQ];have:=W.out;omega
    have ar:a≤c:=by omega
    clear HN ac V U h48 F W hbc ao hb;rcases Z with e2|⟨e2,Y⟩
    all_goals
     go_wp2_with fail;refine (BR bx s c _ hs (by omega) (by (repeat' (first|(with_reducible assumption)|(with_reducible refine AN.drewN ?_ _)|(with_reducible refine AN.drew ?_))))).mono ?_;rintro e w' ⟨rfl,n3,rfl⟩;clear A
     try clear e2
     try clear Y
     go_upto_if 34 with (fail)
     go_cut [3] (λs3 wx=>∃(k:Nat) (d:Nat),s3=.int .i64 k∧(k=2∨k=3)∧a≤d∧d≤s.size∧Lx.number (sfx s a)=Lx.numExp (k,sfx s d)∧AN wx bx s d∧Fr bx w wx)
     case first =>
      have c0:=hS1.c0;have c1:=hS1.c1;have f1:=hS1.f1;by_cases h46:(bt s c).toNat=46
      ·have A:=eqT (n:=(bt s c).toNat) (k:=46) (by omega);have D:=QA h46;clear h46;have G:c<s.size:=by
        rcases ZV c s.size with h'|h'
        ·exact h'
        ·have:=D.out;rw[bt_end _ _ h']at this;exact absurd this (by decide)
       go_wp2_with fail;refine (Bo bx s (c+1) _ hs G ((hS1.drewN _).put (c+1))).mono ?_;rintro e w2 ⟨d,hcd,S,hdd,rfl,o,N⟩;have X:Fr bx w w2:=But.trans (by (repeat' (first|(with_reducible assumption)|(with_reducible exact But.refl _ _)|(with_reducible refine But.drewN ?_ _)|(with_reducible refine But.drew ?_)|(with_reducible refine Fr.set ?_ _ _)|(with_reducible refine But.alloc ?_ _)))) N;have ai:Hid (Lx.numFrac (sfx s c)=if d=c+1 then none else Lx.numExp (3,sfx s d)):=by
        show _=_;have hl:=congrArg List.length hdd;rw[AQ]at hl;unfold Lx.numFrac;rw[BQ,if_pos D.out,Ah,Lx.digits,← hdd,AQ,AQ];by_cases hdc:d=c+1
        ·rw[if_pos (by omega),if_pos hdc]
        ·rw[if_neg (by omega),if_neg hdc]
       clear hdd c0 c1 f1 N A;by_cases hdc:d=c+1
       ·have A:((d:Int)-((c:Int)+1)==0)=true:=by rw[beq_iff_eq];omega
        have F:=QA hdc;clear hdc;go_wp2_with fail;go_ret;exact⟨d,by omega,S,o,X,.inr ⟨by rw[T.out,ai.out,if_pos F.out],rfl⟩⟩
       ·have A:((d:Int)-((c:Int)+1)==0)=false:=by rw[beq_eq_false_iff_ne];omega
        have F:=QA hdc;clear hdc;go_wp2_with fail
        go_meet
        exact⟨3,d,rfl,.inr rfl,by omega,S,by rw[T.out,ai.out,if_neg F.out],o,X⟩
      ·have A:=eqF (n:=(bt s c).toNat) (k:=46) (by omega);have D:=QA h46;clear h46;go_wp2_with fail
       go_meet
       exact⟨2,c,rfl,.inl rfl,by omega,hc,by rw[T.out,Lx.numFrac,BQ,if_neg D.out],by (repeat' (first|(with_reducible assumption)|(with_reducible refine AN.drewN ?_ _)|(with_reducible refine AN.drew ?_))),by (repeat' (first|(with_reducible assumption)|(with_reducible exact But.refl _ _)|(with_reducible refine But.drewN ?_ _)|(with_reducible refine But.drew ?_)|(with_reducible refine Fr.set ?_ _ _)|(with_reducible refine But.alloc ?_ _)))⟩
     case rest =>
      obtain⟨k,d,rfl,hk,I,S,C,o,N⟩:=hcut;have B:=QA C;have HK:=QA hk;clear C hk T hc ar hS1 ab Q h hF hS;go_wp2_with fail;refine (BR bx s d _ hs (by omega) (by (repeat' (first|(with_reducible assumption)|(with_reducible refine AN.drewN ?_ _)|(with_reducible refine AN.drew ?_))))).mono ?_;rintro e w' ⟨rfl,n4,rfl⟩;have ag:=Km (bt s d)
      go_upto_if 48 with (fail)
      go_cut [3] (λs3 wx=>∃(k:Nat) (d:Nat),s3=.int .i64 k∧(k=2∨k=3)∧a≤d∧d≤s.size∧Lx.number (sfx s a)=Lx.numEnd (k,sfx s d)∧AN wx bx s d∧Fr bx w wx)
      case first =>
       have c0:=o.c0;have c1:=o.c1;have f1:=o.f1;by_cases h101:(bt s d).toNat ||| 32=101
       ·have A:((((bt s d).toNat ||| 32:Nat):Int)==101)=true:=eqT (by omega);have G:d<s.size:=by
         rcases ZV d s.size with h'|h'
         ·exact h'
         ·rw[bt_end _ _ h']at h101;exact absurd h101 (by decide)
        have K:=QA h101;clear h101;go_wp2_with fail;refine (BR bx s (d+1) _ hs G ((o.drewN _).put (d+1))).mono ?_;rintro e w3 ⟨rfl,n5,hw3⟩;have L:AN w3 bx s (d+1):=by rw[hw3];exact AN.drewN ((o.drewN _).put (d+1)) _
        have X:Fr bx w w3:=by rw[hw3];(repeat' (first|(with_reducible assumption)|(with_reducible exact But.refl _ _)|(with_reducible refine But.drewN ?_ _)|(with_reducible refine But.drew ?_)|(with_reducible refine Fr.set ?_ _ _)|(with_reducible refine But.alloc ?_ _)))
        clear hw3 c0 c1 f1 A ag;have c0:=L.c0;have c1:=L.c1;have f1:=L.f1;have ax:((((bt s (d+1)).toNat:Int)==43)=true∧((bt s (d+1)).toNat=43∨(bt s (d+1)).toNat=45)) ∨
          ((((bt s (d+1)).toNat:Int)==43)=false∧(((bt s (d+1)).toNat:Int)==45)=true∧((bt s (d+1)).toNat=43∨(bt s (d+1)).toNat=45)) ∨
          ((((bt s (d+1)).toNat:Int)==43)=false∧(((bt s (d+1)).toNat:Int)==45)=false∧¬((bt s (d+1)).toNat=43∨(bt s (d+1)).toNat=45)):=by
         by_cases h1:(bt s (d+1)).toNat=43
         ·exact .inl ⟨eqT (by omega),.inl h1⟩
         ·by_cases h2:(bt s (d+1)).toNat=45
          ·exact .inr (.inl ⟨eqF (by omega),eqT (by omega),.inr h2⟩)
          ·exact .inr (.inr ⟨eqF (by omega),eqF (by omega),by omega⟩)
        have HX:Hid (Lx.numExp (k,sfx s d)=(let l2:=if (bt s (d+1)).toNat=43∨(bt s (d+1)).toNat=45 then (sfx s (d+1)).drop 1 else sfx s (d+1);if (Lx.digits l2).length=l2.length then none else Lx.numEnd (3,Lx.digits l2))):=by
         show _=_;unfold Lx.numExp;rw[if_pos (by rw[BQ,UInt8.toNat_or];exact K.out),Ah];simp only[BQ]
        have ah:∀g f,sfx s g=(if (bt s (d+1)).toNat=43∨(bt s (d+1)).toNat=45 then (sfx s (d+1)).drop 1 else sfx s (d+1))→g≤f→f≤s.size→sfx s f=(sfx s g).dropWhile Lx.isDigit →
          Lx.number (sfx s a)=if f=g then none else Lx.numEnd (3,sfx s f):=λg f hg hgf hf hd'=>by
         rw[B.out,HX.out];simp only[← hg];have hl:=congrArg List.length hd';rw[AQ]at hl;unfold Lx.digits;rw[← hd',AQ,AQ];by_cases hfg:f=g
         ·rw[if_pos (by omega),if_pos hfg]
         ·rw[if_neg (by omega),if_neg hfg]
        have HY:=QA ah;clear HX ah B;have aq:d+1≤s.size:=G;rcases ax with⟨A,Y⟩|⟨A,e2,Y⟩|⟨A,e2,Y⟩
        all_goals
         have E3:=QA Y;clear Y;go_wp2_with fail
         first
         | (
           have ak:d+1<s.size:=by
            rcases ZV (d+1) s.size with h'|h'
            ·exact h'
            ·have:=E3.out;rw[bt_end _ _ h']at this;exact absurd this (by decide)
           refine (Bo bx s (d+1+1) _ hs ak (L.put (d+1+1))).mono ?_;rintro e w4 ⟨f,hgf,hf,hdf,rfl,hS4,hF5⟩;have R:Fr bx w w4:=But.trans (by (repeat' (first|(with_reducible assumption)|(with_reducible exact But.refl _ _)|(with_reducible refine But.drewN ?_ _)|(with_reducible refine But.drew ?_)|(with_reducible refine Fr.set ?_ _ _)|(with_reducible refine But.alloc ?_ _)))) hF5;have HZ:=QA (HY.out (d+1+1) f (by rw[if_pos E3.out,Ah]) hgf hf hdf);clear hdf hF5 c0 c1 f1 A;by_cases hfg:f=d+1+1
           ·have e4:((f:Int)-((d:Int)+1+1)==0)=true:=by rw[beq_iff_eq];omega
            have E:=QA hfg;clear hfg;go_wp2_with fail;go_ret;exact⟨f,by omega,hf,hS4,R,.inr ⟨by rw[HZ.out,if_pos E.out],rfl⟩⟩
           ·have e4:((f:Int)-((d:Int)+1+1)==0)=false:=by rw[beq_eq_false_iff_ne];omega
            have E:=QA hfg;clear hfg;go_wp2_with fail
            go_meet
            exact⟨3,f,rfl,.inr rfl,by omega,hf,by rw[HZ.out,if_neg E.out],hS4,R⟩)
         | (
           refine (Bo bx s (d+1) _ hs aq L).mono ?_;rintro e w4 ⟨f,hgf,hf,hdf,rfl,hS4,hF5⟩;have R:Fr bx w w4:=But.trans X hF5;have HZ:=QA (HY.out (d+1) f (by rw[if_neg E3.out]) hgf hf hdf);clear hdf hF5 c0 c1 f1 A;by_cases hfg:f=d+1
           ·have e4:((f:Int)-((d:Int)+1)==0)=true:=by rw[beq_iff_eq];omega
            have E:=QA hfg;clear hfg;go_wp2_with fail;go_ret;exact⟨f,by omega,hf,hS4,R,.inr ⟨by rw[HZ.out,if_pos E.out],rfl⟩⟩
           ·have e4:((f:Int)-((d:Int)+1)==0)=false:=by rw[beq_eq_false_iff_ne];omega
            have E:=QA hfg;clear hfg;go_wp2_with fail
            go_meet
            exact⟨3,f,rfl,.inr rfl,by omega,hf,by rw[HZ.out,if_neg E.out],hS4,R⟩)
       ·have A:((((bt s d).toNat ||| 32:Nat):Int)==101)=false:=eqF (by omega);have K:=QA h101;clear h101;go_wp2_with fail
        go_meet
        exact⟨k,d,rfl,HK.out,I,S,by rw[B.out,Lx.numExp,if_neg (by rw[BQ,UInt8.toNat_or];exact K.out)],by (repeat' (first|(with_reducible assumption)|(with_reducible refine AN.drewN ?_ _)|(with_reducible refine AN.drew ?_))),by (repeat' (first|(with_reducible assumption)|(with_reducible exact But.refl _ _)|(with_reducible refine But.drewN ?_ _)|(with_reducible refine But.drew ?_)|(with_reducible refine Fr.set ?_ _ _)|(with_reducible refine But.alloc ?_ _)))⟩
      case rest =>
       clear o N B HK ag;obtain⟨k,d,rfl,hk,I,S,C,o,N⟩:=hcut;have B:=QA C;have HK:=QA hk;clear C hk;go_wp2_with fail;refine (BR bx s d _ hs (by omega) (by (repeat' (first|(with_reducible assumption)|(with_reducible refine AN.drewN ?_ _)|(with_reducible refine AN.drew ?_))))).mono ?_;rintro e w' ⟨rfl,n5,rfl⟩;by_cases h46:(bt s d).toNat=46
       ·have A:=eqT (n:=(bt s d).toNat) (k:=46) (by omega);have D:=QA h46;clear h46;go_wp2_with fail;go_ret;exact⟨d,I,S,by (repeat' (first|(with_reducible assumption)|(with_reducible refine AN.drewN ?_ _)|(with_reducible refine AN.drew ?_))),by (repeat' (first|(with_reducible assumption)|(with_reducible exact But.refl _ _)|(with_reducible refine But.drewN ?_ _)|(with_reducible refine But.drew ?_)|(with_reducible refine Fr.set ?_ _ _)|(with_reducible refine But.alloc ?_ _))),.inr ⟨by rw[B.out,Lx.numEnd,BQ,if_pos (.inl D.out)],rfl⟩⟩
       ·have A:=eqF (n:=(bt s d).toNat) (k:=46) (by omega);have D:=QA h46;clear h46;cases hlet:Lx.isLetter (bt s d)
        ·have H:=QA hlet;clear hlet;cases hdig:Lx.isDigit (bt s d)
         ·have M:=QA hdig;clear hdig;go_wp2_with (first|(go_at_call 84;refine (Al _ _).mono ?_;rintro e w' ⟨rfl,rfl⟩;rw[H.out])|(go_at_call 87;refine (Ao _ _).mono ?_;rintro e w' ⟨rfl,rfl⟩;rw[M.out]));go_ret;refine⟨d,I,S,by (repeat' (first|(with_reducible assumption)|(with_reducible refine AN.drewN ?_ _)|(with_reducible refine AN.drew ?_))),by (repeat' (first|(with_reducible assumption)|(with_reducible exact But.refl _ _)|(with_reducible refine But.drewN ?_ _)|(with_reducible refine But.drew ?_)|(with_reducible refine Fr.set ?_ _ _)|(with_reducible refine But.alloc ?_ _))),.inl ⟨k,?_,HK.out,rfl⟩⟩;rw[B.out,Lx.numEnd,BQ,H.out,M.out,if_neg (by have:=D.out;simp[this])]
         ·have M:=QA hdig;clear hdig;go_wp2_with (first|(go_at_call 84;refine (Al _ _).mono ?_;rintro e w' ⟨rfl,rfl⟩;rw[H.out])|(go_at_call 87;refine (Ao _ _).mono ?_;rintro e w' ⟨rfl,rfl⟩;rw[M.out]));go_ret;exact⟨d,I,S,by (repeat' (first|(with_reducible assumption)|(with_reducible refine AN.drewN ?_ _)|(with_reducible refine AN.drew ?_))),by (repeat' (first|(with_reducible assumption)|(with_reducible exact But.refl _ _)|(with_reducible refine But.drewN ?_ _)|(with_reducible refine But.drew ?_)|(with_reducible refine Fr.set ?_ _ _)|(with_reducible refine But.alloc ?_ _))),.inr ⟨by rw[B.out,Lx.numEnd,BQ,if_pos (.inr (.inr M.out))],rfl⟩⟩
        ·have H:=QA hlet;clear hlet;go_wp2_with (first|(go_at_call 84;refine (Al _ _).mono ?_;rintro e w' ⟨rfl,rfl⟩;rw[H.out])|(go_at_call 87;refine (Ao _ _).mono ?_;rintro e w' ⟨rfl,rfl⟩));go_ret;exact⟨d,I,S,by (repeat' (first|(with_reducible assumption)|(with_reducible refine AN.drewN ?_ _)|(with_reducible refine AN.drew ?_))),by (repeat' (first|(with_reducible assumption)|(with_reducible exact But.refl _ _)|(with_reducible refine But.drewN ?_ _)|(with_reducible refine But.drew ?_)|(with_reducible refine Fr.set ?_ _ _)|(with_reducible refine But.alloc ?_ _))),.inr ⟨by rw[B.out,Lx.numEnd,BQ,if_pos (.inr (.inl H.out))],rfl⟩⟩
def hexDigits:List UInt8:=[48,49,50,51,52,53,54,55,56,57,97,98,99,100,101,102]
def JU (c:UInt8):Option Nat :=
 if Lib.indexByte hexDigits (c ||| 32)<0∨c.toNat<48∨(57<c.toNat∧c.toNat<65) then none else some (Lib.indexByte hexDigits (c ||| 32)).toNat
theorem IA:∀n:Fin 256,JU (UInt8.ofNat n.val)=Lx.hexv (UInt8.ofNat n.val)∧Lib.indexByte hexDigits (UInt8.ofNat n.val ||| 32)<16∧-1≤Lib.indexByte hexDigits (UInt8.ofNat n.val ||| 32):=by decide +kernel
theorem Jf (c:UInt8):JU c=Lx.hexv c∧Lib.indexByte hexDigits (c ||| 32)<16∧-1≤Lib.indexByte hexDigits (c ||| 32):=by
 have:=IA ⟨c.toNat,UInt8.toNat_lt c⟩
 simpa using this
theorem Ku (c:UInt8) (w:World) :
  Calls Tryz.prog 91 #[.string ⟨#[48,49,50,51,52,53,54,55,56,57,97,98,99,100,101,102]⟩,.int .u8 ((c.toNat ||| 32:Nat):Int)] w λe w'=>e=.returned (.int .i64 (Lib.indexByte hexDigits (c ||| 32)))∧w'=w:=by
 refine (Tryz.strings_IndexByte _ _ _).mono ?_;rintro e w' ⟨rfl,rfl⟩;refine⟨?_,rfl⟩;have o:(((c.toNat ||| 32:Nat):Int)).toNat.toUInt8=c ||| 32:=by
  rw[Int.toNat_natCast,show c.toNat ||| 32=(c ||| 32).toNat from (UInt8.toNat_or c 32).symm];simp
 rw[o];rfl
def EL (o:Option Nat):Int:=match o with|some v=>v|none=>-1
def KQ (s:ByteArray) (w:World) (e:Ending) (w':World):Prop:=e=.returned (.int .i32 (EL (Lx.hex s.data.toList)))∧w'=w
theorem DC {s:ByteArray} {k r:Nat} (hk:k<4) (hks:k<s.size) (h:Lx.hexv (bt s k)=none):Lx.hexs (4-k) r (sfx s k)=none:=by
 rw[Ax s k hks,show 4-k=(3-k)+1 by omega,Lx.hexs,h]
theorem IF {s:ByteArray} {k r v:Nat} (hk:k<4) (hks:k<s.size) (h:Lx.hexv (bt s k)=some v):Lx.hexs (4-k) r (sfx s k)=Lx.hexs (4-(k+1)) (r*16+v) (sfx s (k+1)):=by
 rw[Ax s k hks,show 4-k=(3-k)+1 by omega,Lx.hexs,h];rw[show 4-(k+1)=3-k by omega]
theorem EV:∀(n r:Nat) (l:List UInt8),l.length<n→Lx.hexs n r l=none
 | 0,_,_,h=>by omega
 | n+1,r,[],_=>rfl
 | n+1,r,c::l,h=>by
  unfold Lx.hexs;split
  ·rfl
  ·exact EV n _ l (by simpa using h)
theorem Jo (s:ByteArray) (w:World) (hs:s.size≤4096):Calls Tryz.prog 118 #[.string s] w (KQ s w):=by
 by_cases h4:s.size<4
 ·have H:(s.size:Int)<4:=by omega
  go_enter Tryz.func118,Tryz.ntmps118;go_wp2;go_ret;have:Lx.hex s.data.toList=none:=EV 4 0 _ (by simpa using h4);exact⟨by rw[this];rfl,rfl⟩
 ·have H:(4:Int)≤s.size:=by omega
  have A:Lx.hexs (4-0) 0 (sfx s 0)=Lx.hex s.data.toList:=by rw[Dz];rfl
  have E:=QA A;clear A;go_enter Tryz.func118,Tryz.ntmps118;go_wp2
  go_loop [3,9] (λs3 s9=>∃(k r:Nat),k≤4∧r<16 ^ k∧s3=.int .i32 r∧s9=.int .i64 k∧Lx.hexs (4-k) r (sfx s k)=Lx.hex s.data.toList) (λ_ s9=>(4-intOf s9).toNat)
  case atStart=>exact⟨0,0,by omega,by decide,rfl,rfl,E.out⟩
  case round =>
   obtain⟨k,r,U,J,rfl,rfl,N⟩:=hrel;have B:=QA N;have M:=QA J;clear N J;by_cases hk4:k<4
   ·have T:(k:Int)<s.size:=by omega
    have K:r<4096:=by
     have R:=M.out;have V:16 ^ k≤16 ^ 3:=Nat.pow_le_pow_right (by omega) (by omega);omega
    obtain⟨g1,g2,Q⟩:=Jf (bt s k);have P:=Km (bt s k);have I:=Ku (bt s k);unfold JU at g1
    generalize Lib.indexByte hexDigits (bt s k ||| 32)=kk at g1 g2 Q I
    have S:=QA g1;have O:=QA I;clear g1 I;have o:(decide (kk<0)=true∧Lx.hexv (bt s k)=none)∨(decide (kk<0)=false∧decide (((bt s k).toNat:Int)<48)=true∧Lx.hexv (bt s k)=none) ∨
      (decide (kk<0)=false∧decide (((bt s k).toNat:Int)<48)=false∧decide (57<((bt s k).toNat:Int))=true∧decide (((bt s k).toNat:Int)<65)=true∧Lx.hexv (bt s k)=none) ∨
      (decide (kk<0)=false∧decide (((bt s k).toNat:Int)<48)=false∧decide (57<((bt s k).toNat:Int))=true∧decide (((bt s k).toNat:Int)<65)=false∧Lx.hexv (bt s k)=some kk.toNat∧0≤kk) ∨
      (decide (kk<0)=false∧decide (((bt s k).toNat:Int)<48)=false∧decide (57<((bt s k).toNat:Int))=false∧Lx.hexv (bt s k)=some kk.toNat∧0≤kk):=by
     have C:=S.out;by_cases a1:kk<0
     ·exact .inl ⟨by simpa using a1,by rw[← C,if_pos (.inl a1)]⟩
     ·by_cases a2:(bt s k).toNat<48
      ·exact .inr (.inl ⟨by simpa using a1,by simp;omega,by rw[← C,if_pos (.inr (.inl a2))]⟩)
      ·by_cases a3:57<(bt s k).toNat
       ·by_cases a4:(bt s k).toNat<65
        ·exact .inr (.inr (.inl ⟨by simpa using a1,by simp;omega,by simp;omega,by simp;omega,by rw[← C,if_pos (.inr (.inr ⟨a3,a4⟩))]⟩))
        ·exact .inr (.inr (.inr (.inl ⟨by simpa using a1,by simp;omega,by simp;omega,by simp;omega,by rw[← C,if_neg (by omega)],by omega⟩)))
       ·exact .inr (.inr (.inr (.inr ⟨by simpa using a1,by simp;omega,by simp;omega,by rw[← C,if_neg (by omega)],by omega⟩)))
    rcases o with⟨e1,e5⟩|⟨e1,e2,e5⟩|⟨e1,e2,e3,e4,e5⟩|⟨e1,e2,e3,e4,e5,e6⟩|⟨e1,e2,e3,e5,e6⟩
    all_goals
     have D:=QA e5;clear e5;go_wp2_with (go_at_call 91;refine (O.out _).mono ?_;rintro e w' ⟨rfl,hw'⟩;subst hw')
    ·go_ret;exact⟨by rw[← B.out,DC hk4 (by omega) D.out];rfl,rfl⟩
    ·go_ret;exact⟨by rw[← B.out,DC hk4 (by omega) D.out];rfl,rfl⟩
    ·go_ret;exact⟨by rw[← B.out,DC hk4 (by omega) D.out];rfl,rfl⟩
    all_goals
     obtain⟨v,rfl⟩:=Int.eq_ofNat_of_zero_le e6;have F:bits BinOp.or IntKind.i32 ((r:Int)*16) (v:Int)=((r*16+v:Nat):Int):=by
      rw[bits_join .i32 31 (by decide) wraps_i32 4 _ _ (by omega) (by omega) (by omega) (by omega) (by omega) (by omega)];omega
     refine⟨⟨k+1,r*16+v,by omega,?_,by rw[F],by go_num,?_⟩,by simp[intOf];omega⟩
     ·have R:=M.out;rw[Nat.pow_succ];omega
     ·rw[← B.out];have:=IF (r:=r) hk4 (by omega) D.out;rw[Int.toNat_natCast]at this;exact this.symm
   ·have L:(4:Int)≤k:=by omega
    have G:k=4:=by omega
    go_wp2;go_ret;refine⟨?_,rfl⟩;rw[← B.out,G];rfl
end Go.Proofs.YtedeapbonbbacaaGreatDoor
