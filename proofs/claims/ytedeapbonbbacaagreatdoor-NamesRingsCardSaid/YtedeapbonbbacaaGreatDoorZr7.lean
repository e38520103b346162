/-
  Base words of our own: bytes of a string, endings, the frame of a call that writes one old block alone. Where the tokens stand in the text. A token stands by itself: laid Ca other gaps it is the same token (no program in sight). Tokens with other gaps Ca are the same tokens (no program in sight). A text of words and blanks: its tokens (no program in sight). A region that draws its order: quiet operations, then one that may do anything, then quiet ones again, and so on: walked once, in the text's order. After the kit's StillTail and Deep.Quiet, whose proofs are turned here: the class of worlds is 'w after some draws', and it begins anew behind each operation that may write. A region that draws its order, whose operations read what was there, and whose calls only lay new blocks: walked once, in the text's order. (The kit's Deep.Quiet at the class of the later worlds.)
-/
import Derived.Test.YtedeapbonbbacaaGreatDoorProg
import Derived.WalkKit
import Derived.WalkLawsBesides
import Derived.WalkSpells
import Derived.BigQuiet
import Derived.Deep.QuietTactic
import Derived.StillTailTactics
import Derived.Lib.Hide
import Derived.Test.YtedeapbonbbacaaGreatDoorZr3
import Derived.Test.YtedeapbonbbacaaGreatDoorZr5
import Derived.StillTail
open Bool renaming and_eq_true → ZB
open List renaming length_cons → QO, length_nil → QR, length_append → QS, length_drop → QY, drop_eq_getElem_cons → ZC, append_assoc → ZF, getElem?_eq_getElem → ZH, length_take → ZI, all_eq_true → ZL, append_nil → ZN, nil_append → ZO, cons_append → ZP
open Nat renaming le_refl → QM, le_trans → QQ, lt_or_ge → ZV
namespace Go.Proofs.YtedeapbonbbacaaGreatDoor
set_option maxRecDepth 100000
set_option linter.unusedSimpArgs false
set_option linter.unusedVariables false
open Go Go.RowKit
theorem EE {a b:Bool} (h:a=b):Ending.returned (.bool a)=.returned (.bool b):=by rw[h]
theorem Ho {k:IntKind} {a b:Int} (h:a=b):Ending.returned (.int k a)=.returned (.int k b):=by rw[h]
def bt (s:ByteArray) (n:Nat):UInt8:=s.data.toList.getD n 0
def sfx (s:ByteArray) (n:Nat):List UInt8:=s.data.toList.drop n
theorem G6 (s:ByteArray) (n:Nat) (h:n<s.size):s[n]'h=bt s n:=by
 have o:n<s.data.toList.length:=by simpa using h
 show s.data[n]'h=_;unfold bt;rw[List.getD_eq_getElem?_getD,ZH o];simp
theorem AQ (s:ByteArray) (n:Nat):(sfx s n).length=s.size-n:=by unfold sfx;simp
theorem Dz (s:ByteArray):sfx s 0=s.data.toList:=by simp[sfx]
theorem Cc (s:ByteArray) (n:Nat) (h:s.size≤n):sfx s n=[]:=by
 have:=AQ s n;exact List.eq_nil_of_length_eq_zero (by omega)
theorem Ax (s:ByteArray) (n:Nat) (h:n<s.size):sfx s n=bt s n::sfx s (n+1):=by
 unfold sfx bt;have o:n<s.data.toList.length:=by simpa using h
 rw[ZC o,List.getD_eq_getElem?_getD,ZH o];simp
theorem Ah (s:ByteArray) (n k:Nat):(sfx s n).drop k=sfx s (n+k):=by simp[sfx,List.drop_drop]
theorem bt_end (s:ByteArray) (n:Nat) (h:s.size≤n):bt s n=0:=by
 unfold bt;rw[List.getD_eq_getElem?_getD,List.getElem?_eq_none (by simpa using h)];rfl
theorem Fj (s:ByteArray) (n k:Nat):(sfx s n).getD k 0=bt s (n+k):=by
 unfold sfx bt;simp[List.getD_eq_getElem?_getD,List.getElem?_drop]
@[go_sem high] theorem KR {P : Program} (w : World) (t : TypeId) (s : ByteArray) (k : IntKind) (i : Int) (h : P.underlying t = some .string) :
  (Instr.index t (.string s) (.int k i)).run P w=if 0≤i∧i<s.size then .ok (.int .u8 (bt s i.toNat).toNat) w else (boundsPanic k i s.size .index).run P w:=by
 rw[run_index_string w t s k i h]
 by_cases hi:0≤i∧i<s.size
 ·rw[dif_pos hi,if_pos hi,G6]
 ·rw[dif_neg hi,if_neg hi]
structure But (X:Nat→Prop) (w w':World):Prop where
 os:w'.os=w.os
 tape:w'.tape=w.tape
 output:w'.output=w.output
 size:w.heap.size≤w'.heap.size
 block:∀k,k<w.heap.size→¬X k→w'.heap[k]?=w.heap[k]?
theorem But.refl (X:Nat→Prop) (w:World):But X w w:=⟨rfl,rfl,rfl,QM _,λ_ _ _=>rfl⟩
theorem But.trans {X:Nat→Prop} {a b c:World} (h:But X a b) (k:But X b c):But X a c :=
 ⟨k.os.trans h.os,k.tape.trans h.tape,k.output.trans h.output,QQ h.size k.size,
  λi hi hx=>(k.block i (Nat.lt_of_lt_of_le hi h.size) hx).trans (h.block i hi hx)⟩
theorem But.mono {X Y:Nat→Prop} {w w':World} (h:But X w w') (hxy:∀k,k<w.heap.size→X k→Y k):But Y w w' :=
 ⟨h.os,h.tape,h.output,h.size,λk hk hy=>h.block k hk (λhx=>hy (hxy k hk hx))⟩
theorem But.drewN {X:Nat→Prop} {a w:World} (h:But X a w) (n:Nat):But X a (w.drewN n) :=
 h.trans ⟨rfl,rfl,rfl,QM _,λ_ _ _=>rfl⟩
theorem But.drew {X:Nat→Prop} {a w:World} (h:But X a w):But X a w.drew :=
 h.trans ⟨rfl,rfl,rfl,QM _,λ_ _ _=>rfl⟩
theorem But.alloc {X:Nat→Prop} {a w:World} (h:But X a w) (o:Obj):But X a (w.alloc o) :=
 h.trans ⟨rfl,rfl,rfl,by simp,λk hk _=>Below.heap_alloc _ _ _ hk⟩
theorem But.setCell {X:Nat→Prop} {a w:World} (h:But X a w) {p:Addr} (hp:X p.block∨a.heap.size≤p.block) (u:Value):But X a (w.setCell p u) :=
 ⟨h.os,h.tape,h.output,by have:=h.size;simpa [World.setCell] using this,
  λk hk hx=>by rw[Below.heap_setCell _ _ _ _ (λe=>by subst e;rcases hp with hp|hp;exact hx hp;omega)];exact h.block k hk hx⟩
theorem But.of_below {X:Nat→Prop} {w w':World} (h:Below w.heap.size w w'):But X w w' :=
 ⟨h.os,h.tape,h.output,h.size,λk hk _=>h.block k hk⟩
theorem But.below {w w':World} (h:But (λ_=>False) w w'):Below w.heap.size w w' :=
 ⟨h.os,h.tape,h.output,h.size,λk hk=>h.block k hk (λhf=>hf)⟩
theorem But.cell {X:Nat→Prop} {w w':World} (h:But X w w') {p:Addr} (hp:p.block<w.heap.size) (hx:¬X p.block):w'.cell? p=w.cell? p :=
 World.cell?_of_block (w:=w) (h.block p.block hp hx)
theorem But.frozen {X:Nat→Prop} {w w':World} (h:But X w w') {p:Addr} (hp:p.block<w.heap.size) (hx:¬X p.block):w'.frozen? p=w.frozen? p :=
 World.frozen?_of_block (w:=w) (h.block p.block hp hx)
theorem Below.drewN {B:Nat} {a w:World} (h:Below B a w) (n:Nat):Below B a (w.drewN n):=h.trans ⟨rfl,rfl,rfl,QM _,λ_ _=>rfl⟩
theorem Below.undrew {w w':World} {n:Nat} (h:Below (w.drewN n).heap.size (w.drewN n) w'):Below w.heap.size w w':=⟨h.os,h.tape,h.output,h.size,h.block⟩
theorem But.undrew {X:Nat→Prop} {w w':World} {n:Nat} (h:But X (w.drewN n) w'):But X w w':=⟨h.os,h.tape,h.output,h.size,h.block⟩
theorem eqF {n:Nat} {k:Int} (h:(n:Int)≠k):((n:Int)==k)=false:=by rw[beq_eq_false_iff_ne];exact h
theorem eqT {n:Nat} {k:Int} (h:(n:Int)=k):((n:Int)==k)=true:=by rw[beq_iff_eq];exact h
theorem neF {n:Nat} {k:Int} (h:(n:Int)=k):((n:Int) != k)=false:=by simp[h]
theorem neT {n:Nat} {k:Int} (h:(n:Int)≠k):((n:Int) != k)=true:=by simp[h]
def F7 (t:Lx.Tok):Nat:=if t.kind=4 then t.at_+1 else t.at_+t.text.length
structure Eo (s:ByteArray) (p:Nat) (t:Lx.Tok):Prop where
 k1:1≤t.kind
 k5:t.kind≤5
 lo:p≤t.at_
 hi:t.at_<s.size
 quote:t.kind=4→bt s t.at_=34
 pos:t.kind≠4→0<t.text.length
 fits:t.kind≠4→t.at_+t.text.length≤s.size
 same:t.kind≠4→t.text=(sfx s t.at_).take t.text.length
def CF (s:ByteArray):Nat→List Lx.Tok→Nat→Prop
 | p,[],q=>p≤q
 | p,t::ts,q=>Eo s p t∧CF s (F7 t) ts q
theorem CF.mono {s:ByteArray}:∀{ts:List Lx.Tok} {p q q':Nat},CF s p ts q→q≤q'→CF s p ts q'
 | [],_,_,_,h,hq=>QQ h hq
 | _::ts,_,_,_,h,hq=>⟨h.1,CF.mono h.2 hq⟩
theorem Eo.mono {s:ByteArray} {p p':Nat} {t:Lx.Tok} (h:Eo s p t) (hp:p'≤p):Eo s p' t:={ h with lo:=QQ hp h.lo }
theorem CF.snoc {s:ByteArray}:∀{ts:List Lx.Tok} {p q q':Nat} {t:Lx.Tok},CF s p ts q→Eo s q t→F7 t≤q'→CF s p (ts++[t]) q'
 | [],_,_,_,_,h,ht,hq=>⟨ht.mono h,hq⟩
 | _::ts,_,_,_,_,h,ht,hq=>⟨h.1,CF.snoc h.2 ht hq⟩
theorem Df {l:List UInt8} {r:Nat×List UInt8} (h:Lx.number l=some r):r.1=2∨r.1=3:=by
 have o:∀(x y:Nat×List UInt8),Lx.numEnd x=some y→y=x:=by
  intro x y h;unfold Lx.numEnd at h;split at h
  ·cases h
  ·exact (Option.some.inj h).symm
 have A:∀(x y:Nat×List UInt8),Lx.numExp x=some y→y.1=x.1∨y.1=3:=by
  intro x y h;unfold Lx.numExp at h;split at h
  ·dsimp only at h
   repeat' split at h
   all_goals first|exact .inr (by rw[o _ _ h])|cases h
  ·exact .inl (by rw[o _ _ h])
 have B:∀(x:List UInt8) (y:Nat×List UInt8),Lx.numFrac x=some y→y.1=2∨y.1=3:=by
  intro x y h;unfold Lx.numFrac at h;split at h
  ·split at h
   ·cases h
   ·rcases A _ _ h with e|e
    ·exact .inr e
    ·exact .inr e
  ·rcases A _ _ h with e|e
   ·exact .inl e
   ·exact .inr e
 unfold Lx.number at h
 dsimp only at h
 repeat' split at h
 all_goals first|exact B _ _ h|cases h
theorem F8 {l:List UInt8} {k:Nat} {T r:List UInt8} (h:Lx.token l=some (k,T,r)) (hl:0<l.length) :
  (k=4∧Lx.hd l=34)∨(k≠4∧T=l.take (l.length-r.length)):=by
 unfold Lx.token at h;split at h
 ·simp only[Option.some.injEq,Prod.mk.injEq]at h;obtain⟨rfl,rfl,rfl⟩:=h;exact .inr ⟨by decide,rfl⟩
 split at h
 ·obtain⟨p,A,o⟩:=Option.map_eq_some_iff.1 h;simp only[Prod.mk.injEq]at o;obtain⟨rfl,rfl,rfl⟩:=o;refine .inr ⟨?_,rfl⟩;rcases Df A with e|e<;>rw[e]<;>decide
 split at h
 ·rename_i hq;obtain⟨p,A,o⟩:=Option.map_eq_some_iff.1 h;simp only[Prod.mk.injEq]at o;refine .inl ⟨o.1.symm,?_⟩;cases l with
  | nil=>simp at hl
  | cons c t =>
   unfold Lx.quotes3 at hq;have:=of_decide_eq_true hq;simp at this;exact this.1
 split at h
 ·rename_i hq;obtain⟨p,A,o⟩:=Option.map_eq_some_iff.1 h;simp only[Prod.mk.injEq]at o;exact .inl ⟨o.1.symm,UInt8.toNat_inj.1 hq⟩
 split at h
 ·rename_i hq;simp only[Option.some.injEq,Prod.mk.injEq]at h;obtain⟨rfl,rfl,rfl⟩:=h;refine .inr ⟨by decide,?_⟩;have C:3≤l.length:=by
   unfold Lx.dots3 at hq;have B:=congrArg List.length (of_decide_eq_true hq);rw[ZI]at B;simp at B;omega
  rw[QY]
  congr 1
  omega
 split at h
 ·simp only[Option.some.injEq,Prod.mk.injEq]at h;obtain⟨rfl,rfl,rfl⟩:=h;refine .inr ⟨by decide,?_⟩;rw[QY]
  congr 1
  omega
 ·cases h
theorem JF {s:ByteArray} {b c k:Nat} {T:List UInt8} (h:Lx.token (sfx s b)=some (k,T,sfx s c)) (hbc:b<c) (hc:c≤s.size) (k1:1≤k) (k5:k≤5) :
  Eo s b ⟨k,T,b⟩∧F7 ⟨k,T,b⟩≤c:=by
 have B:0<(sfx s b).length:=by rw[AQ];omega
 have o:(sfx s b).length-(sfx s c).length=c-b:=by rw[AQ,AQ];omega
 rcases F8 h B with⟨rfl,hq⟩|⟨hk,hT⟩
 ·refine⟨⟨k1,k5,QM _,by show b<s.size;omega,λ_=>?_,λh=>absurd rfl h,λh=>absurd rfl h,λh=>absurd rfl h⟩,?_⟩
  ·rw[Ax s b (by omega)]at hq;exact hq
  ·unfold F7;rw[if_pos rfl];exact hbc
 ·rw[o]at hT;have A:T.length=c-b:=by rw[hT,ZI,AQ];omega
  refine⟨⟨k1,k5,QM _,by show b<s.size;omega,λh=>absurd h hk,λ_=>?_,λ_=>?_,λ_=>?_⟩,?_⟩
  ·show 0<T.length;omega
  ·show b+T.length≤s.size;omega
  ·show T=(sfx s b).take T.length;rw[A];exact hT
  ·unfold F7;rw[if_neg hk];show b+T.length≤c;omega
structure Std (s:ByteArray) (all:List Lx.Tok):Prop where
 len:all.length≤1501
 chain:∃ts,all=ts++[⟨0,[],s.size⟩]∧CF s 0 ts s.size
end Go.Proofs.YtedeapbonbbacaaGreatDoor
namespace Go.Proofs.YtedeapbonbbacaaGreatDoor
set_option linter.unusedSimpArgs false
set_option linter.unusedVariables false
namespace Lx
def Kj (c:UInt8):Bool:=isBlank c||decide (c.toNat=35)
def JN (c:UInt8):Bool:=!Kj c||(!isLetter c&&!isDigit c&&!isWord c&&decide (c.toNat≠46)&&decide ((c ||| 32).toNat≠101)&&decide (c.toNat≠34))
theorem IQ:∀n:Fin 256,JN (UInt8.ofNat n.val)=true:=by decide +kernel
theorem B7 {c:UInt8} (h:Kj c=true):isLetter c=false∧isDigit c=false∧isWord c=false∧c.toNat≠46∧(c ||| 32).toNat≠101∧c.toNat≠34:=by
 have:=IQ ⟨c.toNat,UInt8.toNat_lt c⟩;have o:JN c=true:=by simpa using this
 unfold JN at o;rw[h]at o;simp only[Bool.not_true,Bool.false_or,ZB,decide_eq_true_eq,Bool.not_eq_true']at o;obtain⟨⟨⟨⟨⟨B,E⟩,A⟩,F⟩,D⟩,C⟩:=o;exact⟨B,E,A,F,D,C⟩
theorem Gh {a x y:List UInt8} (p:UInt8→Prop) (h1:p (hd (a++x))) (h2:p (hd y)):p (hd (a++y)):=by
 cases a with
 | nil=>exact h2
 | cons c a=>exact h1
theorem BF (c:UInt8) (l:List UInt8):hd (c::l)=c:=rfl
theorem Gp (p:UInt8→Bool):∀(a x:List UInt8),(∀c∈a,p c=true)→p (hd x)=false∨x=[]→(a++x).dropWhile p=x
 | [],x,_,h=>by
  rw[ZO];cases x with
  | nil=>rfl
  | cons c x =>
   rcases h with h|h
   ·rw[List.dropWhile_cons,if_neg (by rw[BF]at h;rw[h];simp)]
   ·cases h
 | c::a,x,ha,h=>by
  rw[ZP,List.dropWhile_cons,if_pos (ha c (by simp))];exact Gp p a x (λd hd=>ha d (by simp[hd])) h
theorem JL (p:UInt8→Bool) (h0:p 0=false):∀l:List UInt8,p (hd (l.dropWhile p))=false
 | []=>h0
 | c::l=>by
  rw[List.dropWhile_cons];split
  ·exact JL p h0 l
  ·rename_i h;rw[BF];simpa using h
theorem CC {a x:List UInt8} (ha:∀c∈a,isDigit c=true) (h:isDigit (hd x)=false):digits (a++x)=x:=Gp isDigit a x ha (.inl h)
theorem Ef (l:List UInt8):isDigit (hd (digits l))=false:=JL isDigit (by decide) l
theorem Be (l:List UInt8):∃a,l=a++digits l∧∀c∈a,isDigit c=true:=Cq isDigit l
def okG (x:List UInt8):Prop:=Kj (hd x)=true
theorem CH {r r':Nat×List UInt8} (h:numEnd r=some r'):r'=r:=by
 unfold numEnd at h;split at h
 ·cases h
 ·simpa using h.symm
theorem Cj (k:Nat) {x:List UInt8} (h:okG x):numEnd (k,x)=some (k,x):=by
 obtain⟨o,A,C,B,E,D⟩:=B7 h;unfold numEnd;rw[if_neg (by simp[o,A,B])]
theorem EQ {k k':Nat} {l rest:List UInt8} (h:numExp (k,l)=some (k',rest)):∃pre,l=pre++rest∧∀x,okG x→numExp (k,pre++x)=some (k',x):=by
 unfold numExp at h;split at h
 ·rename_i he;simp only[]at h he;obtain⟨c,A,rfl⟩:∃c A,l=c::A:=by
   cases l with
   | nil=>exact absurd he (by decide)
   | cons c A=>exact⟨c,A,rfl⟩
  rw[List.drop_one,List.tail_cons]at h;rw[BF]at he;by_cases hs:(hd A).toNat=43∨(hd A).toNat=45
  ·rw[if_pos hs]at h;obtain⟨d,E,rfl⟩:∃d E,A=d::E:=by
    cases A with
    | nil=>exact absurd hs (by decide)
    | cons d E=>exact⟨d,E,rfl⟩
   rw[List.drop_one,List.tail_cons]at h;rw[BF]at hs;obtain⟨o,C,G⟩:=Be E;split at h
   ·cases h
   ·rename_i hne;have:=CH h;simp only[Prod.mk.injEq]at this;obtain⟨rfl,rfl⟩:=this;refine⟨c::d::o,by rw[ZP,ZP,← C],λx hx=>?_⟩;have B:digits (o++x)=x:=CC G (B7 hx).2.1;have D:o.length≠0:=λe=>hne (by
     have:=congrArg List.length C;rw[QS,e]at this;omega)
    unfold numExp;rw[if_pos (by exact he)];simp only[ZP,List.drop_one,List.tail_cons,BF];rw[if_pos hs,B,if_neg (by rw[QS];omega)];exact Cj 3 hx
  ·rw[if_neg hs]at h;obtain⟨o,C,G⟩:=Be A;split at h
   ·cases h
   ·rename_i hne;have:=CH h;simp only[Prod.mk.injEq]at this;obtain⟨rfl,rfl⟩:=this;refine⟨c::o,by rw[ZP,← C],λx hx=>?_⟩;have B:digits (o++x)=x:=CC G (B7 hx).2.1;have D:o.length≠0:=λe=>hne (by
     have:=congrArg List.length C;rw[QS,e]at this;omega)
    have F:¬((hd (o++x)).toNat=43∨(hd (o++x)).toNat=45):=by
     cases o with
     | nil=>exact absurd rfl D
     | cons q o =>
      rw[C]at hs;exact hs
    unfold numExp;rw[if_pos (by exact he)];simp only[ZP,List.drop_one,List.tail_cons];rw[if_neg F,B,if_neg (by rw[QS];omega)];exact Cj 3 hx
 ·rename_i he;have:=CH h;simp only[Prod.mk.injEq]at this;obtain⟨rfl,rfl⟩:=this;refine⟨[],rfl,λx hx=>?_⟩;unfold numExp;rw[ZO,if_neg (B7 hx).2.2.2.2.1];exact Cj _ hx
theorem F9 {k':Nat} {l rest:List UInt8} (h:numFrac l=some (k',rest)):∃pre,l=pre++rest∧∀x,okG x→numFrac (pre++x)=some (k',x):=by
 unfold numFrac at h;split at h
 ·rename_i he;obtain⟨c,o,rfl⟩:∃c o,l=c::o:=by
   cases l with
   | nil=>exact absurd he (by decide)
   | cons c o=>exact⟨c,o,rfl⟩
  rw[List.drop_one,List.tail_cons]at h;rw[BF]at he;obtain⟨B,F,H⟩:=Be o;split at h
  ·cases h
  ·rename_i hne;obtain⟨pre,A,C⟩:=EQ h;refine⟨c::(B++pre),by rw[ZP,ZF,← A,← F],λx hx=>?_⟩;have E:isDigit (hd (pre++x))=false:=Gh (x:=rest) (λc=>isDigit c=false) (by rw[← A];exact Ef o) (B7 hx).2.1;have D:digits (B++(pre++x))=pre++x:=CC H E;have G:B.length≠0:=λe=>hne (by
    have:=congrArg List.length F;rw[QS,e]at this;omega)
   unfold numFrac;have I:(B++(pre++x)).length=B.length+(pre++x).length:=QS;rw[ZP,BF,if_pos he,List.drop_one,List.tail_cons,ZF,D,if_neg (by omega)];exact C x hx
 ·rename_i he;obtain⟨pre,A,C⟩:=EQ h;refine⟨pre,A,λx hx=>?_⟩;unfold numFrac;rw[if_neg (Gh (x:=rest) (λc=>¬c.toNat=46) (by rw[← A];exact he) (B7 hx).2.2.2.1)];exact C x hx
theorem EA {k':Nat} {l rest:List UInt8} (h:number l=some (k',rest)):∃pre,l=pre++rest∧∀x,okG x→number (pre++x)=some (k',x):=by
 have E:∀A:List UInt8,(if (digits A).length=A.length∨((hd A).toNat=48∧1<A.length-(digits A).length) then none else numFrac (digits A))=some (k',rest) →
   ∃o pre,A=o++(pre++rest)∧o≠[]∧∀x,okG x→(if (digits (o++(pre++x))).length=(o++(pre++x)).length∨((hd (o++(pre++x))).toNat=48∧1<(o++(pre++x)).length-(digits (o++(pre++x))).length) then none else numFrac (digits (o++(pre++x))))=some (k',x):=by
  intro A h;split at h
  ·cases h
  ·rename_i hne;obtain⟨o,B,F⟩:=Be A;obtain⟨pre,D,L⟩:=F9 h;have C:o≠[]:=λe=>hne (.inl (by rw[e,ZO]at B;rw[← B]))
   refine⟨o,pre,by rw[← D,← B],C,λx hx=>?_⟩;have I:isDigit (hd (pre++x))=false:=Gh (x:=rest) (λc=>isDigit c=false) (by rw[← D];exact Ef A) (B7 hx).2.1;have G:digits (o++(pre++x))=pre++x:=CC F I;have N:0<o.length:=List.length_pos_iff.2 C;have H:hd (o++(pre++x))=hd A:=by
    cases o with
    | nil=>exact absurd rfl C
    | cons q o=>rw[B];rfl
   have M:A.length-(digits A).length=o.length:=by
    have:=congrArg List.length B;rw[QS]at this;omega
   rw[G,H,if_neg]
   ·exact L x hx
   ·have K:(o++(pre++x)).length=o.length+(pre++x).length:=QS;rw[K];intro hc;rcases hc with hc|⟨hc1,hc2⟩
    ·omega
    ·exact hne (.inr ⟨hc1,by omega⟩)
 unfold number at h;by_cases hm:(hd l).toNat=45
 ·rw[if_pos hm]at h;obtain⟨c,A,rfl⟩:∃c A,l=c::A:=by
   cases l with
   | nil=>exact absurd hm (by decide)
   | cons c A=>exact⟨c,A,rfl⟩
  rw[List.drop_one,List.tail_cons]at h;obtain⟨o,pre,B,F,D⟩:=E A h;refine⟨c::(o++pre),by rw[ZP,ZF,← B],λx hx=>?_⟩;unfold number;have J:c.toNat=45:=hm;rw[ZP,BF,if_pos J,List.drop_one,List.tail_cons,ZF];exact D x hx
 ·rw[if_neg hm]at h;obtain⟨o,pre,B,F,D⟩:=E l h;refine⟨o++pre,by rw[ZF,← B],λx hx=>?_⟩;have H:hd (o++(pre++x))=hd l:=by
   cases o with
   | nil=>exact absurd rfl F
   | cons q o=>rw[B];rfl
  unfold number;rw[ZF,H,if_neg hm];exact D x hx
def word (k:Nat) (T:List UInt8):List UInt8:=if k=4 then quote T else T
def Cv (c:UInt8):Bool:=!isBlank c&&decide (c.toNat≠35)&&decide (c.toNat≠239)
structure Good (k:Nat) (T:List UInt8):Prop where
 tok:∀x,okG x→token (word k T++x)=some (k,T,x)
 stop:Cv (hd (word k T))=true
 ne:word k T≠[]
 val:k=4→valid T=true
def JJ (c:UInt8):Bool:=(!isLetter c||(Cv c&&isWord c))&&(!isDigit c||(Cv c))&&(!signs.contains c||(Cv c&&!isLetter c&&!isDigit c&&decide (c.toNat≠45)&&decide (c.toNat≠34)&&decide (c.toNat≠46)&&decide (c.toNat≠0)))
theorem IE:∀n:Fin 256,JJ (UInt8.ofNat n.val)=true:=by decide +kernel
theorem G2 (c:UInt8):(isLetter c=true→Cv c=true∧isWord c=true)∧(isDigit c=true→Cv c=true)∧(signs.contains c=true→Cv c=true∧isLetter c=false∧isDigit c=false∧c.toNat≠45∧c.toNat≠34∧c.toNat≠46∧c.toNat≠0):=by
 have:=IE ⟨c.toNat,UInt8.toNat_lt c⟩;have C:JJ c=true:=by simpa using this
 unfold JJ at C;simp only[ZB,Bool.or_eq_true,decide_eq_true_eq,Bool.not_eq_true']at C;obtain⟨⟨o,A⟩,B⟩:=C;refine⟨λh=>?_,λh=>?_,λh=>?_⟩
 ·rcases o with o|o
  ·rw[h]at o;cases o
  ·exact o
 ·rcases A with A|A
  ·rw[h]at A;cases A
  ·exact A
 ·rcases B with B|⟨⟨⟨⟨⟨⟨a1,a2⟩,a3⟩,a4⟩,a5⟩,a6⟩,a7⟩
  ·rw[h]at B;cases B
  ·exact⟨a1,a2,a3,a4,a5,a6,a7⟩
theorem Cs (a b:List UInt8):(a++b).take ((a++b).length-b.length)=a:=by
 rw[QS,show a.length+b.length-b.length=a.length by omega,List.take_left]
theorem BS {k:Nat} (h:k≠4) (T:List UInt8):word k T=T:=if_neg h
theorem Jj {l:List UInt8} {k:Nat} {T r:List UInt8} (h:token l=some (k,T,r)):Good k T:=by
 unfold token at h;by_cases c1:isLetter (hd l)=true
 ·rw[if_pos c1]at h;simp only[Option.some.injEq,Prod.mk.injEq]at h;obtain⟨rfl,rfl,rfl⟩:=h;obtain⟨a,G,E⟩:=Cq isWord l
  generalize hr:l.dropWhile isWord=r at *
  subst G;rw[Cs];have D:=(G2 (hd (a++r))).1 c1;have A:a≠[]:=λe=>by
   rw[e,ZO]at hr D;have:=JL isWord (by decide) r;rw[hr]at this;rw[this]at D;cases D.2
  have C:∀x,hd (a++x)=hd (a++r):=λx=>by
   cases a with
   | nil=>exact absurd rfl A
   | cons q a=>rfl
  refine⟨λx hx=>?_,?_,by rw[BS (by decide)];exact A,λe=>by cases e⟩
  ·rw[BS (by decide)];unfold token;rw[C x,if_pos c1,Gp isWord a x E (.inl (B7 hx).2.2.1),Cs]
  ·rw[BS (by decide)];have:=C [];rw[ZN]at this;rw[this];exact D.1
 rw[if_neg c1]at h;by_cases c2:(hd l).toNat=45∨isDigit (hd l)=true
 ·rw[if_pos c2]at h;cases hn:number l with
  | none=>rw[hn]at h;cases h
  | some p =>
   obtain⟨P,rest⟩:=p;rw[hn]at h;simp only[Option.map_some,Option.some.injEq,Prod.mk.injEq]at h;obtain⟨rfl,rfl,rfl⟩:=h;have L:=Df hn;simp only[]at L;obtain⟨o,G,E⟩:=EA hn;subst G;rw[Cs];have A:o≠[]:=λe=>by
    have I:=E [32] (by unfold okG;decide);rw[e,ZO,show number [32]=none from by decide]at I;cases I
   have C:∀x,hd (o++x)=hd (o++rest):=λx=>by
    cases o with
    | nil=>exact absurd rfl A
    | cons q a=>rfl
   have F:word P o=o:=BS (by omega) o;refine⟨λx hx=>?_,?_,by rw[F];exact A,λe=>by omega⟩
   ·rw[F];unfold token;rw[C x,if_neg c1,if_pos c2,E x hx];simp only[Option.map_some];rw[Cs]
   ·rw[F];have:=C [];rw[ZN]at this;rw[this];rcases c2 with c2|c2
    ·have:hd (o++rest)=45:=UInt8.toNat_inj.1 (by rw[c2];rfl);rw[this];decide
    ·exact (G2 _).2.1 c2
 rw[if_neg c2]at h;have B:∀m:List UInt8,V m→Good 4 m:=λm hm=>by
  have J:valid m=true:=KM hm _ (QM _);refine⟨λx hx=>?_,?_,?_,λ_=>J⟩
  ·show token (quote m++x)=_;exact Fz m x J (B7 hx).2.2.2.2.2
  ·show Cv 34=true
   decide
  ·show quote m≠[];unfold quote;simp
 by_cases c3:quotes3 l=true
 ·rw[if_pos c3]at h;cases hb:block [] (l.drop 3) with
  | none=>rw[hb]at h;cases h
  | some p =>
   rw[hb]at h;simp only[Option.map_some,Option.some.injEq,Prod.mk.injEq]at h;obtain⟨rfl,rfl,rfl⟩:=h;exact B _ (JB (Fe _ _ _ _ _ (QM _) .nil hb))
 rw[if_neg c3]at h;by_cases c4:(hd l).toNat=34
 ·rw[if_pos c4]at h;cases hb:text [] (l.drop 1) with
  | none=>rw[hb]at h;cases h
  | some p =>
   rw[hb]at h;simp only[Option.map_some,Option.some.injEq,Prod.mk.injEq]at h;obtain⟨rfl,rfl,rfl⟩:=h;exact B _ (Fa _ _ _ _ _ (QM _) .nil hb)
 rw[if_neg c4]at h;by_cases c5:dots3 l=true
 ·rw[if_pos c5]at h;simp only[Option.some.injEq,Prod.mk.injEq]at h;obtain⟨rfl,rfl,rfl⟩:=h;have e:l.take 3=[46,46,46]:=by simpa [dots3] using c5
  rw[e];refine⟨λx hx=>?_,by decide,by decide,λe=>by cases e⟩;show token (46::46::46::x)=_;unfold token;rw[if_neg (by rw[BF];decide),if_neg (by rw[BF];decide),if_neg (by simp[quotes3]),if_neg (by rw[BF];decide),if_pos (by simp[dots3])];rfl
 rw[if_neg c5]at h;by_cases c6:(hd l).toNat≠0∧signs.contains (hd l)=true
 ·rw[if_pos c6]at h;simp only[Option.some.injEq,Prod.mk.injEq]at h;obtain⟨rfl,rfl,rfl⟩:=h;obtain⟨c,t,rfl⟩:∃c t,l=c::t:=by
   cases l with
   | nil=>exact absurd rfl c6.1
   | cons c t=>exact⟨c,t,rfl⟩
  rw[BF]at c6;obtain⟨Q,N,R,O,H,M,K⟩:=(G2 c).2.2 c6.2;show Good 5 [c];refine⟨λx hx=>?_,by rw[BS (by decide)];exact Q,by rw[BS (by decide)];simp,λe=>by cases e⟩;rw[BS (by decide)];show token (c::x)=_;unfold token;rw[BF,if_neg (by rw[N];simp),if_neg (by rw[R];simp[O]),if_neg,if_neg H,if_neg,if_pos ⟨K,c6.2⟩]
  ·rfl
  ·unfold dots3;rw[decide_eq_true_eq];intro e;simp at e;exact M (by rw[e.1];rfl)
  ·unfold quotes3;rw[decide_eq_true_eq];intro e;simp at e;exact H (by rw[e.1];rfl)
 ·rw[if_neg c6]at h;cases h
end Lx
namespace Lx
theorem Ff:∀(n:Nat) (f:Bool) (l:List UInt8),l.length≤n→(gap f l).1.length≤l.length
 | _,f,[],_=>by rw[gap_nil];exact Nat.zero_le _
 | 0,f,c::t,h=>by simp at h
 | n+1,f,c::t,h=>by
  have o:t.length≤n:=by simpa using h
  cases hb:isBlank c
  ·by_cases hbo:f=true∧bom (c::t)=true
   ·rw[hbo.1,gap_bom hb hbo.2];have:=Ff n false ((c::t).drop 3) (by rw[QY];simp;omega);rw[QY]at this;omega
   ·by_cases h35:c.toNat=35
    ·rw[gap_rem h35];have A:=Er t;have:=Ff n false (remark t).1 (by omega);rw[QO];split
     ·omega
     ·simp only[];omega
    ·rw[gap_stop hb hbo h35];exact QM _
  ·rw[gap_blank hb];have:=Ff n false t o;rw[QO];omega
theorem Cm:∀(n:Nat) (l out m r:List UInt8),l.length≤n→text out l=some (m,r)→m.length≤out.length+4*l.length∧r.length≤l.length
 | _,[],out,m,r,_,h=>by rw[text_nil]at h;cases h
 | 0,c::t,_,_,_,h,_=>by simp at h
 | n+1,c::t,out,m,r,hn,h=>by
  rw[QO]at hn ⊢;by_cases h0:ctl (c::t)
  ·rw[text_bad h0]at h;cases h
  have A:(rune (c::t)).2≠0:=λe=>h0 (.inl e)
  by_cases h1:(rune (c::t)).1=34
  ·rw[text_quote h0 h1]at h;simp at h;rw[← h.1,← h.2];omega
  by_cases h2:(rune (c::t)).1=92
  ·cases he:esc (hd t) with
   | some e =>
    rw[text_esc h0 h2 he]at h;have:=Cm n _ _ m r (by rw[QY];omega) h;rw[QS,List.length_singleton,QY]at this;omega
   | none =>
    by_cases hu:(hd t).toNat=117
    ·cases hx:hex (t.drop 1) with
     | none=>rw[text_nohex h0 h2 he hu hx]at h;cases h
     | some v =>
      by_cases hs:55296≤v∧v<57344
      ·rw[text_sur h0 h2 he hu hx hs]at h;cases h
      ·rw[text_uni h0 h2 he hu hx hs]at h;have:=Cm n _ _ m r (by rw[QY];omega) h;have o:=enc_len v;rw[QS,QY]at this;omega
    ·rw[text_noesc h0 h2 he hu]at h;cases h
  ·rw[text_plain h0 h1 h2]at h;have:=Cm n _ _ m r (by rw[QY,QO];omega) h;have o:=rune_le4 (c::t);rw[QS,QY,ZI,QO]at this;omega
theorem C8:∀(n:Nat) (l out m r:List UInt8),l.length≤n→block out l=some (m,r)→m.length≤out.length+l.length∧r.length≤l.length
 | _,[],out,m,r,_,h=>by rw[block_nil]at h;cases h
 | 0,c::t,_,_,_,h,_=>by simp at h
 | n+1,c::t,out,m,r,hn,h=>by
  rw[QO]at hn ⊢;cases hq:quotes3 (c::t)
  ·by_cases he:c.toNat=92∧quotes3 t=true
   ·rw[block_esc hq he]at h;have C:3≤t.length:=by
     have o:=congrArg List.length (of_decide_eq_true he.2);rw[ZI]at o;simp at o;omega
    have:=C8 n _ _ m r (by rw[QY];omega) h;rw[QS,QY]at this;simp only[QO,QR]at this;omega
   ·by_cases hc:Ij (c::t)
    ·rw[block_bad hq he hc]at h;cases h
    ·rw[block_go hq he hc]at h;have B:(rune (c::t)).2≠0:=λe=>hc (.inl e)
     have:=C8 n _ _ m r (by rw[QY,QO];omega) h;have A:=rune_len (c::t);rw[QS,QY,ZI,QO]at this;rw[QO]at A;omega
  ·rw[block_end hq]at h;simp at h;rw[← h.1,← h.2];simp;omega
theorem Hy {l:List UInt8} {k:Nat} {T r:List UInt8} (h:token l=some (k,T,r)) (hl:l.length≤4096):T.length≤1000000000∧r.length≤l.length:=by
 have o:∀j,(l.take j).length≤4096:=λj=>by rw[ZI];omega
 unfold token at h;split at h
 ·simp only[Option.some.injEq,Prod.mk.injEq]at h;obtain⟨rfl,rfl,rfl⟩:=h;have:=o (l.length-(l.dropWhile isWord).length);exact⟨by omega,dropWhile_le _ _⟩
 split at h
 ·obtain⟨p,B,A⟩:=Option.map_eq_some_iff.1 h;simp only[Prod.mk.injEq]at A;obtain⟨rfl,rfl,rfl⟩:=A;have:=o (l.length-p.2.length);obtain⟨C,e,_⟩:=EA (k':=p.1) (rest:=p.2) B;have D:=congrArg List.length e;rw[QS]at D;exact⟨by omega,by omega⟩
 split at h
 ·obtain⟨p,B,A⟩:=Option.map_eq_some_iff.1 h;simp only[Prod.mk.injEq]at A;obtain⟨rfl,rfl,rfl⟩:=A;have:=C8 _ _ _ p.1 p.2 (QM _) B;rw[QY,QR]at this;exact⟨dedent_len _ (by omega),by omega⟩
 split at h
 ·obtain⟨p,B,A⟩:=Option.map_eq_some_iff.1 h;simp only[Prod.mk.injEq]at A;obtain⟨rfl,rfl,rfl⟩:=A;have:=Cm _ _ _ p.1 p.2 (QM _) B;rw[QY,QR]at this;exact⟨by omega,by omega⟩
 split at h
 ·simp only[Option.some.injEq,Prod.mk.injEq]at h;obtain⟨rfl,rfl,rfl⟩:=h;have:=o 3;exact⟨by omega,by rw[QY];omega⟩
 split at h
 ·simp only[Option.some.injEq,Prod.mk.injEq]at h;obtain⟨rfl,rfl,rfl⟩:=h;have:=o 1;exact⟨by omega,by rw[QY];omega⟩
 ·cases h
theorem lexGo_good:∀(n size:Nat) (l:List UInt8) (out ts:List Tok),l.length≤4096→lexGo size n l out=.ok ts→∃pre,ts=out++pre++[⟨0,[],size⟩]∧∀t∈pre,Good t.kind t.text∧t.text.length≤1000000000
 | 0,size,l,out,ts,_,h=>by simp[lexGo]at h
 | n+1,size,l,out,ts,hl,h=>by
  have C:=Ff l.length (decide (l.length=size)) l (QM _);rw[lexGo]at h;split at h
  ·cases h
  split at h
  ·refine⟨[],?_,by simp⟩;rw[ZN];exact (Res.ok.inj h).symm
  split at h
  ·cases h
  rename_i k T rest htok;split at h
  ·cases h
  obtain⟨o,D⟩:=Hy htok (by omega);obtain⟨pre,A,B⟩:=lexGo_good n size rest _ ts (by omega) h;refine⟨⟨k,T,size-(gap (decide (l.length=size)) l).1.length⟩::pre,by rw[A];simp,λt ht=>?_⟩;rcases List.mem_cons.1 ht with rfl|ht
  ·exact⟨Jj htok,o⟩
  ·exact B t ht
end Lx
namespace Lx
structure Wd where
 g:List UInt8
 k:Nat
 T:List UInt8
 w:List UInt8
structure LX (x:Wd) (l:List UInt8):Prop where
 blank:∀c∈x.g,isBlank c=true
 stop:Cv (hd x.w)=true
 ne:x.w≠[]
 tok:token (x.w++l)=some (x.k,x.T,l)
end Lx
end Go.Proofs.YtedeapbonbbacaaGreatDoor
namespace Go.Proofs.YtedeapbonbbacaaGreatDoor
set_option linter.unusedSimpArgs false
set_option linter.unusedVariables false
open Go Go.RowKit
section
variable {P : Program} {ops : Array Oper} {md : Region.Mode} {C : World → Prop}
structure LC (ops:Array Oper) (k:Nat) (listed:Array Bool):Prop where
 size:listed.size=ops.size
 yes:∀j,j<k→j<ops.size→listed.getD j false=true
 no:∀j,k≤j→j<ops.size→listed.getD j true=false
theorem LC.set {k:Nat} {listed:Array Bool} (h:LC ops k listed) (hk:k<ops.size):LC ops (k+1) (listed.setIfInBounds k true) :=
 ⟨by simp[h.size],λj hj hj'=>by
  by_cases e:k=j
  ·subst e;simp[h.size,hk]
  ·rw[getD_set_ne false e];exact h.yes j (by omega) hj',λj hj hj'=>by rw[getD_set_ne true (by omega)];exact h.no j (by omega) hj'⟩
def sinkB (md:Region.Mode) (ops:Array Oper) (k n:Nat):Bool :=
 ((List.range n).all λi=>decide (i<k)||(List.range (n+1)).any λj=>decide (i<j)&&Region.waitsFor md ops j i) &&
 ((List.range ops.size).all λt=>decide (t≤n)||(List.range t).any λj=>decide (n≤j)&&Region.waitsFor md ops t j)
structure Seg (md:Region.Mode) (ops:Array Oper) (k n:Nat) (listed:Array Bool):Prop where
 size:listed.size=ops.size
 below:∀j,j<k→j<ops.size→listed.getD j false=true
 closed:∀j oj,ops[j]?=some oj→listed.getD j false=true→∀e∈oj.after,Region.binds md e=true→listed.getD e.on false=true
 tail:∀t,n≤t→t<ops.size→listed.getD t true=false
theorem Seg.set {k n i:Nat} {listed:Array Bool} (inv:Seg md ops k n listed) (hi:i∈Region.ready md ops listed) (hin:i<n):Seg md ops k n (listed.setIfInBounds i true):=by
 obtain⟨_,B,A,o⟩:=mem_ready.1 hi;refine⟨by simp[inv.size],λj hj hj'=>getD_set_true (inv.below j hj hj'),λj oj hj hl e he hb=>?_,λt ht ht'=>by rw[getD_set_ne true (by omega)];exact inv.tail t ht ht'⟩;by_cases hij:i=j
 ·subst hij;have:oj=B:=Option.some.inj (hj.symm.trans A);subst this;exact getD_set_true (o e he hb)
 ·rw[getD_set_ne false hij]at hl;exact getD_set_true (inv.closed j oj hj hl e he hb)
theorem Es {k n:Nat} {listed:Array Bool} (hs:sinkB md ops k n=true) (hn:n<ops.size) (inv:Seg md ops k n listed) :
  ∀(d i:Nat),n-i=d→i<n→listed.getD i true=false→∀t,n≤t→t ∉ Region.ready md ops listed:=by
 simp only[sinkB,ZB]at hs;intro d
 induction d using Nat.strongRecOn with
 | _ d ih =>
  intro i hd hi hun t ht hr;obtain⟨_,O,E,C⟩:=mem_ready.1 hr;have F:t<ops.size:=(Array.getElem?_eq_some_iff.1 E).1;by_cases htn:t=n
  ·subst htn;have o:=ZL.1 hs.1 i (List.mem_range.2 hi);simp only[Bool.or_eq_true,decide_eq_true_eq]at o;rcases o with o|o
   ·have:=inv.below i o (by omega);rw[getD_both hun]at this;cases this
   ·obtain⟨j,K,A⟩:=List.any_eq_true.1 o;simp only[ZB,decide_eq_true_eq]at A;obtain⟨P,H,e,J,I,B⟩:=Region.waitsFor_spec A.2;have N:j≤t:=by have:=List.mem_range.1 K;omega
    by_cases G:j=t
    ·subst G;have:P=O:=Option.some.inj (H.symm.trans E);subst this;have D:=C e J I;rw[B,getD_both hun]at D;cases D
    ·cases hl:listed.getD j false with
     | true =>
      have D:=inv.closed j P H hl e J I;rw[B,getD_both hun]at D;cases D
     | false =>
      have L:j<listed.size:=by rw[inv.size];omega
      exact ih (t-j) (by omega) j rfl (by omega) (getD_in L hl) t (QM _) hr
  ·have o:=ZL.1 hs.2 t (List.mem_range.2 F);simp only[Bool.or_eq_true,decide_eq_true_eq]at o;rcases o with o|o
   ·omega
   ·obtain⟨j,K,A⟩:=List.any_eq_true.1 o;simp only[ZB,decide_eq_true_eq]at A;obtain⟨Q,M,e,J,I,B⟩:=Region.waitsFor_spec A.2;have:Q=O:=Option.some.inj (M.symm.trans E);subst this;have D:=C e J I;have G:=List.mem_range.1 K;rw[B,getD_both (inv.tail j (by omega) (by omega))]at D;cases D
def ER (P:Program) (md:Region.Mode) (ops:Array Oper) (C:World→Prop) (n:Nat) (L:Array Bool→Act→Prop):Nat→Array Bool→Act→Prop
 | 0,listed,a=>L listed a
 | f+1,listed,a =>
  Region.ready md ops listed≠[]∧∀i∈Region.ready md ops listed,i<n∧qOp P ops C i (ER P md ops C n L f (listed.setIfInBounds i true)) a
theorem EJ {n g:Nat} {L:Array Bool→Act→Prop} {Q':Exit→Act→World→Prop} (hL:∀listed a w,C w→L listed a→wpAny P md ops Q' g listed a w) :
  ∀(f:Nat) (listed:Array Bool) (a:Act) (w:World),C w→ER P md ops C n L f listed a→wpAny P md ops Q' (f+g) listed a w
 | 0,listed,a,w,hw,h=>by rw[Nat.zero_add];exact hL _ _ _ hw h
 | f+1,listed,a,w,hw,h=>by
  rw[show f+1+g=(f+g)+1 by omega];exact⟨λh0=>absurd h0 h.1,λi hi=>wpOp_of_qOp hw (λa' w' hw' h'=>EJ hL f _ a' w' hw' h') (h.2 i hi).2⟩
theorem FP {k n i:Nat} {oi:Oper} {v:Value} {L:Array Bool→Act→Prop} (hi:ops[i]?=some oi) (hsel:∀(j:Nat) (o:Oper) cs b,ops[j]?=some o→o.op≠.select cs b)
  (hs:sinkB md ops k n=true) (hn:n<ops.size) (hin:i<n)
  (hdone:∀listed a,L listed a→∀j∈Region.ready md ops listed,n≤j) :
  ∀(f:Nat) (listed:Array Bool) (a:Act),Seg md ops k n listed →
   (∀j oj,ops[j]?=some oj→j≠i→listed.getD j true=false→(∀e∈oj.after,Region.binds md e=true→e.on≠i)→oi.apart ops oj=true) →
   i∈Region.ready md ops listed→YieldsIn P ops C oi v a →
   ER P md ops C n L f (listed.setIfInBounds i true) (a.put oi.dst v)→ER P md ops C n L (f+1) listed a:=by
 intro f
 induction f with
 | zero =>
  intro listed a inv _ hr hy H;have A:=(mem_ready.1 hr).1;refine⟨λh=>(by rw[h]at hr;cases hr),λj hj=>?_⟩;have D:j<n:=by
   rcases ZV j n with h|h
   ·exact h
   ·exact absurd hj (Es hs hn inv _ i rfl hin A j h)
  refine⟨D,?_⟩;by_cases hji:j=i
  ·subst hji;exact hy.qOp hi H
  ·have:=hdone _ _ H j (ready_mono hj hji);omega
 | succ f ih =>
  intro listed a inv hfree hr hy H;have A:=(mem_ready.1 hr).1;refine⟨λh=>(by rw[h]at hr;cases hr),λj hj=>?_⟩;have D:j<n:=by
   rcases ZV j n with h|h
   ·exact h
   ·exact absurd hj (Es hs hn inv _ i rfl hin A j h)
  refine⟨D,?_⟩;by_cases hji:j=i
  ·subst hji;exact hy.qOp hi H
  ·have J:=(H.2 j (ready_mono hj hji)).2;obtain⟨E,oj,F,I⟩:=mem_ready.1 hj;have G:∀e∈oj.after,Region.binds md e=true→e.on≠i:=λe he hb heq=>by
    have J:=I e he hb;rw[heq,getD_both A]at J;cases J
   have K:=qOp_put F (hfree j oj F hji E G) (λcs b=>hsel i oi cs b hi) (λcs b=>hsel j oj cs b F) hy J;have B:∀k ok,ops[k]?=some ok→k≠i→(listed.setIfInBounds j true).getD k true=false →
     (∀e∈ok.after,Region.binds md e=true→e.on≠i)→oi.apart ops ok=true:=λk ok hk hki A hno=>by
    refine hfree k ok hk hki ?_ hno;by_cases hjk:j=k
    ·subst hjk;exact E
    ·rw[getD_set_ne true hjk]at A;exact A
   refine qOp_mono (λa' h3=>ih (listed.setIfInBounds j true) a' (inv.set hj D) B (ready_mono hr (Ne.symm hji)) h3.1 ?_) K;rw[Array.setIfInBounds_comm _ _ hji];exact h3.2
def Jy (md:Region.Mode) (ops:Array Oper):Nat→Nat→Array Bool→Bool
 | 0,_,_=>true
 | f+1,k,listed=>(Region.ready md ops listed).contains k&&Region.free md ops listed k&&Jy md ops f (k+1) (listed.setIfInBounds k true)
def As (m k:Nat):Array Bool:=(Array.range m).map λj=>decide (j<k)
theorem EU (m k:Nat):(As m k).size=m:=by simp[As]
theorem CS (m k j:Nat) (h:j<m) (d:Bool):(As m k).getD j d=decide (j<k):=by simp[As,h]
theorem DT (m k:Nat) (_h:k<m):(As m k).setIfInBounds k true=As m (k+1):=by
 apply Array.ext
 ·simp[As]
 ·intro i h1 h2;have hi:i<m:=by simpa [As] using h2
  have o:i<(As m k).size:=by rw[EU];exact hi
  rw[Array.getElem_setIfInBounds o];simp only[As,Array.getElem_map,Array.getElem_range];split<;>simp<;>omega
theorem Gg (m:Nat):Array.replicate m false=As m 0:=by
 apply Array.ext<;>simp[As]
def Iu (md:Region.Mode) (ops:Array Oper):Bool:=(List.range ops.size).all λj=>match ops[j]? with
 | some oj=>oj.after.all λe=>!Region.binds md e||decide (e.on<j)
 | none=>true
theorem Ie {k n:Nat} (hb:Iu md ops=true) (hkn:k≤n):Seg md ops k n (As ops.size k):=by
 refine⟨EU _ _,λj hj hj'=>by rw[CS _ _ _ hj'];simpa using hj,λj oj hj hl e he hbd=>?_,λt ht ht'=>by rw[CS _ _ _ ht'];simp;omega⟩;have o:j<ops.size:=(Array.getElem?_eq_some_iff.1 hj).1;rw[CS _ _ _ o]at hl;have A:=ZL.1 hb j (List.mem_range.2 o);simp only[hj]at A;have B:=Array.all_eq_true_iff_forall_mem.1 A e he;simp only[Bool.or_eq_true,Bool.not_eq_true',decide_eq_true_eq,hbd,Bool.true_eq_false,false_or]at B;have:j<k:=by simpa using hl
 rw[CS _ _ _ (by omega)];simp;omega
theorem EP {k0 n:Nat} {Lq:Act→Prop} (hsel:Region.noSelect ops=true) (hs:sinkB md ops k0 n=true) (hn:n<ops.size) (hdone:∀j∈Region.ready md ops (As ops.size n),n≤j) :
  ∀(l:List Oper) (k:Nat) (a:Act),(∀j,j<l.length→l[j]?=ops[k+j]?)→k+l.length=n→Seg md ops k0 n (As ops.size k) →
  Jy md ops l.length k (As ops.size k)=true→wpQuiet P ops C Lq l a →
  ER P md ops C n (λlisted' a'=>listed'=As ops.size n∧Lq a') l.length (As ops.size k) a
 | [],k,a,_,hk,_,_,h=>by
  have:k=n:=by simpa using hk
  subst this;exact⟨rfl,h⟩
 | o::l,k,a,hl,hk,inv,hB,h=>by
  have F:ops[k]?=some o:=by simpa using (hl 0 (by simp)).symm
  simp only[QO,Jy,ZB]at hB;obtain⟨⟨I,J⟩,D⟩:=hB;have E:k<n:=by simp only[QO]at hk;omega
  have B:k∈Region.ready md ops (As ops.size k):=by simpa using I
  have G:qOp P ops C k (wpQuiet P ops C Lq l) a:=by unfold qOp;simp only[F];exact h
  obtain⟨v,K,H⟩:=yieldsIn_of_qOp F G;have A:=inv.set B E;rw[DT _ _ (by omega)]at A D;refine FP F (Region.noSelect_spec hsel) hs hn E (λlisted' a' hL=>by rw[hL.1];exact hdone) l.length (As ops.size k) a inv (Region.free_spec F J) B K ?_;rw[DT _ _ (by omega)];exact EP hsel hs hn hdone l (k+1) _ (λj hj=>by have:=hl (j+1) (by simp;omega);simpa [Nat.add_assoc,Nat.add_comm 1 j] using this) (by simp only[QO]at hk;omega) A D H
def BM (P:Program) (l:List Oper) (Q:Exit→Act→World→Prop):List Nat→Nat→Act→World→Prop
 | [],k,a,w=>wpQuiet P l.toArray (λw'=>∃n,w'=w.drewN n) (λa'=>∀w',(∃n,w'=w.drewN n)→Q .normal a' w') (l.drop k) a
 | n::ns,k,a,w=>wpQuiet P l.toArray (λw'=>∃n,w'=w.drewN n) (λa'=>∀w',(∃n,w'=w.drewN n) →
   wpList P l.toArray (Exit.then (BM P l Q ns (n+1)) Q) ((l.drop n).take 1) a' w') ((l.drop k).take (n-k)) a
def JY (md:Region.Mode) (ops:Array Oper):List Nat→Nat→Bool
 | [],k=>Region.lexFrom md ops (ops.size-k) k (As ops.size k)
 | n::ns,k=>decide (k≤n)&&decide (n<ops.size)&&sinkB md ops k n&&Jy md ops (n-k) k (As ops.size k)&&decide (Region.ready md ops (As ops.size n)=[n])&&JY md ops ns (n+1)
def Kc (md:Region.Mode) (ops:Array Oper) (ns:List Nat):Bool:=Region.noSelect ops&&Iu md ops&&JY md ops ns 0
theorem C6 {l:List Oper} {Q:Exit→Act→World→Prop} (hsel:Region.noSelect l.toArray=true) (hb:Iu md l.toArray=true) :
  ∀(ns:List Nat) (k:Nat) (a:Act) (w:World),JY md l.toArray ns k=true→k≤l.length→BM P l Q ns k a w→∀w',(∃n,w'=w.drewN n) →
   wpAny P md l.toArray Q (l.length-k) (As l.length k) a w'
 | [],k,a,w,hB,hk,h,w',hw'=>by
  refine wpAny_of_quiet (C:=λw'=>∃n,w'=w.drewN n) (Q:=λa'=>∀w',(∃n,w'=w.drewN n)→Q .normal a' w') (λ_ w' hw' h=>h w' hw') _ _ _ _ hw' ?_;have U:(l.drop k).length=l.length-k:=by simp
  have:=wpAnyQ_lex (P:=P) (C:=λw'=>∃n,w'=w.drewN n) (md:=md) (Q:=λa'=>∀w',(∃n,w'=w.drewN n)→Q .normal a' w') hsel (l.drop k) k (As l.length k) a (λj=>by simp[List.getElem?_drop]) (by
   rw[U];simpa [JY] using hB) h
  rwa [U]at this
 | n::ns,k,a,w,hB,hk,h,w',hw'=>by
  simp only[JY,ZB,decide_eq_true_eq,List.size_toArray]at hB;obtain⟨⟨⟨⟨⟨I,F⟩,D⟩,W⟩,V⟩,M⟩:=hB;have A:((l.drop k).take (n-k)).length=n-k:=by simp;omega
  have H:=EP (P:=P) (C:=λw'=>∃n,w'=w.drewN n) (md:=md) hsel D (by simpa using F) (by
    intro j hj;rw[List.size_toArray,V]at hj;simp at hj;omega) ((l.drop k).take (n-k)) k a (λj hj=>by
    rw[A]at hj;simp[List.getElem?_drop,hj]) (by rw[A];omega)
   (by exact Ie hb I) (by rw[A];simpa using W) h
  rw[A]at H;have:=EJ (P:=P) (C:=λw'=>∃n,w'=w.drewN n) (md:=md) (Q':=Q) (g:=l.length-n) (λlisted a' w1 hw1 hL=>by
   obtain⟨T,S⟩:=hL;rw[T];have o:=S w1 hw1;rw[show l.length-n=(l.length-(n+1))+1 by omega];have G:Region.ready md l.toArray (As l.toArray.size n)=[n]:=by simpa using V
   refine⟨λh0=>(by rw[G]at h0;cases h0),λi hi=>?_⟩;rw[G]at hi;have R:i=n:=by simpa using hi
   subst R;have E:l.toArray[i]?=some l[i]:=by simp[F]
   have B:(l.drop i).take 1=[l[i]]:=by rw[ZC F,List.take_succ_cons,List.take_zero]
   rw[B]at o;unfold wpOp;simp only[E];rw[List.size_toArray,DT _ _ F];have K:∀a2 w2,BM P l Q ns (i+1) a2 w2→wpAny P md l.toArray Q (l.length-(i+1)) (As l.length (i+1)) a2 w2:=λa2 w2 h2 =>
    C6 hsel hb ns (i+1) a2 w2 M F h2 w2 ⟨0,rfl⟩
   unfold wpList at o;split
   ·rename_i hwant;rw[if_pos hwant]at o;refine o.imp (λD=>?_) (λD=>⟨D.1,?_⟩)
    ·have J:=Oper.wp_mono (Q:=Exit.then (BM P l Q ns (i+1)) Q) (K':=wpAny P md l.toArray Q (l.length-(i+1)) (As l.length (i+1))) (λa w h=>K a w h) D;unfold Oper.wp at *
     generalize (execOp a'.eval l[i]).run P w1=r at *
     cases r with
     | ok nx w2 =>
      cases nx with
      | enter f args =>
       exact Calls.mono J λe w3 h3=>by cases e<;>first|exact h3|(obtain⟨O,L,N⟩:=h3;exact⟨O,L,N⟩)
      | _=>exact J
     | halt x w2=>cases x<;>exact J
    ·obtain⟨O,L,N⟩:=D.2;exact⟨O,L,N⟩
   ·rename_i hwant;rw[if_neg hwant]at o;exact K _ _ o) _ _ _ _ hw' H
  rw[show n-k+(l.length-n)=l.length-k by omega]at this;exact this
theorem AO {id:Nat} {Q:Exit→Act→World→Prop} {a:Act} {w:World} {l:List Oper} (ns:List Nat) (hm:P.follows .mixedOrders=true) (hB:Kc .any l.toArray ns=true)
  (h:BM P l Q ns 0 a w):(Code.region id l.toArray true).wp P Q a w:=by
 simp only[Kc,ZB]at hB;obtain⟨⟨o,A⟩,hB⟩:=hB;refine wp_region_any hm ?_;rw[Gg];have:=C6 (P:=P) (md:=.any) (Q:=Q) o A ns 0 a w hB (Nat.zero_le _) h { w with drawn:=w.drawn+1 } ⟨1,rfl⟩
 simpa using this
end
def Later (w:World):Type:={ w':World // Below w.heap.size w w' }
instance Later.nonempty (w : World) : Nonempty (Later w) := ⟨⟨w, Below.refl _ _⟩⟩
theorem Later.cell {w:World} {p:Addr} {v:Value} (h:w.cell? p=some v) (x:Later w):x.1.cell? p=some v:=by
 have o:p.block<w.heap.size:=by
  unfold World.cell? at h;rcases ZV p.block w.heap.size with h'|h'
  ·exact h'
  ·simp[Array.getElem?_eq_none h']at h
 rw[x.2.cell o];exact h
theorem Later.call {P:Program} {f:FuncId} {args:Array Value} {w:World} {x:Later w} {v:Value}
  (h:Calls P f args x.1 λe w'=>e=.returned v∧Below x.1.heap.size x.1 w'):Calls P f args x.1 λe w''=>e=.returned v∧∃y:Later w,w''=y.1 :=
 h.mono λ_ _ ⟨he,hb⟩=>⟨he,⟨_,x.2.trans (hb.mono x.2.size)⟩,rfl⟩
theorem Aj {P:Program} {id:Nat} {Q:Exit→Act→World→Prop} {a:Act} {w:World} {l:List Oper} (hm:P.follows .mixedOrders=true) (hB:Region.lexB .any l.toArray=true)
  (h:wpQuiet P l.toArray (λw'=>∃x:Later w,w'=x.1) (λa'=>∀w',(∃x:Later w,w'=x.1)→Q .normal a' w') l a):(Code.region id l.toArray true).wp P Q a w :=
 wp_region_quiet (C:=λw'=>∃x:Later w,w'=x.1) hm hB ⟨⟨{ w with drawn:=w.drawn+1 },⟨rfl,rfl,rfl,QM _,λ_ _=>rfl⟩⟩,rfl⟩ (by simpa using h)
end Go.Proofs.YtedeapbonbbacaaGreatDoor
