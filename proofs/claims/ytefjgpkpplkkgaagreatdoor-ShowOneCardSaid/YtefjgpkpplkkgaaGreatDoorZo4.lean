/-
  Base words of our own: bytes of a string, endings, the frame of a call that writes one old block alone. Where the tokens stand in the text. A token stands by itself: laid Bq other gaps it is the same token (no program in sight). Tokens with other gaps Bq are the same tokens (no program in sight). A text of words and blanks: its tokens (no program in sight). The lexer on two texts with a line's end Bq: the tokens of the one, then of the other (no program in sight). Numbers with a sign, a blank or nothing behind them; a text that is one token (no program in sight). Selection sets and lists in one another, plain: what 'Parse' answers (no program in sight). The reader, plain: which tokens are eaten, and where what is read stands (no program in sight). The reader of types, plain: where what is read stands, and what is so of it (no program in sight).
-/
import Derived.Test.YtefjgpkpplkkgaaGreatDoorProg
import Derived.WalkKit
import Derived.WalkLawsBesides
import Derived.WalkSpells
import Derived.BigQuiet
import Derived.Deep.QuietTactic
import Derived.StillTailTactics
import Derived.Lib.Hide
import Derived.Test.YtefjgpkpplkkgaaGreatDoorZo1
import Derived.Test.YtefjgpkpplkkgaaGreatDoorZo3
import Derived.Test.YtefjgpkpplkkgaaGreatDoorZo2
open Bool renaming and_eq_true → ZF
open List renaming length_cons → QO, length_nil → QS, length_append → QU, length_drop → ZD, append_assoc → ZJ, getElem?_eq_getElem → ZL, length_take → ZM, append_nil → ZR, nil_append → ZS, cons_append → ZT, eq_nil_of_length_eq_zero → JB
open Nat renaming le_refl → QM, le_trans → QR
namespace Go.Proofs.YtefjgpkpplkkgaaGreatDoor
set_option maxRecDepth 100000
set_option linter.unusedSimpArgs false
set_option linter.unusedVariables false
open Go Go.RowKit
theorem FG {a b:Bool} (h:a=b):Ending.returned (.bool a)=.returned (.bool b):=by rw[h]
theorem J5 {k:IntKind} {a b:Int} (h:a=b):Ending.returned (.int k a)=.returned (.int k b):=by rw[h]
def bt (s:ByteArray) (n:Nat):UInt8:=s.data.toList.getD n 0
def sfx (s:ByteArray) (n:Nat):List UInt8:=s.data.toList.drop n
theorem ON (s:ByteArray) (n:Nat):(bt s n).toNat<256:=UInt8.toNat_lt _
theorem I4 (s:ByteArray) (n:Nat) (h:n<s.size):s[n]'h=bt s n:=by
 have o:n<s.data.toList.length:=by simpa using h
 show s.data[n]'h=_;unfold bt;rw[List.getD_eq_getElem?_getD,ZL o];simp
theorem AR (s:ByteArray) (n:Nat):(sfx s n).length=s.size-n:=by unfold sfx;simp
theorem C1 (s:ByteArray):sfx s 0=s.data.toList:=by simp[sfx]
theorem CF (s:ByteArray) (n:Nat) (h:s.size≤n):sfx s n=[]:=by
 have:=AR s n;exact JB (by omega)
theorem Ar (s:ByteArray) (n:Nat) (h:n<s.size):sfx s n=bt s n::sfx s (n+1):=by
 unfold sfx bt;have o:n<s.data.toList.length:=by simpa using h
 rw[List.drop_eq_getElem_cons o,List.getD_eq_getElem?_getD,ZL o];simp
theorem Aj (s:ByteArray) (n k:Nat):(sfx s n).drop k=sfx s (n+k):=by simp[sfx,List.drop_drop]
theorem bt_end (s:ByteArray) (n:Nat) (h:s.size≤n):bt s n=0:=by
 unfold bt;rw[List.getD_eq_getElem?_getD,List.getElem?_eq_none (by simpa using h)];rfl
theorem Hn (s:ByteArray) (n k:Nat):(sfx s n).getD k 0=bt s (n+k):=by
 unfold sfx bt;simp[List.getD_eq_getElem?_getD,List.getElem?_drop]
@[go_sem high] theorem NO {P : Program} (w : World) (t : TypeId) (s : ByteArray) (k : IntKind) (i : Int) (h : P.underlying t = some .string) :
  (Instr.index t (.string s) (.int k i)).run P w=if 0≤i∧i<s.size then .ok (.int .u8 (bt s i.toNat).toNat) w else (boundsPanic k i s.size .index).run P w:=by
 rw[run_index_string w t s k i h]
 by_cases hi:0≤i∧i<s.size
 ·rw[dif_pos hi,if_pos hi,I4]
 ·rw[dif_neg hi,if_neg hi]
structure But (X:Nat→Prop) (w w':World):Prop where
 os:w'.os=w.os
 tape:w'.tape=w.tape
 output:w'.output=w.output
 size:w.heap.size≤w'.heap.size
 block:∀k,k<w.heap.size→¬X k→w'.heap[k]?=w.heap[k]?
theorem But.refl (X:Nat→Prop) (w:World):But X w w:=⟨rfl,rfl,rfl,QM _,λ_ _ _=>rfl⟩
theorem But.trans {X:Nat→Prop} {a b c:World} (h:But X a b) (k:But X b c):But X a c :=
 ⟨k.os.trans h.os,k.tape.trans h.tape,k.output.trans h.output,QR h.size k.size,
  λi hi hx=>(k.block i (Nat.lt_of_lt_of_le hi h.size) hx).trans (h.block i hi hx)⟩
theorem But.mono {X Y:Nat→Prop} {w w':World} (h:But X w w') (hxy:∀k,k<w.heap.size→X k→Y k):But Y w w' :=
 ⟨h.os,h.tape,h.output,h.size,λk hk hy=>h.block k hk (λhx=>hy (hxy k hk hx))⟩
theorem But.drewN {X:Nat→Prop} {a w:World} (h:But X a w) (n:Nat):But X a (w.drewN n) :=
 h.trans ⟨rfl,rfl,rfl,QM _,λ_ _ _=>rfl⟩
theorem But.drew {X:Nat→Prop} {a w:World} (h:But X a w):But X a w.drew :=
 h.trans ⟨rfl,rfl,rfl,QM _,λ_ _ _=>rfl⟩
theorem But.alloc {X:Nat→Prop} {a w:World} (h:But X a w) (o:Obj):But X a (w.alloc o) :=
 h.trans ⟨rfl,rfl,rfl,by simp,λk hk _=>Below.heap_alloc _ _ _ hk⟩
theorem But.setCell {X:Nat→Prop} {a w:World} (h:But X a w) {p:Addr} (hp:X p.block∨a.heap.size≤p.block) (u:Value):But X a (w.setCell p u) :=
 ⟨h.os,h.tape,h.output,by have:=h.size;simpa [World.setCell] using this,
  λk hk hx=>by rw[Below.heap_setCell _ _ _ _ (λe=>by subst e;rcases hp with hp|hp;exact hx hp;omega)];exact h.block k hk hx⟩
theorem But.of_below {X:Nat→Prop} {w w':World} (h:Below w.heap.size w w'):But X w w' :=
 ⟨h.os,h.tape,h.output,h.size,λk hk _=>h.block k hk⟩
theorem But.below {w w':World} (h:But (λ_=>False) w w'):Below w.heap.size w w' :=
 ⟨h.os,h.tape,h.output,h.size,λk hk=>h.block k hk (λhf=>hf)⟩
theorem But.cell {X:Nat→Prop} {w w':World} (h:But X w w') {p:Addr} (hp:p.block<w.heap.size) (hx:¬X p.block):w'.cell? p=w.cell? p :=
 World.cell?_of_block (w:=w) (h.block p.block hp hx)
theorem But.frozen {X:Nat→Prop} {w w':World} (h:But X w w') {p:Addr} (hp:p.block<w.heap.size) (hx:¬X p.block):w'.frozen? p=w.frozen? p :=
 World.frozen?_of_block (w:=w) (h.block p.block hp hx)
theorem Below.drewN {B:Nat} {a w:World} (h:Below B a w) (n:Nat):Below B a (w.drewN n):=h.trans ⟨rfl,rfl,rfl,QM _,λ_ _=>rfl⟩
theorem Below.undrew {w w':World} {n:Nat} (h:Below (w.drewN n).heap.size (w.drewN n) w'):Below w.heap.size w w':=⟨h.os,h.tape,h.output,h.size,h.block⟩
theorem But.undrew {X:Nat→Prop} {w w':World} {n:Nat} (h:But X (w.drewN n) w'):But X w w':=⟨h.os,h.tape,h.output,h.size,h.block⟩
theorem eqF {n:Nat} {k:Int} (h:(n:Int)≠k):((n:Int)==k)=false:=by rw[beq_eq_false_iff_ne];exact h
theorem eqT {n:Nat} {k:Int} (h:(n:Int)=k):((n:Int)==k)=true:=by rw[beq_iff_eq];exact h
theorem neF {n:Nat} {k:Int} (h:(n:Int)=k):((n:Int) != k)=false:=by simp[h]
theorem neT {n:Nat} {k:Int} (h:(n:Int)≠k):((n:Int) != k)=true:=by simp[h]
def IL (t:Lx.Tok):Nat:=if t.kind=4 then t.at_+1 else t.at_+t.text.length
structure Fw (s:ByteArray) (p:Nat) (t:Lx.Tok):Prop where
 k1:1≤t.kind
 k5:t.kind≤5
 lo:p≤t.at_
 hi:t.at_<s.size
 quote:t.kind=4→bt s t.at_=34
 pos:t.kind≠4→0<t.text.length
 fits:t.kind≠4→t.at_+t.text.length≤s.size
 same:t.kind≠4→t.text=(sfx s t.at_).take t.text.length
def Ce (s:ByteArray):Nat→List Lx.Tok→Nat→Prop
 | p,[],q=>p≤q
 | p,t::ts,q=>Fw s p t∧Ce s (IL t) ts q
theorem Ce.mono {s:ByteArray}:∀{ts:List Lx.Tok} {p q q':Nat},Ce s p ts q→q≤q'→Ce s p ts q'
 | [],_,_,_,h,hq=>QR h hq
 | _::ts,_,_,_,h,hq=>⟨h.1,Ce.mono h.2 hq⟩
theorem Fw.mono {s:ByteArray} {p p':Nat} {t:Lx.Tok} (h:Fw s p t) (hp:p'≤p):Fw s p' t:={ h with lo:=QR hp h.lo }
theorem Ce.snoc {s:ByteArray}:∀{ts:List Lx.Tok} {p q q':Nat} {t:Lx.Tok},Ce s p ts q→Fw s q t→IL t≤q'→Ce s p (ts++[t]) q'
 | [],_,_,_,_,h,ht,hq=>⟨ht.mono h,hq⟩
 | _::ts,_,_,_,_,h,ht,hq=>⟨h.1,Ce.snoc h.2 ht hq⟩
theorem Cj {l:List UInt8} {r:Nat×List UInt8} (h:Lx.number l=some r):r.1=2∨r.1=3:=by
 have A:∀(x y:Nat×List UInt8),Lx.numEnd x=some y→y=x:=by
  intro x y h;unfold Lx.numEnd at h;split at h
  ·cases h
  ·exact (Option.some.inj h).symm
 have o:∀(x y:Nat×List UInt8),Lx.numExp x=some y→y.1=x.1∨y.1=3:=by
  intro x y h;unfold Lx.numExp at h;split at h
  ·dsimp only at h
   repeat' split at h
   all_goals first|exact .inr (by rw[A _ _ h])|cases h
  ·exact .inl (by rw[A _ _ h])
 have B:∀(x:List UInt8) (y:Nat×List UInt8),Lx.numFrac x=some y→y.1=2∨y.1=3:=by
  intro x y h;unfold Lx.numFrac at h;split at h
  ·split at h
   ·cases h
   ·rcases o _ _ h with e|e
    ·exact .inr e
    ·exact .inr e
  ·rcases o _ _ h with e|e
   ·exact .inl e
   ·exact .inr e
 unfold Lx.number at h
 dsimp only at h
 repeat' split at h
 all_goals first|exact B _ _ h|cases h
theorem Ia {l:List UInt8} {k:Nat} {T r:List UInt8} (h:Lx.token l=some (k,T,r)) (hl:0<l.length) :
  (k=4∧Lx.hd l=34)∨(k≠4∧T=l.take (l.length-r.length)):=by
 unfold Lx.token at h;split at h
 ·simp only[Option.some.injEq,Prod.mk.injEq]at h;obtain⟨rfl,rfl,rfl⟩:=h;exact .inr ⟨by decide,rfl⟩
 split at h
 ·obtain⟨p,A,o⟩:=Option.map_eq_some_iff.1 h;simp only[Prod.mk.injEq]at o;obtain⟨rfl,rfl,rfl⟩:=o;refine .inr ⟨?_,rfl⟩;rcases Cj A with e|e<;>rw[e]<;>decide
 split at h
 ·rename_i hq;obtain⟨p,A,o⟩:=Option.map_eq_some_iff.1 h;simp only[Prod.mk.injEq]at o;refine .inl ⟨o.1.symm,?_⟩;cases l with
  | nil=>simp at hl
  | cons c t =>
   unfold Lx.quotes3 at hq;have:=of_decide_eq_true hq;simp at this;exact this.1
 split at h
 ·rename_i hq;obtain⟨p,A,o⟩:=Option.map_eq_some_iff.1 h;simp only[Prod.mk.injEq]at o;exact .inl ⟨o.1.symm,UInt8.toNat_inj.1 hq⟩
 split at h
 ·rename_i hq;simp only[Option.some.injEq,Prod.mk.injEq]at h;obtain⟨rfl,rfl,rfl⟩:=h;refine .inr ⟨by decide,?_⟩;have C:3≤l.length:=by
   unfold Lx.dots3 at hq;have B:=congrArg List.length (of_decide_eq_true hq);rw[ZM]at B;simp at B;omega
  rw[ZD]
  congr 1
  omega
 split at h
 ·simp only[Option.some.injEq,Prod.mk.injEq]at h;obtain⟨rfl,rfl,rfl⟩:=h;refine .inr ⟨by decide,?_⟩;rw[ZD]
  congr 1
  omega
 ·cases h
theorem MB {s:ByteArray} {b c k:Nat} {T:List UInt8} (h:Lx.token (sfx s b)=some (k,T,sfx s c)) (hbc:b<c) (hc:c≤s.size) (k1:1≤k) (k5:k≤5) :
  Fw s b ⟨k,T,b⟩∧IL ⟨k,T,b⟩≤c:=by
 have B:0<(sfx s b).length:=by rw[AR];omega
 have o:(sfx s b).length-(sfx s c).length=c-b:=by rw[AR,AR];omega
 rcases Ia h B with⟨rfl,hq⟩|⟨hk,hT⟩
 ·refine⟨⟨k1,k5,QM _,by show b<s.size;omega,λ_=>?_,λh=>absurd rfl h,λh=>absurd rfl h,λh=>absurd rfl h⟩,?_⟩
  ·rw[Ar s b (by omega)]at hq;exact hq
  ·unfold IL;rw[if_pos rfl];exact hbc
 ·rw[o]at hT;have A:T.length=c-b:=by rw[hT,ZM,AR];omega
  refine⟨⟨k1,k5,QM _,by show b<s.size;omega,λh=>absurd h hk,λ_=>?_,λ_=>?_,λ_=>?_⟩,?_⟩
  ·show 0<T.length;omega
  ·show b+T.length≤s.size;omega
  ·show T=(sfx s b).take T.length;rw[A];exact hT
  ·unfold IL;rw[if_neg hk];show b+T.length≤c;omega
structure Std (s:ByteArray) (all:List Lx.Tok):Prop where
 len:all.length≤1501
 chain:∃ts,all=ts++[⟨0,[],s.size⟩]∧Ce s 0 ts s.size
end Go.Proofs.YtefjgpkpplkkgaaGreatDoor
namespace Go.Proofs.YtefjgpkpplkkgaaGreatDoor
set_option linter.unusedSimpArgs false
set_option linter.unusedVariables false
namespace Lx
def PK (c:UInt8):Bool:=isBlank c||decide (c.toNat=35)
def Mi (c:UInt8):Bool:=!PK c||(!isLetter c&&!isDigit c&&!isWord c&&decide (c.toNat≠46)&&decide ((c ||| 32).toNat≠101)&&decide (c.toNat≠34))
theorem Ln:∀n:Fin 256,Mi (UInt8.ofNat n.val)=true:=by decide +kernel
theorem CR {c:UInt8} (h:PK c=true):isLetter c=false∧isDigit c=false∧isWord c=false∧c.toNat≠46∧(c ||| 32).toNat≠101∧c.toNat≠34:=by
 have:=Ln ⟨c.toNat,UInt8.toNat_lt c⟩;have o:Mi c=true:=by simpa using this
 unfold Mi at o;rw[h]at o;simp only[Bool.not_true,Bool.false_or,ZF,decide_eq_true_eq,Bool.not_eq_true']at o;obtain⟨⟨⟨⟨⟨B,E⟩,F⟩,D⟩,C⟩,A⟩:=o;exact⟨B,E,F,D,C,A⟩
theorem I6 {a x y:List UInt8} (p:UInt8→Prop) (h1:p (hd (a++x))) (h2:p (hd y)):p (hd (a++y)):=by
 cases a with
 | nil=>exact h2
 | cons c a=>exact h1
theorem A6 (c:UInt8) (l:List UInt8):hd (c::l)=c:=rfl
theorem Gi (p:UInt8→Bool):∀(a x:List UInt8),(∀c∈a,p c=true)→p (hd x)=false∨x=[]→(a++x).dropWhile p=x
 | [],x,_,h=>by
  rw[ZS];cases x with
  | nil=>rfl
  | cons c x =>
   rcases h with h|h
   ·rw[List.dropWhile_cons,if_neg (by rw[A6]at h;rw[h];simp)]
   ·cases h
 | c::a,x,ha,h=>by
  rw[ZT,List.dropWhile_cons,if_pos (ha c (by simp))];exact Gi p a x (λd hd=>ha d (by simp[hd])) h
theorem L8 (p:UInt8→Bool) (h0:p 0=false):∀l:List UInt8,p (hd (l.dropWhile p))=false
 | []=>h0
 | c::l=>by
  rw[List.dropWhile_cons];split
  ·exact L8 p h0 l
  ·rename_i h;rw[A6];simpa using h
theorem Cc {a x:List UInt8} (ha:∀c∈a,isDigit c=true) (h:isDigit (hd x)=false):digits (a++x)=x:=Gi isDigit a x ha (.inl h)
theorem Fj (l:List UInt8):isDigit (hd (digits l))=false:=L8 isDigit (by decide) l
theorem Bz (l:List UInt8):∃a,l=a++digits l∧∀c∈a,isDigit c=true:=Cn isDigit l
def okG (x:List UInt8):Prop:=PK (hd x)=true
theorem Cl {r r':Nat×List UInt8} (h:numEnd r=some r'):r'=r:=by
 unfold numEnd at h;split at h
 ·cases h
 ·simpa using h.symm
theorem DT (k:Nat) {x:List UInt8} (h:okG x):numEnd (k,x)=some (k,x):=by
 obtain⟨o,B,E,A,D,C⟩:=CR h;unfold numEnd;rw[if_neg (by simp[o,B,A])]
theorem Em {k k':Nat} {l rest:List UInt8} (h:numExp (k,l)=some (k',rest)):∃pre,l=pre++rest∧∀x,okG x→numExp (k,pre++x)=some (k',x):=by
 unfold numExp at h;split at h
 ·rename_i he;simp only[]at h he;obtain⟨c,A,rfl⟩:∃c A,l=c::A:=by
   cases l with
   | nil=>exact absurd he (by decide)
   | cons c A=>exact⟨c,A,rfl⟩
  rw[List.drop_one,List.tail_cons]at h;rw[A6]at he;by_cases hs:(hd A).toNat=43∨(hd A).toNat=45
  ·rw[if_pos hs]at h;obtain⟨d,D,rfl⟩:∃d D,A=d::D:=by
    cases A with
    | nil=>exact absurd hs (by decide)
    | cons d D=>exact⟨d,D,rfl⟩
   rw[List.drop_one,List.tail_cons]at h;rw[A6]at hs;obtain⟨o,C,G⟩:=Bz D;split at h
   ·cases h
   ·rename_i hne;have:=Cl h;simp only[Prod.mk.injEq]at this;obtain⟨rfl,rfl⟩:=this;refine⟨c::d::o,by rw[ZT,ZT,← C],λx hx=>?_⟩;have B:digits (o++x)=x:=Cc G (CR hx).2.1;have E:o.length≠0:=λe=>hne (by
     have:=congrArg List.length C;rw[QU,e]at this;omega)
    unfold numExp;rw[if_pos (by exact he)];simp only[ZT,List.drop_one,List.tail_cons,A6];rw[if_pos hs,B,if_neg (by rw[QU];omega)];exact DT 3 hx
  ·rw[if_neg hs]at h;obtain⟨o,C,G⟩:=Bz A;split at h
   ·cases h
   ·rename_i hne;have:=Cl h;simp only[Prod.mk.injEq]at this;obtain⟨rfl,rfl⟩:=this;refine⟨c::o,by rw[ZT,← C],λx hx=>?_⟩;have B:digits (o++x)=x:=Cc G (CR hx).2.1;have E:o.length≠0:=λe=>hne (by
     have:=congrArg List.length C;rw[QU,e]at this;omega)
    have F:¬((hd (o++x)).toNat=43∨(hd (o++x)).toNat=45):=by
     cases o with
     | nil=>exact absurd rfl E
     | cons q o =>
      rw[C]at hs;exact hs
    unfold numExp;rw[if_pos (by exact he)];simp only[ZT,List.drop_one,List.tail_cons];rw[if_neg F,B,if_neg (by rw[QU];omega)];exact DT 3 hx
 ·rename_i he;have:=Cl h;simp only[Prod.mk.injEq]at this;obtain⟨rfl,rfl⟩:=this;refine⟨[],rfl,λx hx=>?_⟩;unfold numExp;rw[ZS,if_neg (CR hx).2.2.2.2.1];exact DT _ hx
theorem Ih {k':Nat} {l rest:List UInt8} (h:numFrac l=some (k',rest)):∃pre,l=pre++rest∧∀x,okG x→numFrac (pre++x)=some (k',x):=by
 unfold numFrac at h;split at h
 ·rename_i he;obtain⟨c,o,rfl⟩:∃c o,l=c::o:=by
   cases l with
   | nil=>exact absurd he (by decide)
   | cons c o=>exact⟨c,o,rfl⟩
  rw[List.drop_one,List.tail_cons]at h;rw[A6]at he;obtain⟨A,F,I⟩:=Bz o;split at h
  ·cases h
  ·rename_i hne;obtain⟨pre,B,D⟩:=Em h;refine⟨c::(A++pre),by rw[ZT,ZJ,← B,← F],λx hx=>?_⟩;have C:isDigit (hd (pre++x))=false:=I6 (x:=rest) (λc=>isDigit c=false) (by rw[← B];exact Fj o) (CR hx).2.1;have E:digits (A++(pre++x))=pre++x:=Cc I C;have H:A.length≠0:=λe=>hne (by
    have:=congrArg List.length F;rw[QU,e]at this;omega)
   unfold numFrac;have G:(A++(pre++x)).length=A.length+(pre++x).length:=QU;rw[ZT,A6,if_pos he,List.drop_one,List.tail_cons,ZJ,E,if_neg (by omega)];exact D x hx
 ·rename_i he;obtain⟨pre,B,D⟩:=Em h;refine⟨pre,B,λx hx=>?_⟩;unfold numFrac;rw[if_neg (I6 (x:=rest) (λc=>¬c.toNat=46) (by rw[← B];exact he) (CR hx).2.2.2.1)];exact D x hx
theorem DO {k':Nat} {l rest:List UInt8} (h:number l=some (k',rest)):∃pre,l=pre++rest∧∀x,okG x→number (pre++x)=some (k',x):=by
 have E:∀A:List UInt8,(if (digits A).length=A.length∨((hd A).toNat=48∧1<A.length-(digits A).length) then none else numFrac (digits A))=some (k',rest) →
   ∃o pre,A=o++(pre++rest)∧o≠[]∧∀x,okG x→(if (digits (o++(pre++x))).length=(o++(pre++x)).length∨((hd (o++(pre++x))).toNat=48∧1<(o++(pre++x)).length-(digits (o++(pre++x))).length) then none else numFrac (digits (o++(pre++x))))=some (k',x):=by
  intro A h;split at h
  ·cases h
  ·rename_i hne;obtain⟨o,B,F⟩:=Bz A;obtain⟨pre,D,M⟩:=Ih h;have C:o≠[]:=λe=>hne (.inl (by rw[e,ZS]at B;rw[← B]))
   refine⟨o,pre,by rw[← D,← B],C,λx hx=>?_⟩;have I:isDigit (hd (pre++x))=false:=I6 (x:=rest) (λc=>isDigit c=false) (by rw[← D];exact Fj A) (CR hx).2.1;have K:digits (o++(pre++x))=pre++x:=Cc F I;have N:0<o.length:=List.length_pos_iff.2 C;have H:hd (o++(pre++x))=hd A:=by
    cases o with
    | nil=>exact absurd rfl C
    | cons q o=>rw[B];rfl
   have L:A.length-(digits A).length=o.length:=by
    have:=congrArg List.length B;rw[QU]at this;omega
   rw[K,H,if_neg]
   ·exact M x hx
   ·have G:(o++(pre++x)).length=o.length+(pre++x).length:=QU;rw[G];intro hc;rcases hc with hc|⟨hc1,hc2⟩
    ·omega
    ·exact hne (.inr ⟨hc1,by omega⟩)
 unfold number at h;by_cases hm:(hd l).toNat=45
 ·rw[if_pos hm]at h;obtain⟨c,A,rfl⟩:∃c A,l=c::A:=by
   cases l with
   | nil=>exact absurd hm (by decide)
   | cons c A=>exact⟨c,A,rfl⟩
  rw[List.drop_one,List.tail_cons]at h;obtain⟨o,pre,B,F,D⟩:=E A h;refine⟨c::(o++pre),by rw[ZT,ZJ,← B],λx hx=>?_⟩;unfold number;have J:c.toNat=45:=hm;rw[ZT,A6,if_pos J,List.drop_one,List.tail_cons,ZJ];exact D x hx
 ·rw[if_neg hm]at h;obtain⟨o,pre,B,F,D⟩:=E l h;refine⟨o++pre,by rw[ZJ,← B],λx hx=>?_⟩;have H:hd (o++(pre++x))=hd l:=by
   cases o with
   | nil=>exact absurd rfl F
   | cons q o=>rw[B];rfl
  unfold number;rw[ZJ,H,if_neg hm];exact D x hx
def word (k:Nat) (T:List UInt8):List UInt8:=if k=4 then quote T else T
def stopB (c:UInt8):Bool:=!isBlank c&&decide (c.toNat≠35)&&decide (c.toNat≠239)
structure Good (k:Nat) (T:List UInt8):Prop where
 tok:∀x,okG x→token (word k T++x)=some (k,T,x)
 stop:stopB (hd (word k T))=true
 ne:word k T≠[]
 val:k=4→valid T=true
def Mh (c:UInt8):Bool:=(!isLetter c||(stopB c&&isWord c))&&(!isDigit c||(stopB c))&&(!signs.contains c||(stopB c&&!isLetter c&&!isDigit c&&decide (c.toNat≠45)&&decide (c.toNat≠34)&&decide (c.toNat≠46)&&decide (c.toNat≠0)))
theorem Le:∀n:Fin 256,Mh (UInt8.ofNat n.val)=true:=by decide +kernel
theorem DJ (c:UInt8):(isLetter c=true→stopB c=true∧isWord c=true)∧(isDigit c=true→stopB c=true)∧(signs.contains c=true→stopB c=true∧isLetter c=false∧isDigit c=false∧c.toNat≠45∧c.toNat≠34∧c.toNat≠46∧c.toNat≠0):=by
 have:=Le ⟨c.toNat,UInt8.toNat_lt c⟩;have C:Mh c=true:=by simpa using this
 unfold Mh at C;simp only[ZF,Bool.or_eq_true,decide_eq_true_eq,Bool.not_eq_true']at C;obtain⟨⟨A,o⟩,B⟩:=C;refine⟨λh=>?_,λh=>?_,λh=>?_⟩
 ·rcases A with A|A
  ·rw[h]at A;cases A
  ·exact A
 ·rcases o with o|o
  ·rw[h]at o;cases o
  ·exact o
 ·rcases B with B|⟨⟨⟨⟨⟨⟨a1,a2⟩,a3⟩,a4⟩,a5⟩,a6⟩,a7⟩
  ·rw[h]at B;cases B
  ·exact⟨a1,a2,a3,a4,a5,a6,a7⟩
theorem CP (a b:List UInt8):(a++b).take ((a++b).length-b.length)=a:=by
 rw[QU,show a.length+b.length-b.length=a.length by omega,List.take_left]
theorem Ax {k:Nat} (h:k≠4) (T:List UInt8):word k T=T:=if_neg h
theorem KN {l:List UInt8} {k:Nat} {T r:List UInt8} (h:token l=some (k,T,r)):Good k T:=by
 unfold token at h;by_cases c1:isLetter (hd l)=true
 ·rw[if_pos c1]at h;simp only[Option.some.injEq,Prod.mk.injEq]at h;obtain⟨rfl,rfl,rfl⟩:=h;obtain⟨a,F,D⟩:=Cn isWord l
  generalize hr:l.dropWhile isWord=r at *
  subst F;rw[CP];have E:=(DJ (hd (a++r))).1 c1;have A:a≠[]:=λe=>by
   rw[e,ZS]at hr E;have:=L8 isWord (by decide) r;rw[hr]at this;rw[this]at E;cases E.2
  have C:∀x,hd (a++x)=hd (a++r):=λx=>by
   cases a with
   | nil=>exact absurd rfl A
   | cons q a=>rfl
  refine⟨λx hx=>?_,?_,by rw[Ax (by decide)];exact A,λe=>by cases e⟩
  ·rw[Ax (by decide)];unfold token;rw[C x,if_pos c1,Gi isWord a x D (.inl (CR hx).2.2.1),CP]
  ·rw[Ax (by decide)];have:=C [];rw[ZR]at this;rw[this];exact E.1
 rw[if_neg c1]at h;by_cases c2:(hd l).toNat=45∨isDigit (hd l)=true
 ·rw[if_pos c2]at h;cases hn:number l with
  | none=>rw[hn]at h;cases h
  | some p =>
   obtain⟨M,rest⟩:=p;rw[hn]at h;simp only[Option.map_some,Option.some.injEq,Prod.mk.injEq]at h;obtain⟨rfl,rfl,rfl⟩:=h;have K:=Cj hn;simp only[]at K;obtain⟨o,F,D⟩:=DO hn;subst F;rw[CP];have A:o≠[]:=λe=>by
    have H:=D [32] (by unfold okG;decide);rw[e,ZS,show number [32]=none from by decide]at H;cases H
   have C:∀x,hd (o++x)=hd (o++rest):=λx=>by
    cases o with
    | nil=>exact absurd rfl A
    | cons q a=>rfl
   have G:word M o=o:=Ax (by omega) o;refine⟨λx hx=>?_,?_,by rw[G];exact A,λe=>by omega⟩
   ·rw[G];unfold token;rw[C x,if_neg c1,if_pos c2,D x hx];simp only[Option.map_some];rw[CP]
   ·rw[G];have:=C [];rw[ZR]at this;rw[this];rcases c2 with c2|c2
    ·have:hd (o++rest)=45:=UInt8.toNat_inj.1 (by rw[c2];rfl);rw[this];decide
    ·exact (DJ _).2.1 c2
 rw[if_neg c2]at h;have B:∀m:List UInt8,V m→Good 4 m:=λm hm=>by
  have J:valid m=true:=N9 hm _ (QM _);refine⟨λx hx=>?_,?_,?_,λ_=>J⟩
  ·show token (quote m++x)=_;exact EL m x J (CR hx).2.2.2.2.2
  ·show stopB 34=true
   decide
  ·show quote m≠[];unfold quote;simp
 by_cases c3:quotes3 l=true
 ·rw[if_pos c3]at h;cases hb:block [] (l.drop 3) with
  | none=>rw[hb]at h;cases h
  | some p =>
   rw[hb]at h;simp only[Option.map_some,Option.some.injEq,Prod.mk.injEq]at h;obtain⟨rfl,rfl,rfl⟩:=h;exact B _ (MS (Gc _ _ _ _ _ (QM _) .nil hb))
 rw[if_neg c3]at h;by_cases c4:(hd l).toNat=34
 ·rw[if_pos c4]at h;cases hb:text [] (l.drop 1) with
  | none=>rw[hb]at h;cases h
  | some p =>
   rw[hb]at h;simp only[Option.map_some,Option.some.injEq,Prod.mk.injEq]at h;obtain⟨rfl,rfl,rfl⟩:=h;exact B _ (G1 _ _ _ _ _ (QM _) .nil hb)
 rw[if_neg c4]at h;by_cases c5:dots3 l=true
 ·rw[if_pos c5]at h;simp only[Option.some.injEq,Prod.mk.injEq]at h;obtain⟨rfl,rfl,rfl⟩:=h;have e:l.take 3=[46,46,46]:=by simpa [dots3] using c5
  rw[e];refine⟨λx hx=>?_,by decide,by decide,λe=>by cases e⟩;show token (46::46::46::x)=_;unfold token;rw[if_neg (by rw[A6];decide),if_neg (by rw[A6];decide),if_neg (by simp[quotes3]),if_neg (by rw[A6];decide),if_pos (by simp[dots3])];rfl
 rw[if_neg c5]at h;by_cases c6:(hd l).toNat≠0∧signs.contains (hd l)=true
 ·rw[if_pos c6]at h;simp only[Option.some.injEq,Prod.mk.injEq]at h;obtain⟨rfl,rfl,rfl⟩:=h;obtain⟨c,t,rfl⟩:∃c t,l=c::t:=by
   cases l with
   | nil=>exact absurd rfl c6.1
   | cons c t=>exact⟨c,t,rfl⟩
  rw[A6]at c6;obtain⟨O,Q,N,L,I,P,R⟩:=(DJ c).2.2 c6.2;show Good 5 [c];refine⟨λx hx=>?_,by rw[Ax (by decide)];exact O,by rw[Ax (by decide)];simp,λe=>by cases e⟩;rw[Ax (by decide)];show token (c::x)=_;unfold token;rw[A6,if_neg (by rw[Q];simp),if_neg (by rw[N];simp[L]),if_neg,if_neg I,if_neg,if_pos ⟨R,c6.2⟩]
  ·rfl
  ·unfold dots3;rw[decide_eq_true_eq];intro e;simp at e;exact P (by rw[e.1];rfl)
  ·unfold quotes3;rw[decide_eq_true_eq];intro e;simp at e;exact I (by rw[e.1];rfl)
 ·rw[if_neg c6]at h;cases h
end Lx
namespace Lx
theorem DG:∀(n:Nat) (f:Bool) (l:List UInt8),l.length≤n→(gap f l).1.length≤l.length
 | _,f,[],_=>by rw[gap_nil];exact Nat.zero_le _
 | 0,f,c::t,h=>by simp at h
 | n+1,f,c::t,h=>by
  have o:t.length≤n:=by simpa using h
  cases hb:isBlank c
  ·by_cases hbo:f=true∧bom (c::t)=true
   ·rw[hbo.1,gap_bom hb hbo.2];have:=DG n false ((c::t).drop 3) (by rw[ZD];simp;omega);rw[ZD]at this;omega
   ·by_cases h35:c.toNat=35
    ·rw[gap_rem h35];have A:=Dt t;have:=DG n false (remark t).1 (by omega);rw[QO];split
     ·omega
     ·simp only[];omega
    ·rw[gap_stop hb hbo h35];exact QM _
  ·rw[gap_blank hb];have:=DG n false t o;rw[QO];omega
theorem Cp:∀(n:Nat) (l out m r:List UInt8),l.length≤n→text out l=some (m,r)→m.length≤out.length+4*l.length∧r.length≤l.length
 | _,[],out,m,r,_,h=>by rw[text_nil]at h;cases h
 | 0,c::t,_,_,_,h,_=>by simp at h
 | n+1,c::t,out,m,r,hn,h=>by
  rw[QO]at hn ⊢;by_cases h0:ctl (c::t)
  ·rw[text_bad h0]at h;cases h
  have A:(rune (c::t)).2≠0:=λe=>h0 (.inl e)
  by_cases h1:(rune (c::t)).1=34
  ·rw[text_quote h0 h1]at h;simp at h;rw[← h.1,← h.2];omega
  by_cases h2:(rune (c::t)).1=92
  ·cases he:esc (hd t) with
   | some e =>
    rw[text_esc h0 h2 he]at h;have:=Cp n _ _ m r (by rw[ZD];omega) h;rw[QU,List.length_singleton,ZD]at this;omega
   | none =>
    by_cases hu:(hd t).toNat=117
    ·cases hx:hex (t.drop 1) with
     | none=>rw[text_nohex h0 h2 he hu hx]at h;cases h
     | some v =>
      by_cases hs:55296≤v∧v<57344
      ·rw[text_sur h0 h2 he hu hx hs]at h;cases h
      ·rw[text_uni h0 h2 he hu hx hs]at h;have:=Cp n _ _ m r (by rw[ZD];omega) h;have o:=enc_len v;rw[QU,ZD]at this;omega
    ·rw[text_noesc h0 h2 he hu]at h;cases h
  ·rw[text_plain h0 h1 h2]at h;have:=Cp n _ _ m r (by rw[ZD,QO];omega) h;have o:=rune_le4 (c::t);rw[QU,ZD,ZM,QO]at this;omega
theorem Cy:∀(n:Nat) (l out m r:List UInt8),l.length≤n→block out l=some (m,r)→m.length≤out.length+l.length∧r.length≤l.length
 | _,[],out,m,r,_,h=>by rw[block_nil]at h;cases h
 | 0,c::t,_,_,_,h,_=>by simp at h
 | n+1,c::t,out,m,r,hn,h=>by
  rw[QO]at hn ⊢;cases hq:quotes3 (c::t)
  ·by_cases he:c.toNat=92∧quotes3 t=true
   ·rw[block_esc hq he]at h;have C:3≤t.length:=by
     have o:=congrArg List.length (of_decide_eq_true he.2);rw[ZM]at o;simp at o;omega
    have:=Cy n _ _ m r (by rw[ZD];omega) h;rw[QU,ZD]at this;simp only[QO,QS]at this;omega
   ·by_cases hc:LH (c::t)
    ·rw[block_bad hq he hc]at h;cases h
    ·rw[block_go hq he hc]at h;have B:(rune (c::t)).2≠0:=λe=>hc (.inl e)
     have:=Cy n _ _ m r (by rw[ZD,QO];omega) h;have A:=rune_len (c::t);rw[QU,ZD,ZM,QO]at this;rw[QO]at A;omega
  ·rw[block_end hq]at h;simp at h;rw[← h.1,← h.2];simp;omega
theorem D7 {l:List UInt8} {k:Nat} {T r:List UInt8} (h:token l=some (k,T,r)) (hl:l.length≤4096):T.length≤1000000000∧r.length≤l.length:=by
 have o:∀j,(l.take j).length≤4096:=λj=>by rw[ZM];omega
 unfold token at h;split at h
 ·simp only[Option.some.injEq,Prod.mk.injEq]at h;obtain⟨rfl,rfl,rfl⟩:=h;have:=o (l.length-(l.dropWhile isWord).length);exact⟨by omega,dropWhile_le _ _⟩
 split at h
 ·obtain⟨p,B,A⟩:=Option.map_eq_some_iff.1 h;simp only[Prod.mk.injEq]at A;obtain⟨rfl,rfl,rfl⟩:=A;have:=o (l.length-p.2.length);obtain⟨C,e,_⟩:=DO (k':=p.1) (rest:=p.2) B;have D:=congrArg List.length e;rw[QU]at D;exact⟨by omega,by omega⟩
 split at h
 ·obtain⟨p,B,A⟩:=Option.map_eq_some_iff.1 h;simp only[Prod.mk.injEq]at A;obtain⟨rfl,rfl,rfl⟩:=A;have:=Cy _ _ _ p.1 p.2 (QM _) B;rw[ZD,QS]at this;exact⟨dedent_len _ (by omega),by omega⟩
 split at h
 ·obtain⟨p,B,A⟩:=Option.map_eq_some_iff.1 h;simp only[Prod.mk.injEq]at A;obtain⟨rfl,rfl,rfl⟩:=A;have:=Cp _ _ _ p.1 p.2 (QM _) B;rw[ZD,QS]at this;exact⟨by omega,by omega⟩
 split at h
 ·simp only[Option.some.injEq,Prod.mk.injEq]at h;obtain⟨rfl,rfl,rfl⟩:=h;have:=o 3;exact⟨by omega,by rw[ZD];omega⟩
 split at h
 ·simp only[Option.some.injEq,Prod.mk.injEq]at h;obtain⟨rfl,rfl,rfl⟩:=h;have:=o 1;exact⟨by omega,by rw[ZD];omega⟩
 ·cases h
theorem lexGo_good:∀(n size:Nat) (l:List UInt8) (out ts:List Tok),l.length≤4096→lexGo size n l out=.ok ts→∃pre,ts=out++pre++[⟨0,[],size⟩]∧∀t∈pre,Good t.kind t.text∧t.text.length≤1000000000
 | 0,size,l,out,ts,_,h=>by simp[lexGo]at h
 | n+1,size,l,out,ts,hl,h=>by
  have C:=DG l.length (decide (l.length=size)) l (QM _);rw[lexGo]at h;split at h
  ·cases h
  split at h
  ·refine⟨[],?_,by simp⟩;rw[ZR];exact (Res.ok.inj h).symm
  split at h
  ·cases h
  rename_i k T rest htok;split at h
  ·cases h
  obtain⟨o,D⟩:=D7 htok (by omega);obtain⟨pre,A,B⟩:=lexGo_good n size rest _ ts (by omega) h;refine⟨⟨k,T,size-(gap (decide (l.length=size)) l).1.length⟩::pre,by rw[A];simp,λt ht=>?_⟩;rcases List.mem_cons.1 ht with rfl|ht
  ·exact⟨KN htok,o⟩
  ·exact B t ht
end Lx
namespace Lx
structure Wd where
 g:List UInt8
 k:Nat
 T:List UInt8
 w:List UInt8
def flat:List Wd→List UInt8
 | []=>[]
 | x::r=>x.g++(x.w++flat r)
structure StandsW (x:Wd) (l:List UInt8):Prop where
 blank:∀c∈x.g,isBlank c=true
 stop:stopB (hd x.w)=true
 ne:x.w≠[]
 tok:token (x.w++l)=some (x.k,x.T,l)
def StandAll:List Wd→List UInt8→Prop
 | [],_=>True
 | x::r,l=>StandsW x (flat r++l)∧StandAll r l
theorem flat_app:∀(a b:List Wd),flat (a++b)=flat a++flat b
 | [],b=>rfl
 | x::a,b=>by rw[ZT,flat,flat,flat_app a b];simp
theorem standAll_app:∀{a b:List Wd} {l:List UInt8},StandAll a (flat b++l)→StandAll b l→StandAll (a++b) l
 | [],b,l,_,h=>h
 | x::a,b,l,h,k=>⟨by have:=h.1;rw[← ZJ,← flat_app]at this;exact this,standAll_app h.2 k⟩
theorem FV (y:List UInt8):∀(fl:Bool) (g:List UInt8),(∀c∈g,isBlank c=true)→∃f2,gap fl (g++y)=gap f2 y
 | fl,[],_=>⟨fl,rfl⟩
 | fl,c::g,h=>by
  obtain⟨f2,e⟩:=FV y false g (λd hd=>h d (by simp[hd]));exact⟨f2,by rw[ZT,gap_blank (h c (by simp))];exact e⟩
theorem OZ {x:Wd} {l:List UInt8} (h:StandsW x l) (fl:Bool):gap fl (x.g++(x.w++l))=(x.w++l,true):=by
 obtain⟨f2,e⟩:=FV (x.w++l) fl x.g h.blank;rw[e];have o:=h.stop;have A:=h.ne
 generalize x.w=w at *
 cases w with
 | nil=>exact absurd rfl A
 | cons c w =>
  simp only[stopB,A6,ZF,Bool.not_eq_true',decide_eq_true_eq]at o;refine gap_stop o.1.1 (λhb=>?_) (of_decide_eq_true o.1.2);have:=of_decide_eq_true hb.2;simp at this;exact of_decide_eq_true o.2 (by rw[this.1];rfl)
theorem stands_sign {c:UInt8} (g:List UInt8) (hg:∀d∈g,isBlank d=true) (h:signs.contains c=true) (l:List UInt8):StandsW ⟨g,5,[c],[c]⟩ l:=by
 obtain⟨A,D,F,C,o,B,E⟩:=(DJ c).2.2 h;refine⟨hg,A,by simp,?_⟩;show token (c::l)=_;unfold token;rw[A6,if_neg (by rw[D];simp),if_neg (by rw[F];simp[C]),if_neg,if_neg o,if_neg,if_pos ⟨E,h⟩]
 ·rfl
 ·unfold dots3;rw[decide_eq_true_eq];intro e;simp at e;exact B (by rw[e.1];rfl)
 ·unfold quotes3;rw[decide_eq_true_eq];intro e;simp at e;exact o (by rw[e.1];rfl)
theorem stands_name {w:List UInt8} (g:List UInt8) (hg:∀d∈g,isBlank d=true) (h1:isLetter (hd w)=true) (h2:∀c∈w,isWord c=true) {l:List UInt8} (hl:isWord (hd l)=false):StandsW ⟨g,1,w,w⟩ l:=by
 have o:w≠[]:=λe=>by rw[e]at h1;exact absurd h1 (by decide)
 refine⟨hg,((DJ (hd w)).1 h1).1,o,?_⟩;show token (w++l)=_;have A:hd (w++l)=hd w:=by
  cases w with
  | nil=>exact absurd rfl o
  | cons c w=>rfl
 unfold token;rw[A,if_pos h1,Gi isWord w l h2 (.inl hl),CP]
end Lx
namespace Lx
theorem hdx {β:Type} (p:UInt8→β) (h:p 0=p 10) (l t:List UInt8):p (hd (l++10::t))=p (hd l):=by
 cases l with
 | nil=>exact h.symm
 | cons c l=>rfl
theorem GV {l y:List UInt8} (hy:y.length=3) (h:l.take 3=y):3≤l.length:=by
 have o:=congrArg List.length h;rw[ZM,hy]at o;omega
theorem PF {l:List UInt8} (h:quotes3 l=true):3≤l.length:=GV rfl (of_decide_eq_true h)
theorem H7 {k:Nat} {l T r:List UInt8} (h:token l=some (k,T,r)):r.length<l.length:=by
 unfold token at h;split at h
 ·rename_i c1;simp only[Option.some.injEq,Prod.mk.injEq]at h;rw[← h.2.2];cases l with
  | nil=>exact absurd c1 (by decide)
  | cons c l =>
   rw[List.dropWhile_cons,if_pos ((DJ c).1 c1).2];have:=dropWhile_le isWord l;rw[QO];omega
 split at h
 ·obtain⟨p,A,o⟩:=Option.map_eq_some_iff.1 h;have:=number_shorter A;simp only[Prod.mk.injEq]at o;rw[← o.2.2];exact this
 split at h
 ·rename_i c3;obtain⟨p,A,o⟩:=Option.map_eq_some_iff.1 h;simp only[Prod.mk.injEq]at o;have:=(Cy _ _ _ p.1 p.2 (QM _) A).2;have C:=PF c3;rw[ZD]at this;rw[← o.2.2];omega
 split at h
 ·rename_i c4;obtain⟨p,A,o⟩:=Option.map_eq_some_iff.1 h;simp only[Prod.mk.injEq]at o;have:=(Cp _ _ _ p.1 p.2 (QM _) A).2;rw[← o.2.2];cases l with
  | nil=>exact absurd c4 (by decide)
  | cons c l=>simp only[List.drop_one,List.tail_cons]at this;rw[QO];omega
 split at h
 ·rename_i c5;have B:3≤l.length:=GV (y:=[46,46,46]) rfl (of_decide_eq_true c5);simp only[Option.some.injEq,Prod.mk.injEq]at h;rw[← h.2.2,ZD];omega
 split at h
 ·rename_i c6;simp only[Option.some.injEq,Prod.mk.injEq]at h;rw[← h.2.2];cases l with
  | nil=>exact absurd rfl c6.1
  | cons c l=>simp
 ·cases h
theorem GT:∀(n size:Nat) (l:List UInt8) (out:List Tok) (a c:Nat),lexGo size (n+1) l out=.err a c→l.length<n+1→c≠0
 | n,size,l,out,a,c,h,hl=>by
  have A:=DG l.length (decide (l.length=size)) l (QM _);rw[lexGo]at h;split at h
  ·cases h;decide
  split at h
  ·cases h
  split at h
  ·cases h;decide
  rename_i k T rest htok;have o:=H7 htok;split at h
  ·cases h;decide
  ·cases n with
   | zero=>omega
   | succ n=>exact GT n size rest _ a c h (by omega)
theorem lex_err {l:List UInt8} {a c:Nat} (h:lex l=.err a c):c≠0:=by
 unfold lex at h;split at h
 ·cases h;decide
 ·exact GT _ _ _ _ _ _ h (by omega)
end Lx
namespace Lx
def neuB (c:UInt8):Bool:=!isLetter c&&(!isDigit c&&(decide (c.toNat≠46)&&(decide (c.toNat≠45)&&(decide (c.toNat≠43)&&decide (c.toNat≠34)))))
structure Neu (x:List UInt8):Prop where
 l:isLetter (hd x)=false
 d:isDigit (hd x)=false
 n46:(hd x).toNat≠46
 n45:(hd x).toNat≠45
 n43:(hd x).toNat≠43
 n34:(hd x).toNat≠34
theorem JL {x:List UInt8} (h:neuB (hd x)=true):Neu x:=by
 unfold neuB at h;simp only[ZF,Bool.not_eq_true',decide_eq_true_eq]at h;obtain⟨a,b,c,d,e,f⟩:=h;exact⟨a,b,c,d,e,f⟩
theorem neu_nil:Neu []:=JL (by decide)
theorem neu_cons (c:UInt8) (l:List UInt8) (h:neuB c=true):Neu (c::l):=JL h
theorem Neu.w {x:List UInt8} (h:Neu x):isWord (hd x)=false:=by unfold isWord;rw[h.l,h.d];rfl
theorem Neu.e {x:List UInt8} (h:Neu x):(hd x ||| 32).toNat≠101:=λe=>by
 have:=h.l;unfold isLetter at this;rw[e]at this;simp at this
theorem hdn {β:Type} (p:UInt8→β) {x:List UInt8} (h:p (hd x)=p 0) (l:List UInt8):p (hd (l++x))=p (hd l):=by
 cases l with
 | nil=>exact h
 | cons c l=>rfl
theorem G7 (n:Nat) (h0:n≠0) {x:List UInt8} (h:(hd x).toNat≠n) (l:List UInt8):((hd (l++x)).toNat=n)=((hd l).toNat=n) :=
 hdn (λc=>c.toNat=n) (propext ⟨λe=>absurd e h,λe=>absurd (show (0:Nat)=n from e) (λe=>h0 e.symm)⟩) l
theorem O6 (p:UInt8→Bool) {x:List UInt8} (hp:p (hd x)=false):∀l,(l++x).dropWhile p=l.dropWhile p++x
 | []=>by
  cases x with
  | nil=>rfl
  | cons c x=>rw[ZS,List.dropWhile_cons,if_neg (by rw[show p c=false from hp];simp)];rfl
 | c::l=>by
  rw[ZT,List.dropWhile_cons,List.dropWhile_cons];split
  ·exact O6 p hp l
  ·rfl
theorem IE {x:List UInt8} (hx:Neu x) (l:List UInt8):digits (l++x)=digits l++x:=O6 isDigit hx.d l
def Dd (x:List UInt8) (p:Nat×List UInt8):Nat×List UInt8:=(p.1,p.2++x)
theorem E8 {x:List UInt8} (hx:Neu x) (k:Nat) (l:List UInt8):numEnd (k,l++x)=(numEnd (k,l)).map (Dd x):=by
 unfold numEnd
 dsimp only
 simp only[G7 46 (by decide) hx.n46,hdn isLetter (hx.l.trans (by decide)),hdn isDigit (hx.d.trans (by decide))];split<;>rfl
theorem Eg {x l:List UInt8} (h:l≠[]):(l++x).drop 1=l.drop 1++x:=by
 cases l with
 | nil=>exact absurd rfl h
 | cons c l=>rfl
theorem J1 {l:List UInt8} {n:Nat} (h:(hd l).toNat=n) (h0:n≠0):l≠[]:=λe=>by subst e;exact h0 h.symm
theorem Ex {x:List UInt8} (hx:Neu x) (f:List UInt8→Option (Nat×List UInt8)) (hf:∀l,f (l++x)=(f l).map (Dd x)) (l:List UInt8) :
  (if (digits (l++x)).length=(l++x).length then none else f (digits (l++x)))=(if (digits l).length=l.length then none else f (digits l)).map (Dd x):=by
 rw[IE hx,QU,QU,hf];by_cases h:(digits l).length=l.length
 ·rw[if_pos h,if_pos (by omega)];rfl
 ·rw[if_neg h,if_neg (by omega)]
theorem IJ {x:List UInt8} (hx:Neu x) (k:Nat) (l:List UInt8):numExp (k,l++x)=(numExp (k,l)).map (Dd x):=by
 unfold numExp
 dsimp only
 simp only[hdn (λc=>(c ||| 32).toNat=101) (propext ⟨λe=>absurd e hx.e,λe=>absurd e (by decide)⟩) l];by_cases he:(hd l ||| 32).toNat=101
 ·rw[if_pos he,if_pos he];have A:l≠[]:=λe=>by subst e;exact absurd he (by decide)
  rw[Eg A];simp only[G7 43 (by decide) hx.n43,G7 45 (by decide) hx.n45];by_cases hs:(hd (l.drop 1)).toNat=43∨(hd (l.drop 1)).toNat=45
  ·have o:l.drop 1≠[]:=by
    rcases hs with h|h
    ·exact J1 h (by decide)
    ·exact J1 h (by decide)
   rw[if_pos hs,if_pos hs,Eg o];exact Ex hx (λl=>numEnd (3,l)) (E8 hx 3) _
  ·rw[if_neg hs,if_neg hs];exact Ex hx (λl=>numEnd (3,l)) (E8 hx 3) _
 ·rw[if_neg he,if_neg he];exact E8 hx k l
theorem KW {x:List UInt8} (hx:Neu x) (l:List UInt8):numFrac (l++x)=(numFrac l).map (Dd x):=by
 unfold numFrac;simp only[G7 46 (by decide) hx.n46];by_cases he:(hd l).toNat=46
 ·rw[if_pos he,if_pos he,Eg (J1 he (by decide))];exact Ex hx (λl=>numExp (3,l)) (IJ hx 3) _
 ·rw[if_neg he,if_neg he];exact IJ hx 2 l
theorem Hc {x:List UInt8} (hx:Neu x) (l:List UInt8):number (l++x)=(number l).map (Dd x):=by
 have A:∀l1:List UInt8,(if (digits (l1++x)).length=(l1++x).length∨((hd (l1++x)).toNat=48∧1<(l1++x).length-(digits (l1++x)).length) then none else numFrac (digits (l1++x))) =
   (if (digits l1).length=l1.length∨((hd l1).toNat=48∧1<l1.length-(digits l1).length) then none else numFrac (digits l1)).map (Dd x):=by
  intro l1;rw[IE hx,QU,QU,KW hx];by_cases h48:(hd l1).toNat=48
  ·have o:(hd (l1++x)).toNat=48:=by
    cases l1 with
    | nil=>exact absurd h48 (by decide)
    | cons c l1=>exact h48
   by_cases h:(digits l1).length=l1.length∨((hd l1).toNat=48∧1<l1.length-(digits l1).length)
   ·rw[if_pos h,if_pos (by rcases h with h|h;exact .inl (by omega);exact .inr ⟨o,by omega⟩)];rfl
   ·rw[if_neg h,if_neg (λe=>h (by rcases e with e|e;exact .inl (by omega);exact .inr ⟨h48,by omega⟩))]
  ·by_cases h:(digits l1).length=l1.length
   ·rw[if_pos (.inl (show (digits l1).length+x.length=l1.length+x.length by omega)),if_pos (.inl h)];rfl
   ·have o:(hd (l1++x)).toNat≠48:=by
     cases l1 with
     | nil=>exact absurd rfl h
     | cons c l1=>exact h48
    rw[if_neg (λe=>by rcases e with e|e;exact h (by omega);exact o e.1),if_neg (λe=>by rcases e with e|e;exact h e;exact h48 e.1)]
 unfold number;simp only[G7 45 (by decide) hx.n45];by_cases hm:(hd l).toNat=45
 ·rw[if_pos hm,if_pos hm,Eg (J1 hm (by decide))];exact A _
 ·rw[if_neg hm,if_neg hm];exact A l
def numAll (k:Nat) (t:List UInt8):Prop:=(isLetter (hd t)=false∧((hd t).toNat=45∨isDigit (hd t)=true))∧number t=some (k,[])
theorem JS {k:Nat} {t x:List UInt8} (h:numAll k t) (hx:Neu x):token (t++x)=some (k,t,x):=by
 obtain⟨⟨C,o⟩,D⟩:=h;have B:t≠[]:=λe=>by subst e;exact absurd o (by decide)
 have A:hd (t++x)=hd t:=by
  cases t with
  | nil=>exact absurd rfl B
  | cons c t=>rfl
 unfold token;rw[A,if_neg (by rw[C];simp),if_pos o,Hc hx,D];simp only[Dd,Option.map_some,ZS];rw[CP]
theorem D5 {k:Nat} {l T r:List UInt8} (h:token l=some (k,T,r)) (hk:k=2∨k=3):(isLetter (hd l)=false∧((hd l).toNat=45∨isDigit (hd l)=true))∧number l=some (k,r)∧T=l.take (l.length-r.length):=by
 unfold token at h;split at h
 ·simp only[Option.some.injEq,Prod.mk.injEq]at h;omega
 rename_i c1;split at h
 ·rename_i c2;obtain⟨p,A,o⟩:=Option.map_eq_some_iff.1 h;simp only[Prod.mk.injEq]at o;obtain⟨rfl,rfl,rfl⟩:=o;exact⟨⟨by simpa using c1,c2⟩,A,rfl⟩
 exfalso;split at h
 ·obtain⟨p,A,o⟩:=Option.map_eq_some_iff.1 h;simp only[Prod.mk.injEq]at o;omega
 split at h
 ·obtain⟨p,A,o⟩:=Option.map_eq_some_iff.1 h;simp only[Prod.mk.injEq]at o;omega
 split at h
 ·simp only[Option.some.injEq,Prod.mk.injEq]at h;omega
 split at h
 ·simp only[Option.some.injEq,Prod.mk.injEq]at h;omega
 ·cases h
theorem Hj {k:Nat} {T:List UInt8} (h:Good k T) (hk:k=2∨k=3):numAll k T:=by
 have o:=h.tok [32] (by unfold okG;decide);rw[Ax (by omega)]at o;obtain⟨⟨a,b⟩,c,d⟩:=D5 o hk;have B:T≠[]:=by have:=h.ne;rwa [Ax (by omega)]at this
 have A:hd (T++[32])=hd T:=by
  cases T with
  | nil=>exact absurd rfl B
  | cons c t=>rfl
 rw[A]at a b;refine⟨⟨a,b⟩,?_⟩;rw[Hc (JL (by decide))]at c;cases hn:number T with
 | none=>rw[hn]at c;cases c
 | some p =>
  rw[hn]at c;simp only[Dd,Option.map_some,Option.some.injEq,Prod.mk.injEq]at c;obtain⟨rfl,e⟩:=c;have:p.2=[]:=by
   have:=congrArg List.length e;simp at this;exact this
  rw[← this]
theorem LF {T:List UInt8} (h:Good 1 T):isLetter (hd T)=true∧∀c∈T,isWord c=true:=by
 have o:=h.tok [32] (by unfold okG;decide);rw[Ax (by omega)]at o;have G:T≠[]:=by have:=h.ne;rwa [Ax (by omega)]at this
 have D:hd (T++[32])=hd T:=by
  cases T with
  | nil=>exact absurd rfl G
  | cons c t=>rfl
 have c1:isLetter (hd (T++[32]))=true:=by
  cases hc:isLetter (hd (T++[32])) with
  | true=>rfl
  | false =>
   exfalso;unfold token at o;rw[if_neg (by rw[hc];simp)]at o;split at o
   ·obtain⟨p,B,A⟩:=Option.map_eq_some_iff.1 o;have:=Cj B;simp only[Prod.mk.injEq]at A;omega
   split at o
   ·obtain⟨p,B,A⟩:=Option.map_eq_some_iff.1 o;simp only[Prod.mk.injEq]at A;omega
   split at o
   ·obtain⟨p,B,A⟩:=Option.map_eq_some_iff.1 o;simp only[Prod.mk.injEq]at A;omega
   split at o
   ·simp only[Option.some.injEq,Prod.mk.injEq]at o;omega
   split at o
   ·simp only[Option.some.injEq,Prod.mk.injEq]at o;omega
   ·cases o
 unfold token at o;rw[if_pos c1]at o;simp only[Option.some.injEq,Prod.mk.injEq]at o;have e:=o.2.2;rw[O6 isWord (by decide)]at e;have H:T.dropWhile isWord=[]:=by
  have:=congrArg List.length e;simp at this;exact JB (by simpa using this)
 refine⟨by rw[← D];exact c1,λc hc=>?_⟩;have F:=Cn isWord T;obtain⟨a,C,E⟩:=F;rw[H,ZR]at C;exact E c (by rw[← C];exact hc)
theorem ES {k:Nat} {t:List UInt8} (h:numAll k t):stopB (hd t)=true∧t≠[]:=by
 obtain⟨⟨A,o⟩,B⟩:=h;refine⟨?_,λe=>by subst e;exact absurd o (by decide)⟩;rcases o with c2|c2
 ·have:hd t=45:=UInt8.toNat_inj.1 (by rw[c2];rfl);rw[this];decide
 ·exact (DJ _).2.1 c2
theorem stands_num {k:Nat} {t g x:List UInt8} (hg:∀d∈g,isBlank d=true) (h:numAll k t) (hx:Neu x):StandsW ⟨g,k,t,t⟩ x :=
 ⟨hg,(ES h).1,(ES h).2,JS h hx⟩
theorem stands_quote {t g x:List UInt8} (hg:∀d∈g,isBlank d=true) (h:valid t=true) (hx:Neu x):StandsW ⟨g,4,t,quote t⟩ x :=
 ⟨hg,by show stopB 34=true;decide,by unfold quote;simp,EL t x h hx.n34⟩
theorem Iw (l:List UInt8):∃a,l=a++(remark l).1:=by
 induction l using remark.induct with
 | case1=>exact⟨[],by simp[remark]⟩
 | case2 c t h=>rw[remark,if_pos h];exact⟨[],rfl⟩
 | case3 c t h1 h2=>rw[remark,if_neg h1,if_pos h2];exact⟨[],rfl⟩
 | case4 c t h1 h2 ih =>
  obtain⟨a,e⟩:=ih;rw[remark,if_neg h1,if_neg h2];exact⟨(c::t).take (rune (c::t)).2++a,by rw[ZJ,← e,List.take_append_drop]⟩
theorem Ee:∀(n:Nat) (f:Bool) (l:List UInt8),l.length≤n→∃a,l=a++(gap f l).1
 | 0,f,[],h=>⟨[],by rw[gap];rfl⟩
 | n+1,f,[],h=>⟨[],by rw[gap];rfl⟩
 | 0,f,c::t,h=>by simp at h
 | n+1,f,c::t,h=>by
  rw[gap];split
  ·obtain⟨a,e⟩:=Ee n false t (by simpa using h);exact⟨c::a,by rw[ZT,← e]⟩
  split
  ·obtain⟨a,e⟩:=Ee n false ((c::t).drop 3) (by rw[ZD];simp at h ⊢;omega);refine⟨(c::t).take 3++a,?_⟩;rw[ZJ,← e,List.take_append_drop]
  split
  ·obtain⟨b,o⟩:=Iw t;split
   ·have:=Dt t;obtain⟨a,e⟩:=Ee n false (remark t).1 (by simp at h;omega);refine⟨c::(b++a),?_⟩;rw[ZT,ZJ,← e,← o]
   ·exact⟨c::b,by rw[ZT,← o]⟩
  ·exact⟨[],rfl⟩
theorem numAll_one {k:Nat} {t:List UInt8} {a b:Tok} (h:lex t=.ok [a,b]) (h1:a.kind=k) (h2:a.text=t) (hk:k=2∨k=3):numAll k t∧t.length≤4096:=by
 unfold lex at h;by_cases hl:4096<t.length
 ·rw[if_pos hl]at h;cases h
 rw[if_neg hl,lexGo]at h;obtain⟨p,o⟩:=Ee t.length (decide (t.length=t.length)) t (QM _)
 generalize hg:(gap (decide (t.length=t.length)) t).1=l1 at *
 split at h
 ·cases h
 split at h
 ·have:=Res.ok.inj h;simp at this
 split at h
 ·cases h
 rename_i k' T rest htok;split at h
 ·cases h
 have A:rest.length≤4096:=by
  have h1:=D7 htok (by have:=congrArg List.length o;rw[QU]at this;omega);have:=congrArg List.length o;rw[QU]at this;omega
 obtain⟨B,e,-⟩:=lexGo_good _ _ _ _ _ A h;rw[ZS,ZJ,List.singleton_append]at e;have H:=(List.cons.inj e).1;rw[H]at h1 h2;have h1:k'=k:=h1;have h2:T=t:=h2;subst h1 h2;obtain⟨c1,c2,I⟩:=D5 htok hk;have F:=congrArg List.length o;have C:=congrArg List.length I;rw[QU]at F;rw[ZM]at C;have D:p=[]:=JB (by omega);rw[D,ZS]at o;have G:l1.length≠0:=by assumption
 have E:rest=[]:=by
  obtain⟨B,e,_⟩:=DO c2;have:=congrArg List.length e;rw[QU]at this;exact JB (by omega)
 rw[E,← o]at c2;rw[← o]at c1;exact⟨⟨c1,c2⟩,by omega⟩
theorem Ek:∀(n size:Nat) (l:List UInt8) (out ts:List Tok),l.length≤4096→lexGo size n l out=.ok ts→∃pre,ts=out++pre++[⟨0,[],size⟩]∧∀t∈pre,Good t.kind t.text∧(t.kind=2∨t.kind=3→t.text.length≤4096)
 | 0,size,l,out,ts,_,h=>by simp[lexGo]at h
 | n+1,size,l,out,ts,hl,h=>by
  have B:=DG l.length (decide (l.length=size)) l (QM _);rw[lexGo]at h;split at h
  ·cases h
  split at h
  ·refine⟨[],?_,by simp⟩;rw[ZR];exact (Res.ok.inj h).symm
  split at h
  ·cases h
  rename_i k T rest htok;split at h
  ·cases h
  obtain⟨D,E⟩:=D7 htok (by omega);obtain⟨pre,o,A⟩:=Ek n size rest _ ts (by omega) h;refine⟨⟨k,T,size-(gap (decide (l.length=size)) l).1.length⟩::pre,by rw[o];simp,λt ht=>?_⟩;rcases List.mem_cons.1 ht with rfl|ht
  ·refine⟨KN htok,λhk=>?_⟩;obtain⟨-,-,C⟩:=D5 htok hk;show T.length≤4096;rw[C,ZM];omega
  ·exact A t ht
theorem EH:∀(n size:Nat) (l:List UInt8) (out ts:List Tok),lexGo size n l out=.ok ts→ts.length≤out.length+l.length+1
 | 0,size,l,out,ts,h=>by simp[lexGo]at h
 | n+1,size,l,out,ts,h=>by
  have A:=DG l.length (decide (l.length=size)) l (QM _);rw[lexGo]at h;split at h
  ·cases h
  split at h
  ·rw[← Res.ok.inj h,QU,List.length_singleton];omega
  split at h
  ·cases h
  rename_i k T rest htok;split at h
  ·cases h
  have B:=H7 htok;have o:=EH n size rest _ ts h;rw[QU]at o;simp at o;omega
def TokG (t:Tok):Prop:=(t.kind=1→isLetter (hd t.text)=true∧∀c∈t.text,isWord c=true)∧(t.kind=2∨t.kind=3→numAll t.kind t.text∧t.text.length≤4096)∧(t.kind=4→valid t.text=true)
theorem Nq {t:Tok} (h:Good t.kind t.text) (hl:t.kind=2∨t.kind=3→t.text.length≤4096):TokG t:=by
 refine⟨λhk=>?_,λhk=>⟨Hj h hk,hl hk⟩,h.val⟩;rw[hk]at h;exact LF h
theorem lex_tokG {l:List UInt8} {ts:List Tok} (h:lex l=.ok ts):(∀t∈ts,TokG t)∧ts.length≤l.length+1∧l.length≤4096:=by
 unfold lex at h;by_cases hl:4096<l.length
 ·rw[if_pos hl]at h;cases h
 rw[if_neg hl]at h;obtain⟨A,e,o⟩:=Ek _ _ _ _ _ (by omega) h;rw[ZS]at e;subst e;refine⟨λt ht=>?_,?_,by omega⟩
 ·rcases List.mem_append.1 ht with ht|ht
  ·exact Nq (o t ht).1 (o t ht).2
  ·obtain rfl:=List.mem_singleton.1 ht;exact⟨λe=>(by cases e),λe=>(by rcases e with e|e<;>cases e),λe=>(by cases e)⟩
 ·have:=EH _ _ _ _ _ h
  simpa using this
end Lx
namespace Qr
open Lx
end Qr
end Go.Proofs.YtefjgpkpplkkgaaGreatDoor
namespace Go.Proofs.YtefjgpkpplkkgaaGreatDoor
set_option linter.unusedSimpArgs false
set_option linter.unusedVariables false
open Go Go.RowKit
namespace Rd
open Lx (Tok)
abbrev Pl:=Nat×Option (List UInt8)
def Fits (p:Pl) (t:Tok):Prop:=p.1=t.at_∧∀x,p.2=some x→t.kind≠4∧t.text=x
def BB:List Pl→List Tok→Prop
 | [],_=>True
 | _::_,[]=>False
 | p::ps,t::ts=>(Fits p t∧BB ps ts)∨BB (p::ps) ts
theorem Fs (ts:List Tok):BB [] ts:=by unfold BB;trivial
theorem Da {t:Tok} {ts:List Tok}:∀{ps:List Pl},BB ps ts→BB ps (t::ts)
 | [],_=>Fs _
 | p::ps,h=>by unfold BB;exact .inr h
theorem Fz {ps:List Pl} {ts:List Tok} (h:BB ps ts):∀l:List Tok,BB ps (l++ts)
 | []=>h
 | t::l=>Da (Fz h l)
theorem Du {qs:List Pl} {r:List Tok} (k:BB qs r):∀{ts:List Tok} {ps:List Pl},BB ps ts→BB (ps++qs) (ts++r)
 | ts,[],_=>Fz k ts
 | [],p::ps,h=>by unfold BB at h;exact h.elim
 | t::ts,p::ps,h=>by
  unfold BB at h;show BB (p::(ps++qs)) (t::(ts++r));unfold BB;rcases h with⟨h1,h2⟩|h
  ·exact .inl ⟨h1,Du k h2⟩
  ·exact .inr (Du k h)
theorem I2 {ts:List Tok} {p:Pl}:∀{ps:List Pl},BB (p::ps) ts→BB ps ts:=by
 induction ts with
 | nil=>intro ps h;unfold BB at h;exact h.elim
 | cons t ts ih =>
  intro ps h;unfold BB at h;rcases h with⟨_,h⟩|h
  ·exact Da h
  ·exact Da (ih h)
theorem KX {ps qs:List Pl} (h:List.Sublist ps qs):∀{ts:List Tok},BB qs ts→BB ps ts:=by
 induction h with
 | slnil=>exact λh=>h
 | cons a _ ih=>exact λh=>ih (I2 h)
 | cons_cons a hs ih =>
  intro ts
  induction ts with
  | nil=>intro h;unfold BB at h;exact h.elim
  | cons t ts it =>
   intro h;unfold BB at h ⊢;rcases h with⟨h1,h2⟩|h
   ·exact .inl ⟨h1,ih h2⟩
   ·exact .inr (it h)
def CX (s s':St) (ps:List Pl):Prop:=s'.err=0→s.err=0∧∃pre,s.rest=pre++s'.rest∧(∀t∈pre,t.kind≠0)∧BB ps pre
section
variable {s s' a b c : St} {p q : List Pl}
theorem CX.refl (s:St):CX s s []:=λh=>⟨h,[],rfl,λt ht=>absurd ht (by simp),Fs _⟩
theorem CX.trans (h:CX a b p) (k:CX b c q):CX a c (p++q):=λhe=>by
 obtain⟨C,x,E,F,D⟩:=k he;obtain⟨k1,y,A,o,B⟩:=h C;refine⟨k1,y++x,by rw[A,E,ZJ],λt ht=>?_,Du D B⟩;rcases List.mem_append.1 ht with ht|ht
 ·exact o t ht
 ·exact F t ht
theorem CX.bad (h:s'.err≠0):CX s s' p:=λhe=>absurd he h
theorem CX.sub (h:CX a b p) (k:List.Sublist q p):CX a b q:=λhe=>by
 obtain⟨o,x,B,C,A⟩:=h he;exact⟨o,x,B,C,KX k A⟩
theorem CX.to (h:CX a b p) (e:b=c):CX a c p:=e▸h
def NE (s:St):Prop:=∀t∈s.rest,t.kind=1→t.text≠[]
theorem CX.ne (h:CX a b p) (he:b.err=0) (k:NE a):NE b:=λt ht=>by
 obtain⟨_,x,o,_⟩:=h he;exact k t (by rw[o];exact List.mem_append_right _ ht)
theorem CX.err (h:CX a b p) (he:b.err=0):a.err=0:=(h he).1
theorem peek_head (h:(peek s).kind≠0):∃r,s.rest=peek s::r∧s.rest.drop 1=r:=by
 unfold peek at *;cases hr:s.rest with
 | nil=>rw[hr]at h;exact absurd rfl h
 | cons t r=>exact⟨r,by simp,rfl⟩
theorem isS_parts {c:List UInt8} (h:isS s c=true):s.err=0∧(peek s).kind=5∧(peek s).text=c:=by
 unfold isS at h
 simpa [and_assoc] using h
theorem isN_parts (h:isN s=true):s.err=0∧(peek s).kind=1:=by
 unfold isN at h
 simpa using h
end
structure Rds {α:Type} (f:St→St×α) (pl:St→α→List Pl) (q:α→Prop):Prop where
 eats:∀s,CX s (f s).1 (pl s (f s).2)
 good:∀s,NE s→(f s).1.err=0→q (f s).2
section
variable {α : Type} {f : St → St × α} {pl : α → List Pl} {q : α → Prop}
end
end Rd
namespace Sd
open Rd
def In.pl (x:In):List Pl:=[(x.at_,some x.name)]
def In.ok (x:In):Prop:=x.type≠[]∧x.has=decide (x.dflt.kind≠0)
def Fd.pl (x:Fd):List Pl:=(x.at_,some x.name)::x.args.flatMap In.pl
def Fd.ok (x:Fd):Prop:=x.type≠[]∧∀a∈x.args,a.ok
def Td.pl (x:Td):List Pl:=(x.at_,some (words.getD (x.kind-1) []))::(x.fields.flatMap Fd.pl++x.inputs.flatMap In.pl)
structure Td.ok (x:Td):Prop where
 k1:1≤x.kind
 k6:x.kind≤6
 name:x.name≠[]
 fields:∀f∈x.fields,f.ok
 inputs:∀a∈x.inputs,a.ok
end Sd
end Go.Proofs.YtefjgpkpplkkgaaGreatDoor
