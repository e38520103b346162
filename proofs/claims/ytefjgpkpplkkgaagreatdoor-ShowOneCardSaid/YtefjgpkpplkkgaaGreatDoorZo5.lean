/-
  The reader on tokens that go on behind an end: it reads the same (no program in sight). A good value's text, and its words (plain). A good value's text, piece by piece (plain). What a writer does: what is good is put, what isn't is bad (plain). Values and types in a text, as plain functions; names alone; what is deep (no program in sight). A good value's words are read as the value (plain). How deep a value is; no variable in it (plain). What was read is good, and its words are the tokens it was read of; so its text is read as the value (plain). How much the tokens of a text of 2,000 bytes hold; names and signs stand in it; words of one text are the same (plain). A type's text: its words, lexed and read (plain).
-/
import Derived.Test.YtefjgpkpplkkgaaGreatDoorZo4
import Derived.Test.YtefjgpkpplkkgaaGreatDoorZo3
open Bool renaming and_eq_true → ZF
open List renaming length_cons → QO, length_append → QU, length_map → QZ, append_assoc → ZJ, getElem?_eq_getElem → ZL, append_nil → ZR, nil_append → ZS, map_cons → ZU, eq_nil_of_length_eq_zero → JB
open Nat renaming le_refl → QM, zero_le → ZX
namespace Go.Proofs.YtefjgpkpplkkgaaGreatDoor
set_option linter.unusedSimpArgs false
set_option linter.unusedVariables false
namespace Rd
open Lx (Tok)
def ktx (t:Tok):Nat×List UInt8:=(t.kind,t.text)
def IB (us:List Tok):Prop:=∃h r,us=h::r∧h.kind≠5∧(h.kind=1→h.text≠Sd.sImpl)
def J (e:Tok) (us:List Tok) (m:Nat) (s1 s2:St):Prop :=
 ∃a a':List Tok,a.length=m∧a.map ktx=a'.map ktx∧s1.rest=a++[e]∧s2.rest=a'++us∧s1.deep=s2.deep∧s1.err=0∧s2.err=0∧∀t∈a,t.kind≠0
section
variable {e : Tok} {us : List Tok} {m : Nat} {s1 s2 : St}
theorem J.e1 (h:J e us m s1 s2):s1.err=0:=by obtain⟨a,a',h1,h2,h3,h4,h5,h6,h7,h8⟩:=h;exact h6
theorem J.e2 (h:J e us m s1 s2):s2.err=0:=by obtain⟨a,a',h1,h2,h3,h4,h5,h6,h7,h8⟩:=h;exact h7
theorem J.deep (h:J e us m s1 s2):s1.deep=s2.deep:=by obtain⟨a,a',h1,h2,h3,h4,h5,h6,h7,h8⟩:=h;exact h5
theorem J.len (h:J e us m s1 s2):s1.rest.length=m+1∧m≤s2.rest.length:=by
 obtain⟨a,D,o,B,C,A,-⟩:=h;have:=congrArg List.length B;rw[QZ,QZ]at this;rw[C,A,QU,QU];exact⟨by simp;exact o,by omega⟩
theorem J.setDeep (h:J e us m s1 s2) {d1 d2:Int} (hd:d1=d2):J e us m { s1 with deep:=d1 } { s2 with deep:=d2 }:=by
 obtain⟨a,F,B,E,G,D,H,A,o,C⟩:=h;exact⟨a,F,B,E,G,D,hd,A,o,C⟩
theorem J.zero (h:J e us 0 s1 s2) (hu:IB us):peek s1=e∧∃x r,us=x::r∧x.kind≠5∧(x.kind=1→x.text≠Sd.sImpl)∧peek s2=x:=by
 obtain⟨a,o,B,D,E,C,-⟩:=h;obtain rfl:=JB B;have:o=[]:=by cases o with
  | nil=>rfl
  | cons _ _=>simp at D
 subst this;obtain⟨x,r,rfl,A⟩:=hu;refine⟨by unfold peek;rw[E];rfl,x,r,rfl,A.1,A.2,by unfold peek;rw[C];rfl⟩
theorem J.peek (h:J e us (m+1) s1 s2):(peek s1).kind=(peek s2).kind∧(peek s1).text=(peek s2).text:=by
 obtain⟨a,A,B,o,D,C,-⟩:=h;cases a with
 | nil=>simp at B
 | cons x a=>cases A with
  | nil=>simp at o
  | cons y A =>
   simp only[ZU,List.cons.injEq,ktx,Prod.mk.injEq]at o;unfold Rd.peek;rw[D,C];exact o.1
theorem J.next (h:J e us (m+1) s1 s2) (hk:(Rd.peek s1).kind≠0):J e us m (next s1) (next s2):=by
 have H:=h.peek;obtain⟨a,A,D,o,I,G,F,C,B,E⟩:=h;unfold Rd.next;rw[if_pos ⟨C,hk⟩,if_pos ⟨B,by rw[← H.1];exact hk⟩];cases a with
 | nil=>simp at D
 | cons x a=>cases A with
  | nil=>simp at o
  | cons y A =>
   simp only[ZU,List.cons.injEq]at o;exact⟨a,A,by simpa using D,o.2,by show s1.rest.drop 1=_;rw[I];rfl,by show s2.rest.drop 1=_;rw[G];rfl,F,C,B,λt ht=>E t (List.mem_cons_of_mem _ ht)⟩
theorem J.isS (h:J e us m s1 s2) (he:e.kind=0) (hu:IB us) (c:List UInt8):Rd.isS s1 c=Rd.isS s2 c:=by
 cases m with
 | zero =>
  obtain⟨A,x,r,-,B,-,o⟩:=h.zero hu;unfold Rd.isS;rw[A,o,he];simp[B]
 | succ m =>
  unfold Rd.isS;rw[h.e1,h.e2,h.peek.1,h.peek.2]
theorem J.isW (h:J e us (m+1) s1 s2) (ws:List (List UInt8)):Rd.isW s1 ws=Rd.isW s2 ws:=by
 unfold Rd.isW Rd.isN;rw[h.e1,h.e2,h.peek.1,h.peek.2]
theorem J.isN (h:J e us (m+1) s1 s2):Rd.isN s1=Rd.isN s2:=by
 unfold Rd.isN;rw[h.e1,h.e2,h.peek.1]
theorem J.sign (h:J e us m s1 s2) (he:e.kind=0) (hu:IB us) {c:List UInt8} (hs:Rd.isS s1 c=true):∃k,m=k+1∧J e us k (Rd.next s1) (Rd.next s2):=by
 cases m with
 | zero =>
  obtain⟨o,-⟩:=h.zero hu;have:=isS_parts hs;rw[o,he]at this;omega
 | succ m =>
  have:=isS_parts hs;exact⟨m,rfl,h.next (by omega)⟩
theorem J.name (h:J e us m s1 s2) (he:e.kind=0) (hu:IB us) (hz:(Rd.name s1).1.err=0):∃k,m=k+1∧J e us k (Rd.name s1).1 (Rd.name s2).1∧(Rd.name s1).2=(Rd.name s2).2:=by
 cases m with
 | zero =>
  obtain⟨o,-⟩:=h.zero hu;unfold Rd.name Rd.isN at hz;rw[o,he]at hz;simp at hz;exact absurd hz wrong_bad
 | succ m =>
  unfold Rd.name at hz ⊢;rw[← h.isN];split
  ·rename_i hn;have:=isN_parts hn;exact⟨m,rfl,h.next (by omega),h.peek.2⟩
  ·rename_i hn;rw[if_neg hn]at hz;exact absurd hz wrong_bad
theorem J.want (h:J e us m s1 s2) (he:e.kind=0) (hu:IB us) {c:List UInt8} (hz:(Rd.want c s1).err=0):∃k,m=k+1∧J e us k (Rd.want c s1) (Rd.want c s2):=by
 unfold Rd.want at hz ⊢;rw[← h.isS he hu];split
 ·rename_i hs;exact h.sign he hu hs
 ·rename_i hs;rw[if_neg hs]at hz;exact absurd hz wrong_bad
theorem J.take (h:J e us m s1 s2) (he:e.kind=0) (hu:IB us) (c:List UInt8):∃k,k≤m∧J e us k (Rd.take c s1) (Rd.take c s2):=by
 unfold Rd.take;rw[← h.isS he hu];split
 ·rename_i hs;obtain⟨k,A,o⟩:=h.sign he hu hs;exact⟨k,by omega,o⟩
 ·exact⟨m,QM _,h⟩
theorem J.down (h:J e us m s1 s2) (he:e.kind=0) (hu:IB us) {c:List UInt8} (hz:(Rd.down c s1).err=0):∃k,m=k+1∧J e us k (Rd.down c s1) (Rd.down c s2):=by
 unfold Rd.down at hz ⊢
 dsimp only at hz ⊢
 rw[← h.isS he hu,← h.deep];by_cases hd:Rd.isS s1 c=true∧s1.deep=16
 ·rw[if_pos hd]at hz;have A:(fail 42 s1).err≠0:=by unfold fail;rw[if_pos h.e1];simp
  have:=(ok_want c (fail 42 s1)).err A;rw[this]at hz;exact absurd hz A
 ·rw[if_neg hd,if_neg hd]at *;obtain⟨k,B,o⟩:=h.want he hu hz;exact⟨k,B,o.setDeep (by rw[o.deep])⟩
theorem J.up (h:J e us m s1 s2) (he:e.kind=0) (hu:IB us) {c:List UInt8} (hz:(Rd.up c s1).err=0):∃k,m=k+1∧J e us k (Rd.up c s1) (Rd.up c s2):=by
 obtain⟨k,A,o⟩:=h.want he hu (c:=c) hz;exact⟨k,A,o.setDeep (by rw[o.deep])⟩
end
section
variable {e : Tok} {us : List Tok}
theorem err_back {a b:St} (h:Ok a b) (hb:b.err=0):a.err=0:=by
 by_cases h0:a.err=0
 ·exact h0
 ·have:=h.err h0;rw[this]at hb;exact absurd hb h0
end
end Rd
namespace Sd
open Rd
open Lx (Tok)
section
variable {e : Tok} {us : List Tok}
end
theorem begin_ok {l:List UInt8} (h:(begin_ l).err=0) (hc:∀a c,Lx.lex l=.err a c→c≠0):∃ts,Lx.lex l=.ok ts∧begin_ l=⟨ts,0,0,0⟩:=by
 unfold begin_ at h ⊢;cases hl:Lx.lex l with
 | ok ts=>exact⟨ts,rfl,by rfl⟩
 | err a c =>
  rw[hl]at h;exact absurd h (hc a c hl)
end Sd
namespace Vl
def many (k:Int):Prop:=k=8∨k=9
instance (k : Int) : Decidable (many k) := by unfold many; infer_instance
-- Has a value a text?
mutual
def Z.good:Nat→Z→Bool
 | deep,.mk k t i f _=>parts k i.length f.length&&(if 1≤k∧k≤7 then (leaf k t).1 else if many k then (decide (t=[])&&decide (deep<16))&&(Z.goods (deep+1) i&&ZA.goods (deep+1) f) else false)
def Z.goods:Nat→List Z→Bool
 | _,[]=>true
 | deep,x::r=>Z.good deep x&&Z.goods deep r
def ZA.good:Nat→ZA→Bool
 | deep,.mk n v _=>Lx.isName n&&Z.good deep v
def ZA.goods:Nat→List ZA→Bool
 | _,[]=>true
 | deep,x::r=>ZA.good deep x&&ZA.goods deep r
end
-- Its text.
def gp (b:Bool):List UInt8:=if b then [] else [44,32]
mutual
def Z.str:Z→List UInt8
 | .mk k t i f _=>if many k then opn k++(Z.strs true i++(ZA.strs true f++shut k)) else (leaf k t).2
def Z.strs:Bool→List Z→List UInt8
 | _,[]=>[]
 | b,x::r=>gp b++(Z.str x++Z.strs false r)
def ZA.str:ZA→List UInt8
 | .mk n v _=>n++([58,32]++Z.str v)
def ZA.strs:Bool→List ZA→List UInt8
 | _,[]=>[]
 | b,x::r=>gp b++(ZA.str x++ZA.strs false r)
end
theorem Z.good_eq (deep:Nat) (z:Z):z.good deep=(parts z.kind z.items.length z.fields.length&&(if 1≤z.kind∧z.kind≤7 then (leaf z.kind z.text).1 else if many z.kind then (decide (z.text=[])&&decide (deep<16))&&(Z.goods (deep+1) z.items&&ZA.goods (deep+1) z.fields) else false)):=by
 cases z;rw[Z.good];rfl
theorem Jp (b:Bool) (s:Sh):sep b s=put (gp b) s:=by
 unfold sep gp put;cases b<;>simp
def Does (f:Sh→Sh) (g:Bool) (t:List UInt8):Prop:=(∀s,s.bad=true→(f s).bad=true)∧∀s,s.bad=false→(g=true→f s=⟨s.out++t,false⟩)∧(g=false→(f s).bad=true)
theorem CN (t:List UInt8):Does (put t) true t:=⟨λs h=>h,λs h=>⟨λ_=>by unfold put;rw[h],λe=>by cases e⟩⟩
theorem Bg (b:Bool):Does (need b) b []:=⟨λs h=>by unfold need;rw[h];rfl,λs h=>⟨λe=>by unfold need;rw[h,e];simp,λe=>by unfold need;rw[h,e];rfl⟩⟩
theorem Jt:Does (λs=>s) true []:=⟨λs h=>h,λs h=>⟨λ_=>by cases s;simp at h ⊢;exact h,λe=>by cases e⟩⟩
theorem Does.comp {f f2:Sh→Sh} {g g2:Bool} {t t2:List UInt8} (h:Does f g t) (h2:Does f2 g2 t2):Does (λs=>f2 (f s)) (g&&g2) (t++t2):=by
 refine⟨λs hs=>h2.1 _ (h.1 _ hs),λs hs=>⟨λhg=>?_,λhg=>?_⟩⟩
 ·rw[ZF]at hg;show f2 (f s)=_;rw[(h.2 s hs).1 hg.1,(h2.2 _ rfl).1 hg.2,ZJ]
 ·show (f2 (f s)).bad=true;cases g with
  | false=>exact h2.1 _ ((h.2 s hs).2 rfl)
  | true =>
   rw[(h.2 s hs).1 rfl];exact (h2.2 _ rfl).2 (by simpa using hg)
theorem Does.to {f:Sh→Sh} {g g2:Bool} {t t2:List UInt8} (h:Does f g t) (e:g=g2) (e2:t=t2):Does f g2 t2:=by subst e e2;exact h
mutual
theorem C3:∀(z:Z) (deep:Nat),Does (z.show deep) (z.good deep) z.str
 | .mk k t i f a,deep=>by
  by_cases h1:1≤k∧k≤7
  ·have E:¬many k:=by unfold many;omega
   have e:(Z.mk k t i f a).show deep=λs=>put (leaf k t).2 (need (leaf k t).1 (need (parts k i.length f.length) s)):=by
    funext s
    exact Z.show_leaf (x:=Z.mk k t i f a) h1
   rw[e];exact (((Bg (parts k i.length f.length)).comp (Bg (leaf k t).1)).comp (CN (leaf k t).2)).to (by rw[Z.good,if_pos h1,Bool.and_true]) (by rw[Z.str,if_neg E];rfl)
  by_cases h2:many k
  ·have e:(Z.mk k t i f a).show deep=λs=>if (need (decide (t=[])&&decide (deep<16)) (need (parts k i.length f.length) s)).bad=true then need (decide (t=[])&&decide (deep<16)) (need (parts k i.length f.length) s)
     else put (shut k) (ZA.shows (deep+1) true f (Z.shows (deep+1) true i (put (opn k) (need (decide (t=[])&&decide (deep<16)) (need (parts k i.length f.length) s))))):=by
    funext s
    exact Z.show_many (x:=Z.mk k t i f a) h2
   have B:=((((CN (opn k)).comp (FW i (deep+1) true)).comp (EG f (deep+1) true)).comp (CN (shut k)))
   have o:=(Bg (parts k i.length f.length)).comp (Bg (decide (t=[])&&decide (deep<16)));have A:(Z.mk k t i f a).good deep=((parts k i.length f.length&&(decide (t=[])&&decide (deep<16)))&&(((true&&Z.goods (deep+1) i)&&ZA.goods (deep+1) f)&&true)):=by
    rw[Z.good,if_neg h1,if_pos h2,Bool.true_and,Bool.and_true,Bool.and_assoc (parts k i.length f.length)]
   have F:(Z.mk k t i f a).str=([]++[])++(((opn k++Z.strs true i)++ZA.strs true f)++shut k):=by
    rw[Z.str,if_pos h2];simp
   rw[e,A,F];have D:=o.comp B;refine⟨λs hs=>?_,λs hs=>⟨λA=>?_,λA=>?_⟩⟩
   ·show (if _ then _ else _:Sh).bad=true;rw[if_pos (o.1 s hs)];exact o.1 s hs
   ·have C:=(D.2 s hs).1 A;rw[ZF]at A;have G:=(o.2 s hs).1 A.1;show (if _ then _ else _:Sh)=_;rw[if_neg (by show ¬(need _ (need _ s)).bad=true;rw[show need (decide (t=[])&&decide (deep<16)) (need (parts k i.length f.length) s)=_ from G];simp)];exact C
   ·have C:=(D.2 s hs).2 A;show (if _ then _ else _:Sh).bad=true;split
    ·assumption
    ·exact C
  ·have e:(Z.mk k t i f a).show deep=λs=>need false (need (parts k i.length f.length) s):=by
    funext s
    exact Z.show_else (x:=Z.mk k t i f a) h1 h2
   have A:(Z.mk k t i f a).good deep=(parts k i.length f.length&&false):=by rw[Z.good,if_neg h1,if_neg h2]
   rw[e,A];have:=(Bg (parts k i.length f.length)).comp (Bg false);refine⟨this.1,λs hs=>⟨λh=>by simp at h,(this.2 s hs).2⟩⟩
theorem FW:∀(l:List Z) (deep:Nat) (b:Bool),Does (Z.shows deep b l) (Z.goods deep l) (Z.strs b l)
 | [],deep,b=>by
  have e:Z.shows deep b []=λs=>s:=by funext s;exact Z.shows_nil _ _ _
  rw[e,Z.goods,Z.strs];exact Jt
 | x::r,deep,b=>by
  have e:Z.shows deep b (x::r)=λs=>Z.shows deep false r (Z.show deep x (put (gp b) s)):=by funext s;rw[Z.shows_cons,Jp]
  rw[e,Z.goods,Z.strs];exact (((CN (gp b)).comp (C3 x deep)).comp (FW r deep false)).to (by rw[Bool.true_and]) (by rw[ZJ])
theorem Im:∀(x:ZA) (deep:Nat),Does (ZA.show deep x) (ZA.good deep x) x.str
 | .mk n v a,deep=>by
  have e:ZA.show deep (.mk n v a)=λs=>Z.show deep v (put (n++[58,32]) (need (Lx.isName n) s)):=by funext s;rw[ZA.show]
  rw[e,ZA.good,ZA.str];exact (((Bg (Lx.isName n)).comp (CN (n++[58,32]))).comp (C3 v deep)).to (by rw[Bool.and_true]) (by simp)
theorem EG:∀(l:List ZA) (deep:Nat) (b:Bool),Does (ZA.shows deep b l) (ZA.goods deep l) (ZA.strs b l)
 | [],deep,b=>by
  have e:ZA.shows deep b []=λs=>s:=by funext s;exact ZA.shows_nil _ _ _
  rw[e,ZA.goods,ZA.strs];exact Jt
 | x::r,deep,b=>by
  have e:ZA.shows deep b (x::r)=λs=>ZA.shows deep false r (ZA.show deep x (put (gp b) s)):=by funext s;rw[ZA.shows_cons,Jp]
  rw[e,ZA.goods,ZA.strs];exact (((CN (gp b)).comp (Im x deep)).comp (EG r deep false)).to (by rw[Bool.true_and]) (by rw[ZJ])
end
theorem shown_good {z:Z} (h:z.good 0=true):z.show 0 ⟨[],false⟩=⟨z.str,false⟩:=((C3 z 0).2 ⟨[],false⟩ rfl).1 h
theorem shown_bad {z:Z} (h:z.good 0=false):(z.show 0 ⟨[],false⟩).bad=true:=((C3 z 0).2 ⟨[],false⟩ rfl).2 h
-- The same but for places: the same text, good likewise.
mutual
theorem same_str:∀(x y:Z),x.same y=true→x.str=y.str∧∀deep,x.good deep=y.good deep
 | .mk k t i f a,.mk k' t' i' f' a',h=>by
  rw[Z.same]at h;simp only[ZF,decide_eq_true_eq]at h;obtain⟨rfl,rfl,D,B⟩:=h;have o:=GN i i' D;have A:=FK f f' B;refine⟨by rw[Z.str,Z.str,o.1,A.1],λdeep=>?_⟩;rw[Z.good,Z.good,o.2.1,A.2.1,o.2.2,A.2.2]
theorem GN:∀(l m:List Z),Z.sames l m=true→(∀b,Z.strs b l=Z.strs b m)∧(∀deep,Z.goods deep l=Z.goods deep m)∧l.length=m.length
 | [],[],_=>⟨λ_=>rfl,λ_=>rfl,rfl⟩
 | x::r,y::s,h=>by
  rw[Z.sames_cons,ZF]at h;have o:=same_str x y h.1;have A:=GN r s h.2;exact⟨λb=>by rw[Z.strs,Z.strs,o.1,A.1],λdeep=>by rw[Z.goods,Z.goods,o.2,A.2.1],by rw[QO,QO,A.2.2]⟩
 | [],_::_,h=>by rw[Z.sames]at h;cases h
 | _::_,[],h=>by rw[Z.sames]at h;cases h
theorem sameA_str:∀(x y:ZA),x.same y=true→x.str=y.str∧∀deep,x.good deep=y.good deep
 | .mk n v a,.mk n' v' a',h=>by
  rw[ZA.same]at h;simp only[ZF,decide_eq_true_eq]at h;obtain⟨rfl,C⟩:=h;have o:=same_str v v' C;exact⟨by rw[ZA.str,ZA.str,o.1],λdeep=>by rw[ZA.good,ZA.good,o.2]⟩
theorem FK:∀(l m:List ZA),ZA.sames l m=true→(∀b,ZA.strs b l=ZA.strs b m)∧(∀deep,ZA.goods deep l=ZA.goods deep m)∧l.length=m.length
 | [],[],_=>⟨λ_=>rfl,λ_=>rfl,rfl⟩
 | x::r,y::s,h=>by
  rw[ZA.sames_cons,ZF]at h;have o:=sameA_str x y h.1;have A:=FK r s h.2;exact⟨λb=>by rw[ZA.strs,ZA.strs,o.1,A.1],λdeep=>by rw[ZA.goods,ZA.goods,o.2,A.2.1],by rw[QO,QO,A.2.2]⟩
 | [],_::_,h=>by rw[ZA.sames]at h;cases h
 | _::_,[],h=>by rw[ZA.sames]at h;cases h
end
-- Its words.
def EO (g:List UInt8) (k:Int) (t:List UInt8):List Lx.Wd :=
 if k=1 then [⟨g,5,[36],[36]⟩,⟨[],1,t,t⟩]
 else if k=2 then [⟨g,2,t,t⟩]
 else if k=3 then [⟨g,3,t,t⟩]
 else if k=4 then [⟨g,4,t,quoteOf t⟩]
 else if k=5 then [⟨g,1,t,t⟩]
 else if k=6 then [⟨g,1,Rd.sNull,Rd.sNull⟩]
 else [⟨g,1,t,t⟩]
mutual
def Z.wds:List UInt8→Z→List Lx.Wd
 | g,.mk k t i f _=>if many k then ⟨g,5,opn k,opn k⟩::(Z.wdss true i++(ZA.wdss true f++[⟨[],5,shut k,shut k⟩])) else EO g k t
def Z.wdss:Bool→List Z→List Lx.Wd
 | _,[]=>[]
 | b,x::r=>Z.wds (gp b) x++Z.wdss false r
def ZA.wds:List UInt8→ZA→List Lx.Wd
 | g,.mk n v _=>⟨g,1,n,n⟩::⟨[],5,[58],[58]⟩::Z.wds [32] v
def ZA.wdss:Bool→List ZA→List Lx.Wd
 | _,[]=>[]
 | b,x::r=>ZA.wds (gp b) x++ZA.wdss false r
end
theorem Kr (g:List UInt8) (k:Int) (t:List UInt8):Lx.flat (EO g k t)=g++(leaf k t).2:=by
 unfold EO leaf
 repeat' split
 all_goals simp[Lx.flat]
mutual
theorem flat_wds:∀(z:Z) (g:List UInt8),Lx.flat (Z.wds g z)=g++z.str
 | .mk k t i f a,g=>by
  rw[Z.wds,Z.str];split
  ·rw[Lx.flat,Lx.flat_app,Lx.flat_app,D3 i true,EA f true];simp[Lx.flat]
  ·exact Kr g k t
theorem D3:∀(l:List Z) (b:Bool),Lx.flat (Z.wdss b l)=Z.strs b l
 | [],b=>by rw[Z.wdss,Z.strs];rfl
 | x::r,b=>by rw[Z.wdss,Z.strs,Lx.flat_app,flat_wds x,D3 r false,ZJ]
theorem flat_wda:∀(z:ZA) (g:List UInt8),Lx.flat (ZA.wds g z)=g++z.str
 | .mk n v a,g=>by
  rw[ZA.wds,ZA.str,Lx.flat,Lx.flat,flat_wds v];simp
theorem EA:∀(l:List ZA) (b:Bool),Lx.flat (ZA.wdss b l)=ZA.strs b l
 | [],b=>by rw[ZA.wdss,ZA.strs];rfl
 | x::r,b=>by rw[ZA.wdss,ZA.strs,Lx.flat_app,flat_wda x,EA r false,ZJ]
end
theorem MA (r:List Z) (l:List UInt8) (h:Lx.Neu l):Lx.Neu (Z.strs false r++l):=by
 cases r with
 | nil=>rw[Z.strs];exact h
 | cons x r=>rw[Z.strs];exact Lx.neu_cons 44 _ (by decide)
theorem Kf (r:List ZA) (l:List UInt8) (h:Lx.Neu l):Lx.Neu (ZA.strs false r++l):=by
 cases r with
 | nil=>rw[ZA.strs];exact h
 | cons x r=>rw[ZA.strs];exact Lx.neu_cons 44 _ (by decide)
theorem CW {t:List UInt8} (h:Lx.isName t=true):Lx.isLetter (Lx.hd t)=true∧∀c∈t,Lx.isWord c=true:=by
 unfold Lx.isName at h;rw[ZF,List.all_eq_true]at h;exact h
theorem F9 {t:List UInt8} {k:Nat} (h:one t k=true) (hk:k=2∨k=3):Lx.numAll k t∧t.length≤4096:=by
 unfold one at h;split at h
 ·rename_i x y hx;rw[ZF,decide_eq_true_eq,decide_eq_true_eq]at h;exact Lx.numAll_one hx h.1 h.2 hk
 ·cases h
theorem st_name {g t l:List UInt8} (hg:∀d∈g,Lx.isBlank d=true) (h:Lx.isName t=true) (hl:Lx.Neu l):Lx.StandsW ⟨g,1,t,t⟩ l :=
 Lx.stands_name g hg (CW h).1 (CW h).2 hl.w
theorem JQ {g l t:List UInt8} {k:Int} (hg:∀d∈g,Lx.isBlank d=true) (h:(leaf k t).1=true) (hl:Lx.Neu l):Lx.StandAll (EO g k t) l:=by
 unfold leaf at h;unfold EO;by_cases c1:k=1
 ·rw[if_pos c1]at h ⊢;exact⟨Lx.stands_sign g hg (by decide) _,st_name (by simp) h hl,trivial⟩
 rw[if_neg c1]at h ⊢;by_cases c2:k=2
 ·rw[if_pos c2]at h ⊢;exact⟨Lx.stands_num hg (F9 h (.inl rfl)).1 hl,trivial⟩
 rw[if_neg c2]at h ⊢;by_cases c3:k=3
 ·rw[if_pos c3]at h ⊢;exact⟨Lx.stands_num hg (F9 h (.inr rfl)).1 hl,trivial⟩
 rw[if_neg c3]at h ⊢;by_cases c4:k=4
 ·rw[if_pos c4]at h ⊢;have h:Lx.valid t=true:=h;unfold quoteOf;rw[if_pos h];exact⟨Lx.stands_quote hg h hl,trivial⟩
 rw[if_neg c4]at h ⊢;by_cases c5:k=5
 ·rw[if_pos c5]at h ⊢;have h:(decide (t=Rd.sTrue)||decide (t=Rd.sFalse))=true:=h;rw[Bool.or_eq_true,decide_eq_true_eq,decide_eq_true_eq]at h;refine⟨?_,trivial⟩;rcases h with rfl|rfl
  ·exact st_name hg (by decide) hl
  ·exact st_name hg (by decide) hl
 rw[if_neg c5]at h ⊢;by_cases c6:k=6
 ·rw[if_pos c6];exact⟨st_name hg (by decide) hl,trivial⟩
 rw[if_neg c6]at h ⊢;have h:(Lx.isName t&&_)=true:=h;rw[ZF]at h;exact⟨st_name hg h.1 hl,trivial⟩
theorem HW (b:Bool):∀d∈gp b,Lx.isBlank d=true:=by
 cases b<;>decide
mutual
theorem stand_wds:∀(z:Z) (g l:List UInt8) (deep:Nat),(∀d∈g,Lx.isBlank d=true)→z.good deep=true→Lx.Neu l→Lx.StandAll (Z.wds g z) l
 | .mk k t i f a,g,l,deep,hg,h,hl=>by
  rw[Z.good,ZF]at h;rw[Z.wds];by_cases hm:many k
  ·rw[if_neg (by unfold many at hm;omega),if_pos hm]at h;simp only[ZF]at h;obtain⟨A,⟨D,E⟩,hi,C⟩:=h;rw[if_pos hm];have o:(Lx.signs.contains (if k=9 then 123 else 91)=true∧opn k=[if k=9 then 123 else 91])∧(Lx.signs.contains (if k=9 then 125 else 93)=true∧shut k=[if k=9 then 125 else 93]):=by
    unfold opn shut;split<;>exact⟨⟨by decide,rfl⟩,by decide,rfl⟩
   have B:Lx.Neu (shut k++l):=by
    unfold shut;split<;>exact Lx.neu_cons _ _ (by decide)
   refine⟨by rw[o.1.2];exact Lx.stands_sign g hg o.1.1 _,?_⟩;refine Lx.standAll_app ?_ (Lx.standAll_app ?_ ⟨by rw[o.2.2];exact Lx.stands_sign [] (by simp) o.2.1 _,trivial⟩)
   ·by_cases h9:k=9
    ·have:i=[]:=by
      unfold parts at A;simp[h9]at A;exact A
     subst this;rw[Z.wdss];trivial
    ·have:f=[]:=by
      unfold parts at A;simp[h9]at A;exact A.2
     subst this;rw[ZA.wdss];refine FZ i _ (deep+1) true hi ?_
     simpa [Lx.flat] using B
   ·refine FD f _ (deep+1) true C ?_
    simpa [Lx.flat] using B
  ·rw[if_neg hm];by_cases h1:1≤k∧k≤7
   ·rw[if_pos h1]at h;exact JQ hg h.2 hl
   ·rw[if_neg h1,if_neg hm]at h;cases h.2
theorem FZ:∀(r:List Z) (l:List UInt8) (deep:Nat) (b:Bool),Z.goods deep r=true→Lx.Neu l→Lx.StandAll (Z.wdss b r) l
 | [],l,deep,b,h,hl=>by rw[Z.wdss];trivial
 | x::r,l,deep,b,h,hl=>by
  rw[Z.goods,ZF]at h;rw[Z.wdss];refine Lx.standAll_app (stand_wds x _ _ deep (HW b) h.1 ?_) (FZ r l deep false h.2 hl);rw[D3];exact MA r l hl
theorem stand_wda:∀(z:ZA) (g l:List UInt8) (deep:Nat),(∀d∈g,Lx.isBlank d=true)→z.good deep=true→Lx.Neu l→Lx.StandAll (ZA.wds g z) l
 | .mk n v a,g,l,deep,hg,h,hl=>by
  rw[ZA.good,ZF]at h;rw[ZA.wds];refine⟨st_name hg h.1 ?_,Lx.stands_sign [] (by simp) (by decide) _,stand_wds v [32] l deep (by decide) h.2 hl⟩;exact Lx.neu_cons 58 _ (by decide)
theorem FD:∀(r:List ZA) (l:List UInt8) (deep:Nat) (b:Bool),ZA.goods deep r=true→Lx.Neu l→Lx.StandAll (ZA.wdss b r) l
 | [],l,deep,b,h,hl=>by rw[ZA.wdss];trivial
 | x::r,l,deep,b,h,hl=>by
  rw[ZA.goods,ZF]at h;rw[ZA.wdss];refine Lx.standAll_app (stand_wda x _ _ deep (HW b) h.1 ?_) (FD r l deep false h.2 hl);rw[EA];exact Kf r l hl
end
end Vl
namespace Vl
theorem OM (b:Bool):(gp b).length≤2:=by cases b<;>decide
mutual
theorem str_le:∀z:Z,z.str.length≤z.cost
 | .mk k t i f a=>by
  have o:=J0 true i;have A:=Ic true f;have B:=Lv k;have D:=Jx k;have C:=Jz k t;rw[Z.str,Z.cost];split
  ·simp only[QU];omega
  ·omega
theorem J0:∀(b:Bool) (l:List Z),(Z.strs b l).length≤Z.costs l
 | _,[]=>by rw[Z.strs];exact ZX _
 | b,x::r=>by
  have o:=str_le x;have A:=J0 false r;have B:=OM b;rw[Z.strs,Z.costs];simp only[QU];omega
theorem N8:∀z:ZA,z.str.length≤z.cost
 | .mk n v a=>by
  have o:=str_le v;rw[ZA.str,ZA.cost];simp only[QU,QO,List.length_nil];omega
theorem Ic:∀(b:Bool) (l:List ZA),(ZA.strs b l).length≤ZA.costs l
 | _,[]=>by rw[ZA.strs];exact ZX _
 | b,x::r=>by
  have o:=N8 x;have A:=Ic false r;have B:=OM b;rw[ZA.strs,ZA.costs];simp only[QU];omega
end
end Vl
namespace Vl
structure Eff (s:Sh) (g:Bool) (t:List UInt8) (c:Nat) (s':Sh):Prop where
 bad:s.bad=true→s'.bad=true
 ok:s.bad=false→g=true→s'=⟨s.out++t,false⟩
 no:s.bad=false→g=false→s'.bad=true
 len:s'.out.length≤s.out.length+c
theorem Eff.refl (s:Sh):Eff s true [] 0 s:=⟨λh=>h,λh _=>(by cases s;simp at h ⊢;exact h),λ_ h=>(by cases h),by omega⟩
theorem Eff.put (t:List UInt8) (s:Sh):Eff s true t t.length (put t s) :=
 ⟨λh=>h,λh _=>(by unfold Vl.put;rw[h]),λ_ h=>(by cases h),by rw[put_out,QU];omega⟩
theorem Eff.need (b:Bool) (s:Sh):Eff s b [] 0 (need b s):=by
 refine⟨λh=>?_,λh e=>?_,λh e=>?_,by rw[need_out];omega⟩
 ·unfold Vl.need;rw[h];rfl
 ·unfold Vl.need;rw[h,e];simp
 ·unfold Vl.need;rw[h,e];rfl
theorem Eff.skip {s:Sh} (h:s.bad=true) (g:Bool) (t:List UInt8):Eff s g t 0 s:=⟨λh=>h,λh2=>(by rw[h]at h2;cases h2),λh2=>(by rw[h]at h2;cases h2),by omega⟩
theorem Eff.comp {s s1 s2:Sh} {g g2:Bool} {t t2:List UInt8} {c c2:Nat} (h:Eff s g t c s1) (k:Eff s1 g2 t2 c2 s2):Eff s (g&&g2) (t++t2) (c+c2) s2:=by
 refine⟨λhb=>k.bad (h.bad hb),λhb hg=>?_,λhb hg=>?_,by have:=h.len;have:=k.len;omega⟩
 ·rw[ZF]at hg;have e:=h.ok hb hg.1;have o:=k.ok (by rw[e]) hg.2;rw[o,e,ZJ]
 ·cases g with
  | false=>exact k.bad (h.no hb rfl)
  | true =>
   have e:=h.ok hb rfl;exact k.no (by rw[e]) (by simpa using hg)
theorem Eff.to {s s':Sh} {g g2:Bool} {t t2:List UInt8} {c c2:Nat} (h:Eff s g t c s') (e:g=g2) (e2:g2=true→t=t2) (hc:c≤c2):Eff s g2 t2 c2 s':=by
 subst e;exact⟨h.bad,λhb hg=>by rw[h.ok hb hg,e2 hg],h.no,by have:=h.len;omega⟩
theorem Eff.done {t:List UInt8} {g:Bool} {c:Nat} {s':Sh} (h:Eff ⟨[],false⟩ g t c s'):s'.bad=!g∧(g=true→s'.out=t):=by
 cases g with
 | true=>have e:=h.ok rfl rfl;rw[e];exact⟨rfl,λ_=>rfl⟩
 | false=>exact⟨h.no rfl rfl,λe=>by cases e⟩
-- Many, with something Bq.
def gds (g:Nat→Bool):Nat→Bool
 | 0=>true
 | n+1=>gds g n&&g n
def tds (t:Nat→List UInt8) (m:List UInt8):Nat→List UInt8
 | 0=>[]
 | n+1=>tds t m n++((if n=0 then [] else m)++t n)
def cds (c:Nat→Nat) (m:Nat):Nat→Nat
 | 0=>0
 | n+1=>cds c m n+(m+c n)
theorem cds_le (c:Nat→Nat) (m:Nat):∀{i n:Nat},i<n→cds c m i+(m+c i)≤cds c m n
 | i,n+1,h=>by
  by_cases e:i=n
  ·subst e;exact QM _
  ·have:=cds_le c m (i:=i) (n:=n) (by omega);rw[cds];omega
theorem cds_mono (c:Nat→Nat) (m:Nat):∀{i n:Nat},i≤n→cds c m i≤cds c m n
 | i,0,h=>by
   obtain rfl:i=0:=by omega
   exact QM _
 | i,n+1,h=>by
  by_cases e:i=n+1
  ·subst e;exact QM _
  ·have:=cds_mono c m (i:=i) (n:=n) (by omega);rw[cds];omega
-- Over a list.
def ats {α β:Type} (l:List α) (f:α→β) (d:β) (i:Nat):β:=match l[i]? with|some x=>f x|none=>d
def joinT {α:Type} (f:α→List UInt8) (m:List UInt8):Bool→List α→List UInt8
 | _,[]=>[]
 | b,x::r=>(if b then [] else m)++(f x++joinT f m false r)
def sumC {α:Type} (f:α→Nat) (m:Nat):List α→Nat
 | []=>0
 | x::r=>(m+f x)+sumC f m r
theorem ats_some {α β:Type} {l:List α} {f:α→β} {d:β} {i:Nat} {x:α} (h:l[i]?=some x):ats l f d i=f x:=by unfold ats;rw[h]
theorem FL {α:Type} (f:α→List UInt8) (m:List UInt8):∀(b:Bool) (l:List α) (x:α),joinT f m b (l++[x])=joinT f m b l++((if (b&&l.isEmpty)=true then [] else m)++f x)
 | b,[],x=>by rw[ZS,joinT,joinT,joinT];cases b<;>simp
 | b,y::r,x=>by
  rw[List.cons_append,joinT,joinT,FL f m false r x];simp
theorem gds_all {α:Type} (l:List α) (f:α→Bool):∀n,n≤l.length→gds (ats l f true) n=(l.take n).all f
 | 0,_=>by rw[gds];rfl
 | n+1,h=>by
  rw[gds,gds_all l f n (by omega),ats_some (ZL (by omega:n<l.length)),List.take_succ_eq_append_getElem (by omega),List.all_append];simp
theorem tds_join {α:Type} (l:List α) (f:α→List UInt8) (m:List UInt8):∀n,n≤l.length→tds (ats l f []) m n=joinT f m true (l.take n)
 | 0,_=>by rw[tds];rfl
 | n+1,h=>by
  rw[tds,tds_join l f m n (by omega),ats_some (ZL (by omega:n<l.length)),List.take_succ_eq_append_getElem (by omega),FL];cases n with
  | zero=>rfl
  | succ n=>cases l with
   | nil=>simp at h
   | cons y r=>simp
theorem IR {α:Type} (f:α→Nat) (m:Nat):∀a b:List α,sumC f m (a++b)=sumC f m a+sumC f m b
 | [],b=>by rw[ZS,sumC];omega
 | x::a,b=>by rw[List.cons_append,sumC,sumC,IR f m a b];omega
theorem cds_sum {α:Type} (l:List α) (f:α→Nat) (m:Nat):∀n,n≤l.length→cds (ats l f 0) m n=sumC f m (l.take n)
 | 0,_=>by rw[cds];rfl
 | n+1,h=>by
  rw[cds,cds_sum l f m n (by omega),ats_some (ZL (by omega:n<l.length)),List.take_succ_eq_append_getElem (by omega),IR,sumC,sumC];omega
theorem sumC_mem {α:Type} (f:α→Nat) (m:Nat):∀{l:List α} {x:α},x∈l→m+f x≤sumC f m l
 | y::r,x,h=>by
  rw[sumC];rcases List.mem_cons.1 h with rfl|h
  ·omega
  ·have:=sumC_mem f m h;omega
end Vl
namespace Vl
open Rd Lx
def parse (l:List UInt8) (fixed:Bool):St×V :=
 let s:=begin_ l
 let r:=value fixed (s.rest.length+1) s
 (fin r.1,r.2)
def parseType (l:List UInt8):St×List UInt8 :=
 let s:=begin_ l
 let r:=type (s.rest.length+1) s
 (fin r.1,r.2)
theorem Od (s:St):Ok s (fin s):=by
 unfold fin;split
 ·exact ok_wrong s
 ·exact Ok.refl s
def nw (w:List UInt8):Wd:=⟨[],1,w,w⟩
def opT (ob:Bool):Nat→List UInt8
 | 0=>[]
 | n+1=>opT ob n++(if ob=true∧n % 2=1 then [123,97,58] else [91])
end Vl
namespace Vl
def kts (ws:List Lx.Wd):List (Nat×List UInt8):=ws.map λw=>(w.k,w.T)
theorem kts_app (a b:List Lx.Wd):kts (a++b)=kts a++kts b:=List.map_append
-- No variable in it.
mutual
def Z.nov:Z→Bool
 | .mk k _ i f _=>decide (k≠1)&&(Z.novs i&&ZA.novs f)
def Z.novs:List Z→Bool
 | []=>true
 | x::r=>Z.nov x&&Z.novs r
def ZA.nov:ZA→Bool
 | .mk _ v _=>Z.nov v
def ZA.novs:List ZA→Bool
 | []=>true
 | x::r=>ZA.nov x&&ZA.novs r
end
structure At (s:Rd.St) (ks:List (Nat×List UInt8)) (rest:List Lx.Tok):Prop where
 err:s.err=0
 is:∃a,s.rest=a++rest∧a.map Rd.ktx=ks
section
variable {s : Rd.St} {k : Nat} {T : List UInt8} {ks : List (Nat × List UInt8)} {rest : List Lx.Tok}
theorem At.peek (h:At s ((k,T)::ks) rest):(Rd.peek s).kind=k∧(Rd.peek s).text=T:=by
 obtain⟨a,A,o⟩:=h.is;cases a with
 | nil=>cases o
 | cons x a =>
  simp only[ZU,List.cons.injEq,Rd.ktx,Prod.mk.injEq]at o;unfold Rd.peek;rw[A];exact o.1
theorem At.next (h:At s ((k,T)::ks) rest) (hk:k≠0):At (Rd.next s) ks rest:=by
 have B:=h.peek;obtain⟨a,A,o⟩:=h.is;have C:Rd.next s={ s with rest:=s.rest.drop 1 }:=by unfold Rd.next;rw[if_pos ⟨h.err,by rw[B.1];exact hk⟩]
 rw[C];cases a with
 | nil=>cases o
 | cons x a =>
  simp only[ZU,List.cons.injEq]at o;exact⟨h.err,a,by show s.rest.drop 1=_;rw[A];rfl,o.2⟩
theorem At.isS (h:At s ((k,T)::ks) rest) (c:List UInt8):Rd.isS s c=(decide (k=5)&&decide (T=c)):=by
 unfold Rd.isS;rw[h.err,h.peek.1,h.peek.2];simp
theorem At.isN (h:At s ((k,T)::ks) rest):Rd.isN s=decide (k=1):=by
 unfold Rd.isN;rw[h.err,h.peek.1];simp
theorem At.isW (h:At s ((k,T)::ks) rest) (ws:List (List UInt8)):Rd.isW s ws=(decide (k=1)&&(ws.any (λw=>decide (T=w))||ws.isEmpty)):=by
 unfold Rd.isW;rw[h.isN,h.peek.2]
theorem At.setDeep (h:At s ks rest) (d:Int):At { s with deep:=d } ks rest:=⟨h.err,h.is⟩
theorem At.down (h:At s ((5,T)::ks) rest) (hd:s.deep≠16):At (Rd.down T s) ks rest:=by
 unfold Rd.down Rd.want
 dsimp only
 have e:(if Rd.isS s T=true∧s.deep=16 then Rd.fail 42 s else s)=s:=if_neg (λe=>hd e.2);rw[e,if_pos (by rw[h.isS];simp)];exact (h.next (by decide)).setDeep _
theorem At.up (h:At s ((5,T)::ks) rest):At (Rd.up T s) ks rest:=by
 unfold Rd.up Rd.want
 dsimp only
 rw[if_pos (by rw[h.isS];simp)];exact (h.next (by decide)).setDeep _
theorem At.name (h:At s ((1,T)::ks) rest):At (Rd.name s).1 ks rest∧(Rd.name s).2=T:=by
 unfold Rd.name;rw[if_pos (by rw[h.isN];rfl)];exact⟨h.next (by decide),h.peek.2⟩
theorem At.want (h:At s ((5,T)::ks) rest):At (Rd.want T s) ks rest:=by
 unfold Rd.want;rw[if_pos (by rw[h.isS];simp)];exact h.next (by decide)
end
theorem KJ (k:Int) (g:List UInt8) (i:List Z) (f:List ZA):kts (⟨g,5,opn k,opn k⟩::(Z.wdss true i++(ZA.wdss true f++[⟨[],5,shut k,shut k⟩])))=(5,opn k)::(kts (Z.wdss true i)++(kts (ZA.wdss true f)++[(5,shut k)])):=by
 show (5,opn k)::kts _=_;rw[kts_app,kts_app];rfl
theorem Ki {z:Z} {deep:Nat} (h:z.good deep=true) (g:List UInt8):∃k T r,kts (Z.wds g z)=(k,T)::r∧(k=5→T≠[93]∧T≠[125])∧k≠0:=by
 cases z with
 | mk k t i f a =>
 rw[Z.wds];split
 ·refine⟨5,opn k,_,KJ k g i f,λ_=>?_,by decide⟩;unfold opn;split<;>decide
 ·unfold EO;split
  ·exact⟨5,[36],_,rfl,λ_=>by decide,by decide⟩
  split
  ·exact⟨2,t,_,rfl,λe=>(by cases e),by decide⟩
  split
  ·exact⟨3,t,_,rfl,λe=>(by cases e),by decide⟩
  split
  ·exact⟨4,t,_,rfl,λe=>(by cases e),by decide⟩
  split
  ·exact⟨1,t,_,rfl,λe=>(by cases e),by decide⟩
  split
  ·exact⟨1,Rd.sNull,_,rfl,λe=>(by cases e),by decide⟩
  ·exact⟨1,t,_,rfl,λe=>(by cases e),by decide⟩
theorem JI {k:Int} {i:List Z} {f:List ZA} (h:parts k i.length f.length=true) (hk:¬many k):i=[]∧f=[]:=by
 unfold many at hk;unfold parts at h;simp only[ZF,Bool.or_eq_true,decide_eq_true_eq]at h;exact⟨JB (by omega),JB (by omega)⟩
theorem Bj (k:Nat) (t:List UInt8) (p:Nat) (a:Int):(ofV (.mk k t [] [] p)).same (.mk k t [] [] a)=true:=by
 rw[ofV,Z.same,Gb,G0,Z.sames,ZA.sames];simp
theorem JH {fixed:Bool} {k:Int} {t g:List UInt8} {a:Int} {n:Nat} {s:Rd.St} {ks:List (Nat×List UInt8)} {rest:List Lx.Tok} (h17:1≤k∧k≤7) (hg:(leaf k t).1=true) (hv:fixed=true→k≠1)
  (h:At s (kts (EO g k t)++ks) rest):At (Rd.value fixed (n+1) s).1 ks rest∧(ofV (Rd.value fixed (n+1) s).2).same (.mk k t [] [] a)=true:=by
 have A:k=1∨k=2∨k=3∨k=4∨k=5∨k=6∨k=7:=by omega
 unfold Rd.value
 dsimp only
 rcases A with rfl|rfl|rfl|rfl|rfl|rfl|rfl
 ·have h:At s ((5,[36])::(1,t)::ks) rest:=h;rw[if_pos (by rw[h.isS];rfl)];cases fixed with
  | true=>exact absurd rfl (hv rfl)
  | false =>
   simp only[Bool.false_eq_true,if_false];have o:=(h.next (by decide)).name;refine⟨o.1,?_⟩;rw[o.2];exact Bj 1 t _ a
 ·have h:At s ((2,t)::ks) rest:=h;rw[if_neg (by rw[h.isS];simp),if_neg (by rw[h.isS];simp),if_neg (by rw[h.isS];simp),if_pos h.peek.1];refine⟨h.next (by decide),?_⟩;rw[h.peek.2];exact Bj 2 t _ a
 ·have h:At s ((3,t)::ks) rest:=h;rw[if_neg (by rw[h.isS];simp),if_neg (by rw[h.isS];simp),if_neg (by rw[h.isS];simp),if_neg (by rw[h.peek.1];decide),if_pos h.peek.1];refine⟨h.next (by decide),?_⟩;rw[h.peek.2];exact Bj 3 t _ a
 ·have h:At s ((4,t)::ks) rest:=h;rw[if_neg (by rw[h.isS];simp),if_neg (by rw[h.isS];simp),if_neg (by rw[h.isS];simp),if_neg (by rw[h.peek.1];decide),if_neg (by rw[h.peek.1];decide),if_pos h.peek.1];refine⟨h.next (by decide),?_⟩;rw[h.peek.2];exact Bj 4 t _ a
 ·have h:At s ((1,t)::ks) rest:=h;have hg:(decide (t=Rd.sTrue)||decide (t=Rd.sFalse))=true:=hg;have B:t≠Rd.sNull:=by
   rw[Bool.or_eq_true,decide_eq_true_eq,decide_eq_true_eq]at hg;rcases hg with rfl|rfl<;>decide
  rw[if_neg (by rw[h.isS];simp),if_neg (by rw[h.isS];simp),if_neg (by rw[h.isS];simp),if_neg (by rw[h.peek.1];decide),if_neg (by rw[h.peek.1];decide),if_neg (by rw[h.peek.1];decide),if_neg (by rw[h.isW];simp[B]),if_pos (by rw[h.isW];simpa using hg)];refine⟨h.next (by decide),?_⟩;rw[h.peek.2];exact Bj 5 t _ a
 ·have h:At s ((1,Rd.sNull)::ks) rest:=h;have hg:decide (t=[])=true:=hg;rw[decide_eq_true_eq]at hg;subst hg;rw[if_neg (by rw[h.isS];simp),if_neg (by rw[h.isS];simp),if_neg (by rw[h.isS];simp),if_neg (by rw[h.peek.1];simp),if_neg (by rw[h.peek.1];simp),if_neg (by rw[h.peek.1];simp),if_pos (by rw[h.isW];simp)];exact⟨h.next (by simp),Bj 6 [] _ a⟩
 ·have h:At s ((1,t)::ks) rest:=h;have hg:(Lx.isName t&&(decide (t≠Rd.sTrue)&&(decide (t≠Rd.sFalse)&&decide (t≠Rd.sNull))))=true:=hg;simp only[ZF,decide_eq_true_eq]at hg;rw[if_neg (by rw[h.isS];simp),if_neg (by rw[h.isS];simp),if_neg (by rw[h.isS];simp),if_neg (by rw[h.peek.1];decide),if_neg (by rw[h.peek.1];decide),if_neg (by rw[h.peek.1];decide),if_neg (by rw[h.isW];simp[hg.2.2.2]),if_neg (by rw[h.isW];simp[hg.2.1,hg.2.2.1]),if_pos (by rw[h.isN];rfl)];refine⟨h.next (by decide),?_⟩;rw[h.peek.2];exact Bj 7 t _ a
theorem down_deep (c:List UInt8) (s:Rd.St):(Rd.down c s).deep=s.deep+1:=Rd.down_deep c s
theorem At.len {s:Rd.St} {ks:List (Nat×List UInt8)} {rest:List Lx.Tok} (h:At s ks rest):ks.length≤s.rest.length:=by
 obtain⟨a,A,o⟩:=h.is;rw[A,← o,QZ,QU];omega
mutual
theorem value_at:∀(z:Z) (deep:Nat) (g:List UInt8) (fixed:Bool) (n:Nat) (s:Rd.St) (ks:List (Nat×List UInt8)) (rest:List Lx.Tok),z.good deep=true→(fixed=true→z.nov=true)→At s (kts (Z.wds g z)++ks) rest→s.deep=deep→(kts (Z.wds g z)).length<n →
  At (Rd.value fixed n s).1 ks rest∧(ofV (Rd.value fixed n s).2).same z=true
 | z,deep,g,fixed,0,s,ks,rest,h,hv,hat,hd,hn=>by omega
 | .mk k t i f a,deep,g,fixed,n+1,s,ks,rest,h,hv,hat,hd,hn=>by
  rw[Z.good,ZF]at h;have B:fixed=true→k≠1∧Z.novs i=true∧ZA.novs f=true:=λe=>by
   have:=hv e;rw[Z.nov]at this
   simpa using this
  by_cases hm:many k
  ·rw[if_neg (by unfold many at hm;omega),if_pos hm]at h;simp only[ZF,decide_eq_true_eq]at h;obtain⟨M,⟨rfl,P⟩,hi,R⟩:=h;rw[Z.wds,if_pos hm,KJ]at hat hn;have hat:At s ((5,opn k)::((kts (Z.wdss true i)++(kts (ZA.wdss true f)++[(5,shut k)]))++ks)) rest:=hat;simp only[QO,QU,List.length_nil]at hn;unfold Rd.value
   dsimp only
   rw[if_neg (by rw[hat.isS];unfold opn;split<;>decide)];have U:=M;unfold parts at M;unfold many at hm;simp only[ZF,Bool.or_eq_true,decide_eq_true_eq]at M;rcases hm with rfl|rfl
   ·obtain rfl:f=[]:=JB (by omega);rw[ZA.wdss]at hat;have hat:At s ((5,Rd.lbrk)::(kts (Z.wdss true i)++((5,Rd.rbrk)::ks))) rest:=by
     have e:(kts (Z.wdss true i)++(kts []++[(5,shut 8)]))++ks=kts (Z.wdss true i)++((5,Rd.rbrk)::ks):=by simp[kts,shut,Rd.rbrk]
     rw[e]at hat;exact hat
    rw[if_pos (by rw[hat.isS];rfl)];have F:=hat.down (by omega);have J:=F.len;rw[QU]at J;obtain⟨D,C,H,E⟩:=KB i (deep+1) true fixed n _ Rd.rbrk ks rest [] hi (λe=>(B e).2.1) F (by rw[down_deep];omega) (by omega) (by decide) ((Rd.down Rd.lbrk s).rest.length+1) (by omega);refine⟨D.up,?_⟩;show (ofV (.mk 8 [] _ [] _)).same _=true;rw[H,ZS,ofV,Z.same,E,G0,ZA.sames];simp
   ·obtain rfl:i=[]:=JB (by omega);rw[Z.wdss]at hat;have hat:At s ((5,Rd.lbrc)::(kts (ZA.wdss true f)++((5,Rd.rbrc)::ks))) rest:=by
     have e:(kts []++(kts (ZA.wdss true f)++[(5,shut 9)]))++ks=kts (ZA.wdss true f)++((5,Rd.rbrc)::ks):=by simp[kts,shut,Rd.rbrc]
     rw[e]at hat;exact hat
    rw[if_neg (by rw[hat.isS];decide),if_pos (by rw[hat.isS];rfl)];have F:=hat.down (by omega);have J:=F.len;rw[QU]at J;obtain⟨D,C,H,E⟩:=Hz f (deep+1) true fixed n _ Rd.rbrc ks rest [] R (λe=>(B e).2.2) F (by rw[down_deep];omega) (by omega) (by decide) ((Rd.down Rd.lbrc s).rest.length+1) (by omega);refine⟨D.up,?_⟩;show (ofV (.mk 9 [] [] _ _)).same _=true;rw[H,ZS,ofV,Z.same,E,Gb,Z.sames];simp
  ·rw[if_neg hm]at h;obtain⟨rfl,rfl⟩:=JI h.1 hm;by_cases h17:1≤k∧k≤7
   ·rw[if_pos h17]at h;rw[Z.wds,if_neg hm]at hat;exact JH h17 h.2 (λe=>(B e).1) hat
   ·rw[if_neg h17]at h;cases h.2
theorem KB:∀(r:List Z) (deep:Nat) (b:Bool) (fixed:Bool) (n:Nat) (s:Rd.St) (c:List UInt8) (ks:List (Nat×List UInt8)) (rest:List Lx.Tok) (out:List Rd.V),Z.goods deep r=true→(fixed=true→Z.novs r=true)→At s (kts (Z.wdss b r)++(5,c)::ks) rest→s.deep=deep→(kts (Z.wdss b r)).length<n→(c=[93]∨c=[125]) →
  ∀m,(kts (Z.wdss b r)).length<m→At (Rd.loop c (Rd.value fixed n) m s out).1 ((5,c)::ks) rest∧∃C,(Rd.loop c (Rd.value fixed n) m s out).2=out++C∧Z.sames (Gb C) r=true
 | _,_,_,_,_,_,_,_,_,_,_,_,_,_,_,_,0,h=>by omega
 | [],deep,b,fixed,n,s,c,ks,rest,out,hg,hv,hat,hd,hn,hc,m+1,hm=>by
  rw[Z.wdss]at hat;have hat:At s ((5,c)::ks) rest:=hat;unfold Rd.loop;rw[if_neg (λe=>by rw[hat.isS]at e;simp at e)];exact⟨hat,[],by simp,by rw[Gb,Z.sames]⟩
 | x::r,deep,b,fixed,n,s,c,ks,rest,out,hg,hv,hat,hd,hn,hc,m+1,hm=>by
  rw[Z.goods,ZF]at hg;have B:(fixed=true→x.nov=true)∧(fixed=true→Z.novs r=true):=by
   constructor
   ·intro e;have:=hv e;rw[Z.novs,ZF]at this;exact this.1
   ·intro e;have:=hv e;rw[Z.novs,ZF]at this;exact this.2
  rw[Z.wdss,kts_app]at hn hm;rw[Z.wdss,kts_app,ZJ]at hat;rw[QU]at hn hm;obtain⟨k1,S,Q,O,T,W⟩:=Ki hg.1 (gp b);have I:1≤(kts (Z.wds (gp b) x)).length:=by rw[O];simp
  have o:=hat;rw[O]at o;have o:At s ((k1,S)::(Q++(kts (Z.wdss false r)++(5,c)::ks))) rest:=o;have L:Rd.isS s c=false:=by
   rw[o.isS];by_cases hk:k1=5
   ·have:=T hk;rcases hc with rfl|rfl
    ·simp[hk,this.1]
    ·simp[hk,this.2]
   ·simp[hk]
  unfold Rd.loop;rw[if_pos ⟨hat.err,L⟩];obtain⟨D,E⟩:=value_at x deep (gp b) fixed n s _ rest hg.1 B.1 hat hd (by omega);obtain⟨G,C,N,K⟩:=KB r deep false fixed n _ c ks rest (out++[(Rd.value fixed n s).2]) hg.2 B.2 D (by rw[Rd.value_deep];exact hd) (by omega) hc m (by omega);exact⟨G,(Rd.value fixed n s).2::C,by rw[N];simp,by rw[Gb,Z.sames,E,K];rfl⟩
theorem Mv:∀(z:ZA) (deep:Nat) (g:List UInt8) (fixed:Bool) (n:Nat) (s:Rd.St) (ks:List (Nat×List UInt8)) (rest:List Lx.Tok),z.good deep=true→(fixed=true→z.nov=true)→At s (kts (ZA.wds g z)++ks) rest→s.deep=deep→(kts (ZA.wds g z)).length<n →
  At (Rd.argOf (Rd.value fixed n) s).1 ks rest∧(ofA (Rd.argOf (Rd.value fixed n) s).2).same z=true
 | .mk nm v a,deep,g,fixed,n,s,ks,rest,h,hv,hat,hd,hn=>by
  rw[ZA.good,ZF]at h;rw[ZA.wds]at hat hn;have hat:At s ((1,nm)::(5,[58])::(kts (Z.wds [32] v)++ks)) rest:=hat;have hn:(kts (Z.wds [32] v)).length+1+1<n:=hn;have F:=hat.name;have D:At (Rd.want Rd.colon (Rd.name s).1) (kts (Z.wds [32] v)++ks) rest:=F.1.want;obtain⟨E,G⟩:=value_at v deep [32] fixed n _ ks rest h.2 (λe=>by have:=hv e;rw[ZA.nov]at this;exact this) D (by rw[Rd.want_deep,Rd.name_deep];exact hd) (by omega);refine⟨E,?_⟩;show (ofA (.mk (Rd.name s).2 _ _)).same _=true;rw[ofA,ZA.same,F.2,G];simp
theorem Hz:∀(r:List ZA) (deep:Nat) (b:Bool) (fixed:Bool) (n:Nat) (s:Rd.St) (c:List UInt8) (ks:List (Nat×List UInt8)) (rest:List Lx.Tok) (out:List Rd.A),ZA.goods deep r=true→(fixed=true→ZA.novs r=true)→At s (kts (ZA.wdss b r)++(5,c)::ks) rest→s.deep=deep→(kts (ZA.wdss b r)).length<n→(c=[93]∨c=[125]) →
  ∀m,(kts (ZA.wdss b r)).length<m→At (Rd.loop c (Rd.argOf (Rd.value fixed n)) m s out).1 ((5,c)::ks) rest∧∃C,(Rd.loop c (Rd.argOf (Rd.value fixed n)) m s out).2=out++C∧ZA.sames (G0 C) r=true
 | _,_,_,_,_,_,_,_,_,_,_,_,_,_,_,_,0,h=>by omega
 | [],deep,b,fixed,n,s,c,ks,rest,out,hg,hv,hat,hd,hn,hc,m+1,hm=>by
  rw[ZA.wdss]at hat;have hat:At s ((5,c)::ks) rest:=hat;unfold Rd.loop;rw[if_neg (λe=>by rw[hat.isS]at e;simp at e)];exact⟨hat,[],by simp,by rw[G0,ZA.sames]⟩
 | x::r,deep,b,fixed,n,s,c,ks,rest,out,hg,hv,hat,hd,hn,hc,m+1,hm=>by
  rw[ZA.goods,ZF]at hg;have B:(fixed=true→x.nov=true)∧(fixed=true→ZA.novs r=true):=by
   constructor
   ·intro e;have:=hv e;rw[ZA.novs,ZF]at this;exact this.1
   ·intro e;have:=hv e;rw[ZA.novs,ZF]at this;exact this.2
  rw[ZA.wdss,kts_app]at hn hm;rw[ZA.wdss,kts_app,ZJ]at hat;rw[QU]at hn hm;have I:1≤(kts (ZA.wds (gp b) x)).length:=by cases x;rw[ZA.wds];simp[kts]
  have L:Rd.isS s c=false:=by
   cases x with
   | mk nm v a =>
    have o:At s ((1,nm)::((5,[58])::(kts (Z.wds [32] v))++(kts (ZA.wdss false r)++(5,c)::ks))) rest:=by rw[ZA.wds]at hat;exact hat
    rw[o.isS];simp
  unfold Rd.loop;rw[if_pos ⟨hat.err,L⟩];obtain⟨D,E⟩:=Mv x deep (gp b) fixed n s _ rest hg.1 B.1 hat hd (by omega);obtain⟨G,C,N,K⟩:=Hz r deep false fixed n _ c ks rest (out++[(Rd.argOf (Rd.value fixed n) s).2]) hg.2 B.2 D (by rw[Rd.argOf_deep _ (Rd.value_deep fixed n)];exact hd) (by omega) hc m (by omega);exact⟨G,(Rd.argOf (Rd.value fixed n) s).2::C,by rw[N];simp,by rw[G0,ZA.sames,E,K];rfl⟩
end
end Vl
namespace Vl
mutual
def Z.dep:Z→Nat
 | .mk k _ i f _=>max (Z.deps i) (ZA.deps f)+(if many k then 1 else 0)
def Z.deps:List Z→Nat
 | []=>0
 | x::r=>max (Z.dep x) (Z.deps r)
def ZA.deps:List ZA→Nat
 | []=>0
 | .mk _ v _::r=>max (Z.dep v) (ZA.deps r)
end
theorem Z.dep_eq (z:Z):z.dep=max (Z.deps z.items) (ZA.deps z.fields)+(if many z.kind then 1 else 0):=by cases z;rw[Z.dep];rfl
theorem Z.nov_eq (z:Z):z.nov=(decide (z.kind≠1)&&(Z.novs z.items&&ZA.novs z.fields)):=by cases z;rw[Z.nov];rfl
theorem ZA.deps_cons (x:ZA) (r:List ZA):ZA.deps (x::r)=max x.v.dep (ZA.deps r):=by cases x;rw[ZA.deps];rfl
theorem ZA.novs_cons (x:ZA) (r:List ZA):ZA.novs (x::r)=(x.v.nov&&ZA.novs r):=by cases x;rw[ZA.novs,ZA.nov];rfl
mutual
theorem dep_le:∀z:Z,z.dep≤z.n
 | .mk k t i f a=>by
  have A:=deps_le i;have o:=IO f;rw[Z.dep,Z.n];split<;>omega
theorem deps_le:∀l:List Z,Z.deps l≤Z.ns l
 | []=>by rw[Z.deps];exact ZX _
 | x::r=>by
  have A:=dep_le x;have o:=deps_le r;rw[Z.deps,Z.ns];omega
theorem IO:∀l:List ZA,ZA.deps l≤ZA.ns l
 | []=>by rw[ZA.deps];exact ZX _
 | .mk n v a::r=>by
  have A:=dep_le v;have o:=IO r;rw[ZA.deps,ZA.ns,ZA.n];omega
end
end Vl
namespace Vl
def Om {α:Type} (L d:Nat) (f:Rd.St→Rd.St×α) (Q:List Lx.Tok→α→Prop):Prop :=
 ∀s:Rd.St,s.rest.length≤L→s.err=0→s.deep=d→(∀t∈s.rest,Lx.TokG t)→(f s).1.err=0→∃pre,s.rest=pre++(f s).1.rest∧Q pre (f s).2
theorem JR {s:Rd.St} (h0:s.err=0) (he:(Rd.name s).1.err=0):∃t,s.rest=t::(Rd.name s).1.rest∧t.kind=1∧t.text=(Rd.name s).2:=by
 unfold Rd.name at he ⊢;split at he
 ·rename_i hn;rw[if_pos hn];obtain⟨-,o⟩:=Rd.isN_parts hn;have A:=Rd.peek_head (s:=s) (by omega);obtain⟨r,B,C⟩:=A;refine⟨Rd.peek s,?_,o,rfl⟩;show s.rest=Rd.peek s::(Rd.next s).rest;unfold Rd.next;rw[if_pos ⟨h0,by omega⟩];show s.rest=Rd.peek s::s.rest.drop 1;rw[C];exact B
 ·exact absurd he Rd.wrong_bad
theorem Db {s:Rd.St} (h0:s.err=0) (hk:(Rd.peek s).kind≠0):s.rest=Rd.peek s::(Rd.next s).rest:=by
 obtain⟨r,o,A⟩:=Rd.peek_head (s:=s) hk;unfold Rd.next;rw[if_pos ⟨h0,hk⟩];show s.rest=Rd.peek s::s.rest.drop 1;rw[A];exact o
theorem FQ {c:List UInt8} {s:Rd.St} (h0:s.err=0) (he:(Rd.want c s).err=0):∃t,s.rest=t::(Rd.want c s).rest∧Rd.ktx t=(5,c):=by
 unfold Rd.want at he ⊢;split at he
 ·rename_i hs;rw[if_pos hs];obtain⟨-,o,A⟩:=Rd.isS_parts hs;exact⟨Rd.peek s,Db h0 (by omega),by unfold Rd.ktx;rw[o,A]⟩
 ·exact absurd he Rd.wrong_bad
theorem JZ {c:List UInt8} {s:Rd.St} {d:Nat} (h0:s.err=0) (hd:s.deep=d) (h16:d≤16) (he:(Rd.down c s).err=0):∃t,s.rest=t::(Rd.down c s).rest∧Rd.ktx t=(5,c)∧d<16:=by
 unfold Rd.down at he ⊢
 dsimp only at he ⊢
 by_cases hf:Rd.isS s c=true∧s.deep=16
 ·rw[if_pos hf]at he;have A:(Rd.fail 42 s).err≠0:=by
   unfold Rd.fail;rw[if_pos h0];exact Nat.succ_ne_zero _
  have:=Rd.err_back (Rd.ok_want c _) he;exact absurd this A
 ·rw[if_neg hf]at he ⊢;obtain⟨t,e,k⟩:=FQ h0 he;refine⟨t,e,k,?_⟩;have o:Rd.isS s c=true:=by
   cases o:Rd.isS s c with
   | true=>rfl
   | false =>
    exfalso;have he:(Rd.want c s).err=0:=he;unfold Rd.want at he;rw[if_neg (by rw[o];simp)]at he;exact Rd.wrong_bad he
  have:¬s.deep=16:=λe=>hf ⟨o,e⟩
  omega
def QV (fixed:Bool) (d:Nat) (pre:List Lx.Tok) (v:Rd.V):Prop:=(∀g,pre.map Rd.ktx=kts (Z.wds g (ofV v)))∧(ofV v).good d=true∧(fixed=true→(ofV v).nov=true)
theorem LM {t:List UInt8} (h:Lx.isLetter (Lx.hd t)=true∧∀c∈t,Lx.isWord c=true):Lx.isName t=true:=by
 unfold Lx.isName;rw[ZF,List.all_eq_true];exact h
theorem Ap {fixed:Bool} {d:Nat} {s:Rd.St} (k:Nat) (t:List UInt8) (a:Nat) (h0:s.err=0) (hk:(Rd.peek s).kind≠0) (hw:∀g,[Rd.ktx (Rd.peek s)]=kts (EO g k t)) (h17:2≤(k:Int)∧(k:Int)≤7) (hg:(leaf k t).1=true) :
  ∃pre,s.rest=pre++(Rd.next s).rest∧QV fixed d pre (.mk k t [] [] a):=by
 have o:¬many (k:Int):=by unfold many;omega
 refine⟨[Rd.peek s],Db h0 hk,λg=>?_,?_,λe=>?_⟩
 ·rw[ofV,Z.wds,if_neg o];exact hw g
 ·rw[ofV,Gb,G0,Z.good,if_pos (by omega),hg];unfold parts;simp
 ·rw[ofV,Gb,G0,Z.nov,Z.novs,ZA.novs];simp;omega
-- The same, turned.
mutual
theorem same_symm:∀(x y:Z),x.same y=y.same x
 | .mk k t i f a,.mk k' t' i' f' a'=>by
  rw[Z.same,Z.same,FB i i',ED f f',decide_eq_decide.2 (eq_comm (a:=k) (b:=k')),decide_eq_decide.2 (eq_comm (a:=t) (b:=t'))]
theorem FB:∀(l m:List Z),Z.sames l m=Z.sames m l
 | [],[]=>rfl
 | x::r,y::s=>by rw[Z.sames_cons,Z.sames_cons,same_symm x y,FB r s]
 | [],_::_=>by rw[Z.sames,Z.sames]
 | _::_,[]=>by rw[Z.sames,Z.sames]
theorem JF:∀(x y:ZA),x.same y=y.same x
 | .mk n v a,.mk n' v' a'=>by rw[ZA.same,ZA.same,same_symm v v',decide_eq_decide.2 (eq_comm (a:=n) (b:=n'))]
theorem ED:∀(l m:List ZA),ZA.sames l m=ZA.sames m l
 | [],[]=>rfl
 | x::r,y::s=>by rw[ZA.sames_cons,ZA.sames_cons,JF x y,ED r s]
 | [],_::_=>by rw[ZA.sames,ZA.sames]
 | _::_,[]=>by rw[ZA.sames,ZA.sames]
end
end Vl
namespace Lx
theorem Md {x:Wd} {r:List Wd} (h:StandsW x (flat r)) (fl:Bool):(gap fl (flat (x::r))).1=x.w++flat r:=by
 rw[flat,OZ h fl]
theorem MZ {x:Wd} {r:List Wd} (h:StandsW x (flat r)):flat (x::r)≠[]:=by
 rw[flat];have:=h.ne;cases hw:x.w with
 | nil=>exact absurd hw this
 | cons c w=>simp
theorem words_one:∀(a b:List Wd),StandAll a []→StandAll b []→flat a=flat b→Vl.kts a=Vl.kts b
 | [],[],_,_,_=>rfl
 | [],y::q,_,hb,e=>by
  have h:=hb.1;rw[ZR]at h;exact absurd e.symm (MZ h)
 | x::r,[],ha,_,e=>by
  have h:=ha.1;rw[ZR]at h;exact absurd e (MZ h)
 | x::r,y::q,ha,hb,e=>by
  have A:=ha.1;have B:=hb.1;rw[ZR]at A B;have C:=Md A false;have E:=Md B false;rw[e,E]at C;have D:=A.tok;have o:=B.tok;rw[C,D]at o;simp only[Option.some.injEq,Prod.mk.injEq]at o;obtain⟨k,t,f⟩:=o;have:=words_one r q ha.2 hb.2 f;show (x.k,x.T)::Vl.kts r=(y.k,y.T)::Vl.kts q;rw[k,t,this]
end Lx
namespace Vl
mutual
theorem same_cong:∀(x y z:Z),x.same y=true→x.same z=y.same z
 | .mk k t i f a,.mk k' t' i' f' a',.mk k2 t2 i2 f2 a2,h=>by
  rw[Z.same]at h;simp only[ZF,decide_eq_true_eq]at h;obtain⟨rfl,rfl,B,o⟩:=h;rw[Z.same,Z.same,El i i' i2 B,ET f f' f2 o]
theorem El:∀(l m n:List Z),Z.sames l m=true→Z.sames l n=Z.sames m n
 | [],[],_,_=>rfl
 | x::r,y::s,[],h=>by rw[Z.sames,Z.sames]
 | x::r,y::s,z::q,h=>by
  rw[Z.sames_cons,ZF]at h;rw[Z.sames_cons,Z.sames_cons,same_cong x y z h.1,El r s q h.2]
 | [],_::_,_,h=>by rw[Z.sames]at h;cases h
 | _::_,[],_,h=>by rw[Z.sames]at h;cases h
theorem JV:∀(x y z:ZA),x.same y=true→x.same z=y.same z
 | .mk n v a,.mk n' v' a',.mk n2 v2 a2,h=>by
  rw[ZA.same]at h;simp only[ZF,decide_eq_true_eq]at h;obtain⟨rfl,A⟩:=h;rw[ZA.same,ZA.same,same_cong v v' v2 A]
theorem ET:∀(l m n:List ZA),ZA.sames l m=true→ZA.sames l n=ZA.sames m n
 | [],[],_,_=>rfl
 | x::r,y::s,[],h=>by rw[ZA.sames,ZA.sames]
 | x::r,y::s,z::q,h=>by
  rw[ZA.sames_cons,ZF]at h;rw[ZA.sames_cons,ZA.sames_cons,JV x y z h.1,ET r s q h.2]
 | [],_::_,_,h=>by rw[ZA.sames]at h;cases h
 | _::_,[],_,h=>by rw[ZA.sames]at h;cases h
end
end Vl
namespace Vl
inductive Ty where
 | nm (n:List UInt8) (b:Bool)
 | li (t:Ty) (b:Bool)
def bg (b:Bool):List UInt8:=if b then [33] else []
def bw (b:Bool):List Lx.Wd:=if b then [⟨[],5,[33],[33]⟩] else []
def Ty.str:Ty→List UInt8
 | .nm n b=>n++bg b
 | .li t b=>[91]++(t.str++([93]++bg b))
def Ty.wds:List UInt8→Ty→List Lx.Wd
 | g,.nm n b=>⟨g,1,n,n⟩::bw b
 | g,.li t b=>⟨g,5,[91],[91]⟩::(Ty.wds [] t++(⟨[],5,[93],[93]⟩::bw b))
def Ty.ok:Nat→Ty→Prop
 | _,.nm n _=>Lx.isName n=true
 | d,.li t _=>d<16∧Ty.ok (d+1) t
theorem GZ (b:Bool):Lx.flat (bw b)=bg b:=by cases b<;>rfl
theorem flat_tyw:∀(t:Ty) (g:List UInt8),Lx.flat (t.wds g)=g++t.str
 | .nm n b,g=>by rw[Ty.wds,Ty.str,Lx.flat,GZ]
 | .li t b,g=>by
  rw[Ty.wds,Ty.str,Lx.flat,Lx.flat_app,flat_tyw t [],Lx.flat,GZ];simp
theorem G5 (b:Bool) (l:List UInt8):Lx.StandAll (bw b) l:=by
 cases b
 ·trivial
 ·exact⟨Lx.stands_sign [] (by simp) (by decide) _,trivial⟩
theorem Nx (b:Bool) {l:List UInt8} (h:Lx.isWord (Lx.hd l)=false):Lx.isWord (Lx.hd (bg b++l))=false:=by
 cases b
 ·exact h
 ·show Lx.isWord 33=false;decide
theorem stand_tyw:∀(t:Ty) (g l:List UInt8) (d:Nat),(∀c∈g,Lx.isBlank c=true)→t.ok d→Lx.isWord (Lx.hd l)=false→Lx.StandAll (t.wds g) l
 | .nm n b,g,l,d,hg,h,hl=>by
  rw[Ty.ok]at h;rw[Ty.wds];have o:=CW h;refine⟨Lx.stands_name g hg o.1 o.2 ?_,G5 b l⟩;rw[GZ];exact Nx b hl
 | .li t b,g,l,d,hg,h,hl=>by
  rw[Ty.ok]at h;rw[Ty.wds];refine⟨Lx.stands_sign g hg (by decide) _,Lx.standAll_app (stand_tyw t [] _ (d+1) (by simp) h.2 ?_) ⟨Lx.stands_sign [] (by simp) (by decide) _,G5 b l⟩⟩;show Lx.isWord 93=false
  decide
def Dw (ks:List (Nat×List UInt8)) (rest:List Lx.Tok):Prop:=∀s,At s ks rest→Rd.isS s Rd.bang=false
theorem IF {k:Nat} {T:List UInt8} {ks:List (Nat×List UInt8)} {rest:List Lx.Tok} (h:k≠5∨T≠[33]):Dw ((k,T)::ks) rest:=λs hs=>by
 rw[hs.isS];rcases h with h|h
 ·simp[h]
 ·have:T≠Rd.bang:=h;simp[this]
theorem Jh {q:Rd.St×List UInt8} {b:Bool} {ks:List (Nat×List UInt8)} {rest:List Lx.Tok} (h:At q.1 (kts (bw b)++ks) rest) (hn:Dw ks rest):At (Rd.bangOf q).1 ks rest∧(Rd.bangOf q).2=q.2++bg b:=by
 unfold Rd.bangOf;cases b
 ·have h:At q.1 ks rest:=h;rw[if_neg (by rw[hn _ h];simp)];exact⟨h,(ZR _).symm⟩
 ·have h:At q.1 ((5,[33])::ks) rest:=h;rw[if_pos (by rw[h.isS];rfl)];exact⟨h.next (by decide),rfl⟩
theorem type_at:∀(t:Ty) (d:Nat) (g:List UInt8) (n:Nat) (s:Rd.St) (ks:List (Nat×List UInt8)) (rest:List Lx.Tok),t.ok d→At s (kts (t.wds g)++ks) rest→s.deep=d→(kts (t.wds g)).length<n→Dw ks rest →
  At (Rd.type n s).1 ks rest∧(Rd.type n s).2=t.str
 | t,d,g,0,s,ks,rest,h,hat,hd,hn,hb=>by omega
 | .nm m b,d,g,n+1,s,ks,rest,h,hat,hd,hn,hb=>by
  rw[Ty.wds]at hat;have hat:At s ((1,m)::(kts (bw b)++ks)) rest:=hat;unfold Rd.type Rd.typeCore;rw[if_neg (by rw[hat.isS];simp)];have o:=hat.name;have A:=Jh o.1 hb;exact⟨A.1,by rw[A.2,o.2,Ty.str]⟩
 | .li t b,d,g,n+1,s,ks,rest,h,hat,hd,hn,hb=>by
  rw[Ty.ok]at h;rw[Ty.wds]at hat hn;have hn:(kts (Ty.wds [] t++(⟨[],5,[93],[93]⟩::bw b))).length+1<n+1:=hn;rw[kts_app,QU]at hn;have hat:At s ((5,Rd.lbrk)::(kts (Ty.wds [] t)++((5,Rd.rbrk)::(kts (bw b)++ks)))) rest:=by
   have e:kts (⟨g,5,[91],[91]⟩::(Ty.wds [] t++(⟨[],5,[93],[93]⟩::bw b)))++ks=(5,Rd.lbrk)::(kts (Ty.wds [] t)++((5,Rd.rbrk)::(kts (bw b)++ks))):=by
    show (5,Rd.lbrk)::(kts (Ty.wds [] t++(⟨[],5,[93],[93]⟩::bw b))++ks)=_;rw[kts_app,ZJ];rfl
   rw[e]at hat;exact hat
  unfold Rd.type Rd.typeCore;rw[if_pos (by rw[hat.isS];rfl)];have o:=hat.down (by omega);obtain⟨A,C⟩:=type_at t (d+1) [] n _ _ rest h.2 o (by rw[down_deep,hd];rfl) (by omega) (IF (.inr (by decide)));have B:=Jh (q:=(Rd.up Rd.rbrk (Rd.type n (Rd.down Rd.lbrk s)).1,Rd.lbrk++(Rd.type n (Rd.down Rd.lbrk s)).2++Rd.rbrk)) A.up hb;refine⟨B.1,?_⟩;rw[B.2,C,Ty.str];simp[Rd.lbrk,Rd.rbrk]
def QT (d:Nat) (pre:List Lx.Tok) (t:List UInt8):Prop:=∃ty:Ty,ty.ok d∧ty.str=t∧∀g,pre.map Rd.ktx=kts (ty.wds g)
theorem Jf {q:Rd.St×List UInt8} (h0:q.1.err=0):∃(b:Bool) (pre:List Lx.Tok),q.1.rest=pre++(Rd.bangOf q).1.rest∧pre.map Rd.ktx=kts (bw b)∧(Rd.bangOf q).2=q.2++bg b:=by
 unfold Rd.bangOf;by_cases hs:Rd.isS q.1 Rd.bang=true
 ·rw[if_pos hs];obtain⟨-,o,A⟩:=Rd.isS_parts hs;refine⟨true,[Rd.peek q.1],Db h0 (by omega),?_,rfl⟩;show [Rd.ktx _]=[(5,[33])];unfold Rd.ktx;rw[o,A];rfl
 ·rw[if_neg hs];exact⟨false,[],rfl,rfl,(ZR _).symm⟩
theorem Et:∀(n d:Nat),d≤16→Om n d (Rd.type (n+1)) (QT d)
 | n,d,hd16=>by
  intro s hL h0 hd ht he;unfold Rd.type at he ⊢;have o:(Rd.typeCore (Rd.type n) s).1.err=0:=Rd.err_back (Rd.ok_bang _) he;obtain⟨b,G,A,I,Q⟩:=Jf o;rw[Q]
  generalize hfin:(Rd.bangOf (Rd.typeCore (Rd.type n) s)).1.rest=fr at *
  unfold Rd.typeCore at o A ⊢;by_cases c1:Rd.isS s Rd.lbrk=true
  ·rw[if_pos c1]at o A ⊢;have E:(Rd.type n (Rd.down Rd.lbrk s)).1.err=0:=Rd.err_back (Rd.ok_want Rd.rbrk _) (show (Rd.want Rd.rbrk _).err=0 from o);have J:(Rd.down Rd.lbrk s).err=0:=Rd.err_back (Rd.ok_type n _) E;obtain⟨t,B,D,F⟩:=JZ h0 hd hd16 J;have N:(Rd.down Rd.lbrk s).rest.length+1≤n:=by rw[B]at hL;simpa using hL
   obtain⟨m,rfl⟩:∃m,n=m+1:=⟨n-1,by omega⟩
   obtain⟨p,L,M,O,R,K⟩:=Et m (d+1) (by omega) _ (by omega) J (by rw[Rd.down_deep,hd];rfl) (λx hx=>ht x (by rw[B];simp[hx])) E;obtain⟨P,S,H⟩:=FQ E (show (Rd.want Rd.rbrk _).err=0 from o);refine⟨t::(p++(P::G)),?_,.li M b,?_,?_,λg=>?_⟩
   ·have A:(Rd.want Rd.rbrk (Rd.type (m+1) (Rd.down Rd.lbrk s)).1).rest=G++fr:=A;rw[B,L,S,A];simp
   ·rw[Ty.ok];exact⟨F,O⟩
   ·rw[Ty.str,R];simp[Rd.lbrk,Rd.rbrk]
   ·rw[Ty.wds,ZU,List.map_append,ZU,D,H,K [],I];show _=(5,[91])::kts _;rw[kts_app];rfl
  ·rw[if_neg c1]at o A ⊢;obtain⟨t,B,D,C⟩:=JR h0 o;refine⟨t::G,by rw[B,A];rfl,.nm (Rd.name s).2 b,?_,?_,λg=>?_⟩
   ·rw[Ty.ok,← C];exact LM ((ht t (by rw[B];simp)).1 D)
   ·rw[Ty.str]
   ·rw[Ty.wds,ZU,I,Rd.ktx,D,C];rfl
def tyOk (t:List UInt8):Bool:=decide ((parseType t).1.err=0)&&decide ((parseType t).2=t)
theorem Pq {t:List UInt8} (h:tyOk t=true):∃ty:Ty,ty.ok 0∧ty.str=t:=by
 unfold tyOk at h;rw[ZF,decide_eq_true_eq,decide_eq_true_eq]at h;obtain⟨h,e⟩:=h;unfold parseType at h e
 dsimp only at h e
 have A:=Rd.err_back (Od _) h;have F:=Rd.err_back (Rd.ok_type _ _) A;obtain⟨C,B,G⟩:=Sd.begin_ok F (λa c=>Lx.lex_err);rw[G]at A e;obtain⟨E,-,-⟩:=Lx.lex_tokG B;obtain⟨D,-,ty,o,s,-⟩:=Et C.length 0 (by decide) ⟨C,0,0,0⟩ (QM _) rfl rfl E A;exact⟨ty,o,s.trans e⟩
end Vl
end Go.Proofs.YtefjgpkpplkkgaaGreatDoor
