/-
  Quoting as a plain function; the lexer's text undoes it. What a string means is valid UTF-8 (no program in sight).
-/
import Derived.Test.YtedeapbonbbacaaGreatDoorZr3
import Derived.Lib.IndexMore
open List renaming length_drop → QY, mem_of_getElem? → QZ, append_assoc → ZF, nil_append → ZO, mem_cons → ZY
namespace Go.Proofs.YtedeapbonbbacaaGreatDoor
set_option maxRecDepth 100000
set_option linter.unusedSimpArgs false
set_option linter.unusedVariables false
def Lx.validGo:Nat→List UInt8→Bool
 | 0,_=>true
 | n+1,l=>if l=[] then true else if (Lx.rune l).2=0 then false else Lx.validGo n (l.drop (Lx.rune l).2)
def Lx.valid (l:List UInt8):Bool:=Lx.validGo l.length l
def Lx.hexd (n:Nat):UInt8:=if n<10 then (48+n).toUInt8 else (87+n).toUInt8
def Lx.qs (c:UInt8):UInt8 :=
 if c.toNat=34 then 34 else if c.toNat=92 then 92 else if c.toNat=8 then 98 else if c.toNat=9 then 116 else if c.toNat=10 then 110
 else if c.toNat=12 then 102 else if c.toNat=13 then 114 else 0
def Lx.qb (c:UInt8):List UInt8 :=
 if (Lx.qs c).toNat≠0 then [92,Lx.qs c]
 else if c.toNat<32∨c.toNat=127 then [92,117,48,48,Lx.hexd (c.toNat / 16),Lx.hexd (c.toNat % 16)]
 else [c]
def Lx.quote (l:List UInt8):List UInt8:=34::(l.flatMap Lx.qb++[34])
theorem A2 (c:UInt8) (t:List UInt8) (h:c.toNat<128):Lx.rune (c::t)=(c.toNat,1):=by unfold Lx.rune;simp[h]
theorem Cy (l x:List UInt8) (h:(Lx.rune l).2≠0):Lx.rune (l.take (Lx.rune l).2++x)=Lx.rune l:=by
 match l with
 | []=>exact absurd rfl h
 | c::t =>
  by_cases h1:c.toNat<128
  ·rw[A2 c t h1];exact A2 c x h1
  match t with
  | []=>exact absurd (by simp[Lx.rune,h1]) h
  | d::t =>
   by_cases h2:192≤c.toNat∧c.toNat<224∧Lx.cont d=true
   ·by_cases q:128≤(c.toNat-192)*64+(d.toNat-128)
    ·have e:∀y,Lx.rune (c::d::y)=((c.toNat-192)*64+(d.toNat-128),2):=λy=>by simp only[Lx.rune];rw[if_neg h1,if_pos h2,if_pos q]
     rw[e t];exact e x
    ·exact absurd (by simp only[Lx.rune];rw[if_neg h1,if_pos h2,if_neg q]) h
   match t with
   | []=>exact absurd (by simp only[Lx.rune];rw[if_neg h1,if_neg h2]) h
   | e::t =>
    by_cases h3:224≤c.toNat∧c.toNat<240∧Lx.cont d=true∧Lx.cont e=true
    ·by_cases q:2048≤(c.toNat-224)*4096+(d.toNat-128)*64+(e.toNat-128)∧((c.toNat-224)*4096+(d.toNat-128)*64+(e.toNat-128)<55296∨57343<(c.toNat-224)*4096+(d.toNat-128)*64+(e.toNat-128))
     ·have o:∀y,Lx.rune (c::d::e::y)=((c.toNat-224)*4096+(d.toNat-128)*64+(e.toNat-128),3):=λy=>by simp only[Lx.rune];rw[if_neg h1,if_neg h2,if_pos h3,if_pos q]
      rw[o t];exact o x
     ·exact absurd (by simp only[Lx.rune];rw[if_neg h1,if_neg h2,if_pos h3,if_neg q]) h
    match t with
    | []=>exact absurd (by simp only[Lx.rune];rw[if_neg h1,if_neg h2,if_neg h3]) h
    | f::t =>
     by_cases h4:240≤c.toNat∧c.toNat<248∧Lx.cont d=true∧Lx.cont e=true∧Lx.cont f=true
     ·by_cases q:65536≤(c.toNat-240)*262144+(d.toNat-128)*4096+(e.toNat-128)*64+(f.toNat-128)∧(c.toNat-240)*262144+(d.toNat-128)*4096+(e.toNat-128)*64+(f.toNat-128)≤1114111
      ·have A:∀y,Lx.rune (c::d::e::f::y)=((c.toNat-240)*262144+(d.toNat-128)*4096+(e.toNat-128)*64+(f.toNat-128),4):=λy=>by simp only[Lx.rune];rw[if_neg h1,if_neg h2,if_neg h3,if_pos h4,if_pos q]
       rw[A t];exact A x
      ·exact absurd (by simp only[Lx.rune];rw[if_neg h1,if_neg h2,if_neg h3,if_pos h4,if_neg q]) h
     ·exact absurd (by simp only[Lx.rune];rw[if_neg h1,if_neg h2,if_neg h3,if_neg h4]) h
theorem Ev (c:UInt8) (t:List UInt8) (hc:¬c.toNat<128) (h:(Lx.rune (c::t)).2≠0) :
  128≤(Lx.rune (c::t)).1∧∀x∈(c::t).take (Lx.rune (c::t)).2,128≤x.toNat:=by
 have o:∀d:UInt8,Lx.cont d=true→128≤d.toNat:=λd hd=>by simp[Lx.cont]at hd;omega
 unfold Lx.rune at h ⊢
 dsimp only at h ⊢
 rw[if_neg hc]at h ⊢
 match t with
 | []=>exact absurd rfl h
 | d::t =>
  simp only[]at h ⊢;by_cases h2:192≤c.toNat∧c.toNat<224∧Lx.cont d=true
  ·rw[if_pos h2]at h ⊢;by_cases q:128≤(c.toNat-192)*64+(d.toNat-128)
   ·rw[if_pos q];refine⟨q,λx hx=>?_⟩;simp at hx;rcases hx with rfl|rfl
    ·omega
    ·exact o _ h2.2.2
   ·rw[if_neg q]at h;exact absurd rfl h
  rw[if_neg h2]at h ⊢
  match t with
  | []=>exact absurd rfl h
  | e::t =>
   simp only[]at h ⊢;by_cases h3:224≤c.toNat∧c.toNat<240∧Lx.cont d=true∧Lx.cont e=true
   ·rw[if_pos h3]at h ⊢;by_cases q:2048≤(c.toNat-224)*4096+(d.toNat-128)*64+(e.toNat-128)∧((c.toNat-224)*4096+(d.toNat-128)*64+(e.toNat-128)<55296∨57343<(c.toNat-224)*4096+(d.toNat-128)*64+(e.toNat-128))
    ·rw[if_pos q];refine⟨by simp only[];omega,λx hx=>?_⟩;simp at hx;rcases hx with rfl|rfl|rfl
     ·omega
     ·exact o _ h3.2.2.1
     ·exact o _ h3.2.2.2
    ·rw[if_neg q]at h;exact absurd rfl h
   rw[if_neg h3]at h ⊢
   match t with
   | []=>exact absurd rfl h
   | f::t =>
    simp only[]at h ⊢;by_cases h4:240≤c.toNat∧c.toNat<248∧Lx.cont d=true∧Lx.cont e=true∧Lx.cont f=true
    ·rw[if_pos h4]at h ⊢;by_cases q:65536≤(c.toNat-240)*262144+(d.toNat-128)*4096+(e.toNat-128)*64+(f.toNat-128)∧(c.toNat-240)*262144+(d.toNat-128)*4096+(e.toNat-128)*64+(f.toNat-128)≤1114111
     ·rw[if_pos q];refine⟨by simp only[];omega,λx hx=>?_⟩;simp at hx;rcases hx with rfl|rfl|rfl|rfl
      ·omega
      ·exact o _ h4.2.2.1
      ·exact o _ h4.2.2.2.1
      ·exact o _ h4.2.2.2.2
     ·rw[if_neg q]at h;exact absurd rfl h
    ·rw[if_neg h4]at h;exact absurd rfl h
theorem Jq (c:UInt8) (h:128≤c.toNat):Lx.qs c=0:=by
 unfold Lx.qs
 repeat rw[if_neg (by omega)]
theorem Jt (c:UInt8) (h:128≤c.toNat):Lx.qb c=[c]:=by
 unfold Lx.qb;rw[Jq c h,if_neg (by decide),if_neg (by omega)]
theorem FA:∀l:List UInt8,(∀x∈l,128≤x.toNat)→l.flatMap Lx.qb=l
 | [],_=>rfl
 | c::l,h=>by
  rw[List.flatMap_cons,Jt c (h c (by simp)),FA l (λx hx=>h x (by simp[hx]))];rfl
def Kh (c:UInt8):Bool :=
 if (Lx.qs c).toNat≠0 then decide (Lx.esc (Lx.qs c)=some c)
 else if c.toNat<32∨c.toNat=127 then decide (Lx.hex [48,48,Lx.hexd (c.toNat / 16),Lx.hexd (c.toNat % 16)]=some c.toNat∧Lx.enc c.toNat=[c])
 else true
theorem JO:∀n:Fin 256,Kh (UInt8.ofNat n.val)=true:=by decide +kernel
theorem JA (c:UInt8):Kh c=true:=by
 have:=JO ⟨c.toNat,UInt8.toNat_lt c⟩
 simpa using this
theorem KJ (a b c d:UInt8) (x:List UInt8):Lx.hex (a::b::c::d::x)=Lx.hex [a,b,c,d]:=by
 simp[Lx.hex,Lx.hexs]
theorem JX {t:List UInt8}:¬Lx.ctl (92::t):=by
 unfold Lx.ctl;rw[A2 92 _ (by decide)]
 decide
theorem KG (c:UInt8) (out x:List UInt8) (hc:c.toNat<128):Lx.text out (Lx.qb c++x)=Lx.text (out++[c]) x:=by
 have o:=JA c;unfold Kh at o;unfold Lx.qb;by_cases h1:(Lx.qs c).toNat≠0
 ·rw[if_pos h1]at o ⊢;have E:=of_decide_eq_true o;show Lx.text out (92::Lx.qs c::x)=_;exact Lx.text_esc JX (by rw[A2 92 _ (by decide)];rfl) E
 rw[if_neg h1]at o ⊢;by_cases h2:c.toNat<32∨c.toNat=127
 ·rw[if_pos h2]at o ⊢;obtain⟨C,D⟩:=of_decide_eq_true o;show Lx.text out (92::117::48::48::Lx.hexd (c.toNat / 16)::Lx.hexd (c.toNat % 16)::x)=_;rw[Lx.text_uni (v:=c.toNat) JX (by rw[A2 92 _ (by decide)];rfl) (by show Lx.esc 117=none;decide) (by rfl) (by show Lx.hex (48::48::Lx.hexd (c.toNat / 16)::Lx.hexd (c.toNat % 16)::x)=_;rw[KJ,C]) (by omega),D];rfl
 ·rw[if_neg h2];have A:c.toNat≠34:=λe=>h1 (by simp[Lx.qs,e])
  have B:c.toNat≠92:=λe=>h1 (by simp[Lx.qs,e])
  show Lx.text out (c::x)=_;rw[Lx.text,A2 c _ hc];rw[if_neg (by simp;omega),if_neg A,if_pos B];rfl
theorem text_quote:∀(n:Nat) (l out x:List UInt8),l.length≤n→Lx.validGo n l=true→Lx.text out (l.flatMap Lx.qb++34::x)=some (out++l,x)
 | n,[],out,x,_,_=>by
  show Lx.text out (34::x)=_;rw[Lx.text,A2 34 _ (by decide),if_neg (by decide),if_pos (by decide)];simp
 | 0,c::t,_,_,h,_=>by simp at h
 | n+1,c::t,out,x,hn,h=>by
  unfold Lx.validGo at h;rw[if_neg (by simp)]at h;by_cases h0:(Lx.rune (c::t)).2=0
  ·rw[if_pos h0]at h;cases h
  rw[if_neg h0]at h;by_cases hc:c.toNat<128
  ·rw[A2 c t hc]at h;rw[List.flatMap_cons,ZF,KG c out _ hc,text_quote n t (out++[c]) x (by simpa using hn) h];simp
  ·obtain⟨G,hx⟩:=Ev c t hc h0
   generalize hk:(Lx.rune (c::t)).2=k at *
   have A:=Cy (c::t) (((c::t).drop k).flatMap Lx.qb++34::x) (by rw[hk];exact h0);rw[hk]at A;obtain⟨k,rfl⟩:∃j,k=j+1:=⟨k-1,by omega⟩
   have E:k+1≤(c::t).length:=by rw[← hk];exact Lx.rune_len _
   have F:(c::t).flatMap Lx.qb=(c::t).take (k+1)++((c::t).drop (k+1)).flatMap Lx.qb:=by
    conv=>lhs;rw[← List.take_append_drop (k+1) (c::t)]
    rw[List.flatMap_append,FA _ hx]
   rw[F,ZF];have o:∀y,(c::t).take (k+1)++y=c::(t.take k++y):=λy=>by simp
   rw[o]at A ⊢;rw[Lx.text,A];rw[if_neg (by rw[hk];omega),if_neg (by omega),if_pos (by omega),hk,← o];have B:((c::t).take (k+1)).length=k+1:=by rw[List.length_take];omega
   have C:∀y,((c::t).take (k+1)++y).take (k+1)=(c::t).take (k+1):=λy=>by
    rw[List.take_append_of_le_length (by omega),List.take_of_length_le (by omega)]
   have D:∀y,((c::t).take (k+1)++y).drop (k+1)=y:=λy=>by
    rw[List.drop_append_of_le_length (by omega),List.drop_of_length_le (by omega),ZO]
   rw[C,D,text_quote n _ _ x (by rw[QY];simp at hn ⊢;omega) h,ZF,List.take_append_drop]
theorem KI (c:UInt8):∃a r,Lx.qb c=a::r∧a.toNat≠34:=by
 unfold Lx.qb;split
 ·exact⟨_,_,rfl,by decide⟩
 ·rename_i h;split
  ·exact⟨_,_,rfl,by decide⟩
  ·refine⟨_,_,rfl,λe=>h (by simp[Lx.qs,e])⟩
theorem Fz (l x:List UInt8) (hv:Lx.valid l=true) (hx:(Lx.hd x).toNat≠34):Lx.token (Lx.quote l++x)=some (4,l,x):=by
 have B:Lx.quotes3 (34::(l.flatMap Lx.qb++34::x))=false:=by
  cases l with
  | nil =>
   cases x with
   | nil=>rfl
   | cons a x =>
    simp only[Lx.quotes3,List.flatMap_nil,ZO,List.take_succ_cons,List.take_zero,decide_eq_false_iff_not];intro e;simp at e;exact hx (by rw[Lx.hd,List.headD_cons,e];rfl)
  | cons c l =>
   obtain⟨a,r,o,A⟩:=KI c;rw[List.flatMap_cons,o];unfold Lx.quotes3;rw[decide_eq_false_iff_not];intro e;simp at e;exact A (by rw[e.1];rfl)
 have e:Lx.quote l++x=34::(l.flatMap Lx.qb++34::x):=by simp[Lx.quote]
 rw[e];unfold Lx.token;rw[if_neg (by simp[Lx.hd,show Lx.isLetter 34=false by decide]),if_neg (by simp[Lx.hd,show Lx.isDigit 34=false by decide]),if_neg (by rw[B];simp),if_pos (by rfl)];rw[List.drop_one,List.tail_cons,text_quote l.length l [] x (Nat.le_refl _) hv];rfl
namespace Lx
inductive V:List UInt8→Prop
 | nil:V []
 | step (l:List UInt8) (h:(rune l).2≠0) (t:V (l.drop (rune l).2)):V l
theorem KM {l:List UInt8} (h:V l):∀n,l.length≤n→validGo n l=true:=by
 induction h with
 | nil=>intro n _;cases n<;>rfl
 | step l h t ih =>
  intro n hn;cases n with
  | zero=>rfl
  | succ n =>
   unfold validGo;by_cases h0:l=[]
   ·rw[if_pos h0]
   ·rw[if_neg h0,if_neg h];refine ih n ?_;rw[QY];omega
theorem IB (l x:List UInt8) (h:(rune l).2≠0):rune (l++x)=rune l:=by
 have:=Cy l (l.drop (rune l).2++x) h;rw[← ZF,List.take_append_drop]at this;exact this
theorem A8 {a b:List UInt8} (ha:V a) (hb:V b):V (a++b):=by
 induction ha with
 | nil=>exact hb
 | step l h t ih =>
  have e:=IB l b h;refine V.step _ (by rw[e];exact h) ?_;rw[e,List.drop_append_of_le_length (rune_len l)];exact ih
theorem JI {l:List UInt8} (h:(rune l).2≠0):V (l.take (rune l).2):=by
 have e:=Cy l [] h;rw[List.append_nil]at e;refine V.step _ (by rw[e];exact h) ?_;rw[e,List.drop_of_length_le (by rw[List.length_take];omega)];exact .nil
theorem GL {c:UInt8} (h:c.toNat<128):V [c]:=by
 refine V.step _ (by rw[A2 c [] h];simp) ?_;rw[A2 c [] h];exact .nil
theorem FH:∀l:List UInt8,(∀c∈l,c.toNat<128)→V l
 | [],_=>.nil
 | c::l,h=>A8 (GL (h c (by simp))) (FH l (λd hd=>h d (by simp[hd])))
theorem u8n {n:Nat} (h:n<256):n.toUInt8.toNat=n:=by simp;omega
theorem LK {r:Nat} (h:r<55296∨(57343<r∧r≤1114111)):V (enc r):=by
 unfold enc;by_cases h1:r<128
 ·rw[if_pos h1];exact GL (by rw[u8n (by omega)];exact h1)
 rw[if_neg h1];have o:∀c:UInt8,128≤c.toNat→c.toNat<192→cont c=true:=λc h1 h2=>by simp[cont,h1,h2]
 by_cases h2:r<2048
 ·rw[if_pos h2];have a:=u8n (n:=192+r / 64) (by omega);have b:=u8n (n:=128+r % 64) (by omega)
  generalize (192+r / 64).toUInt8=A at *
  generalize (128+r % 64).toUInt8=B at *
  have e:rune [A,B]=(r,2):=by
   simp only[rune];rw[if_neg (by omega),if_pos ⟨by omega,by omega,o B (by omega) (by omega)⟩,if_pos (by omega)];simp only[Prod.mk.injEq,and_true];omega
  exact V.step _ (by rw[e];simp) (by rw[e];exact .nil)
 rw[if_neg h2];by_cases h3:r<65536
 ·rw[if_pos h3];have a:=u8n (n:=224+r / 4096) (by omega);have b:=u8n (n:=128+r / 64 % 64) (by omega);have c:=u8n (n:=128+r % 64) (by omega)
  generalize (224+r / 4096).toUInt8=A at *
  generalize (128+r / 64 % 64).toUInt8=B at *
  generalize (128+r % 64).toUInt8=C at *
  have e:rune [A,B,C]=(r,3):=by
   simp only[rune];rw[if_neg (by omega),if_neg (by omega),if_pos ⟨by omega,by omega,o B (by omega) (by omega),o C (by omega) (by omega)⟩,if_pos (by omega)];simp only[Prod.mk.injEq,and_true];omega
  exact V.step _ (by rw[e];simp) (by rw[e];exact .nil)
 ·rw[if_neg h3];have a:=u8n (n:=240+r / 262144) (by omega);have b:=u8n (n:=128+r / 4096 % 64) (by omega);have c:=u8n (n:=128+r / 64 % 64) (by omega);have d:=u8n (n:=128+r % 64) (by omega)
  generalize (240+r / 262144).toUInt8=A at *
  generalize (128+r / 4096 % 64).toUInt8=B at *
  generalize (128+r / 64 % 64).toUInt8=C at *
  generalize (128+r % 64).toUInt8=D at *
  have e:rune [A,B,C,D]=(r,4):=by
   simp only[rune];rw[if_neg (by omega),if_neg (by omega),if_neg (by omega),if_pos ⟨by omega,by omega,o B (by omega) (by omega),o C (by omega) (by omega),o D (by omega) (by omega)⟩,if_pos (by omega)];simp only[Prod.mk.injEq,and_true];omega
  exact V.step _ (by rw[e];simp) (by rw[e];exact .nil)
theorem Hh {l:List UInt8} (h:V l):∀(a b:List UInt8) (c:UInt8),c.toNat<128→l=a++c::b→V a∧V b:=by
 induction h with
 | nil=>intro a b c _ e;cases a<;>simp at e
 | step l h t ih =>
  intro a b c hc e;subst e;cases a with
  | nil =>
   rw[ZO,A2 c b hc]at t;exact⟨.nil,t⟩
  | cons x a =>
   have A:(rune (x::a++c::b)).2≤(x::a).length:=by
    rcases Nat.lt_or_ge (x::a).length (rune (x::a++c::b)).2 with hlt|hge
    ·exfalso;by_cases hx:x.toNat<128
     ·rw[List.cons_append,A2 x _ hx]at hlt;simp at hlt
     ·obtain⟨_,o⟩:=Ev x (a++c::b) hx h;have D:c∈(x::(a++c::b)).take (rune (x::(a++c::b))).2:=by
       have G:((x::(a++c::b)).take (rune (x::(a++c::b))).2)[(x::a).length]?=some c:=by
        rw[List.getElem?_take,if_pos (by exact hlt)];show (x::a++c::b)[(x::a).length]?=_;rw[List.getElem?_append_right (Nat.le_refl _)];simp
       exact QZ G
      have:=o c D;omega
    ·exact hge
   have B:rune (x::a)=rune (x::a++c::b):=by
    have:=Cy (x::a++c::b) ((x::a).drop (rune (x::a++c::b)).2) h;rw[List.take_append_of_le_length A,List.take_append_drop]at this;exact this
   have E:(x::a++c::b).drop (rune (x::a++c::b)).2=(x::a).drop (rune (x::a++c::b)).2++c::b:=List.drop_append_of_le_length A;obtain⟨C,F⟩:=ih _ b c hc E;exact⟨V.step _ (by rw[B];exact h) (by rw[B];exact C),F⟩
theorem Gk:∀(a b:List UInt8),(∀c∈a,c.toNat<128)→V (a++b)→V b
 | [],b,_,h=>h
 | c::a,b,h,hv=>Gk a b (λd hd=>h d (by simp[hd])) (Hh hv [] (a++b) c (h c (by simp)) rfl).2
theorem Jx {c e:UInt8} (h:esc c=some e):e.toNat<128:=by
 unfold esc at h
 repeat' split at h
 all_goals first|(simp at h;subst h;decide)|(cases h)
theorem Fa:∀(n:Nat) (l out m r:List UInt8),l.length≤n→V out→text out l=some (m,r)→V m
 | _,[],out,m,r,_,_,h=>by rw[text_nil]at h;cases h
 | 0,c::t,_,_,_,h,_,_=>by simp at h
 | n+1,c::t,out,m,r,hn,hv,h=>by
  by_cases h0:ctl (c::t)
  ·rw[text_bad h0]at h;cases h
  have o:(rune (c::t)).2≠0:=λe=>h0 (.inl e)
  have A:t.length≤n:=by simpa using hn
  by_cases h1:(rune (c::t)).1=34
  ·rw[text_quote h0 h1]at h;simp at h;rw[← h.1];exact hv
  by_cases h2:(rune (c::t)).1=92
  ·cases he:esc (hd t) with
   | some e =>
    rw[text_esc h0 h2 he]at h;exact Fa n _ _ m r (by rw[QY];omega) (A8 hv (GL (Jx he))) h
   | none =>
    by_cases hu:(hd t).toNat=117
    ·cases hx:hex (t.drop 1) with
     | none=>rw[text_nohex h0 h2 he hu hx]at h;cases h
     | some v =>
      by_cases hs:55296≤v∧v<57344
      ·rw[text_sur h0 h2 he hu hx hs]at h;cases h
      ·rw[text_uni h0 h2 he hu hx hs]at h;have:=hex_lt hx;exact Fa n _ _ m r (by rw[QY];omega) (A8 hv (LK (by omega))) h
    ·rw[text_noesc h0 h2 he hu]at h;cases h
  ·rw[text_plain h0 h1 h2]at h;exact Fa n _ _ m r (by rw[QY];simp at hn ⊢;omega) (A8 hv (JI o)) h
theorem Fe:∀(n:Nat) (l out m r:List UInt8),l.length≤n→V out→block out l=some (m,r)→V m
 | _,[],out,m,r,_,_,h=>by rw[block_nil]at h;cases h
 | 0,c::t,_,_,_,h,_,_=>by simp at h
 | n+1,c::t,out,m,r,hn,hv,h=>by
  have A:t.length≤n:=by simpa using hn
  cases hq:quotes3 (c::t)
  ·by_cases he:c.toNat=92∧quotes3 t=true
   ·rw[block_esc hq he]at h;exact Fe n _ _ m r (by rw[QY];omega) (A8 hv (FH _ (λd hd=>by simp at hd;subst hd;decide))) h
   ·by_cases hc:Ij (c::t)
    ·rw[block_bad hq he hc]at h;cases h
    ·rw[block_go hq he hc]at h;have o:(rune (c::t)).2≠0:=λe=>hc (.inl e)
     exact Fe n _ _ m r (by rw[QY];simp at hn ⊢;omega) (A8 hv (JI o)) h
  ·rw[block_end hq]at h;simp at h;rw[← h.1];exact hv
/-! 'dedent'. -/
theorem IO {s old:List UInt8} {i:Nat} (h:Lib.index s old=i):∃r,s=s.take i++(old++r)∧s.drop (i+old.length)=r:=by
 rcases Lib.index_spec s old with⟨h1,_⟩|⟨j,h1,h2,h3,_⟩
 ·rw[h1]at h;omega
 ·obtain rfl:j=i:=by omega
  unfold Lib.occAt at h3;obtain⟨r,o⟩:=List.isPrefixOf_iff_prefix.1 h3;refine⟨r,by rw[o,List.take_append_drop],?_⟩;rw[← List.drop_drop,← o,List.drop_left]
theorem KV {s:List UInt8} {x:UInt8} {o:List UInt8} {i:Nat} (hv:V s) (ho:∀c∈x::o,c.toNat<128) (h:Lib.index s (x::o)=i):V (s.take i)∧V (s.drop (i+(x::o).length)):=by
 obtain⟨r,B,C⟩:=IO h;rw[C];obtain⟨A,D⟩:=Hh hv (s.take i) (o++r) x (ho x (by simp)) B;exact⟨A,Gk o r (λc hc=>ho c (by simp[hc])) D⟩
theorem Hn (x:UInt8) (o n:List UInt8) (ho:∀c∈x::o,c.toNat<128) (hn:V n):∀(k:Nat) (s:List UInt8),V s→V (Lib.replaceK (x::o) n k s)
 | 0,s,hv=>hv
 | k+1,s,hv=>by
  unfold Lib.replaceK;split
  ·exact hv
  ·rename_i h;have C:=Lib.index_ge s (x::o);have hi:Lib.index s (x::o)=((Lib.index s (x::o)).toNat:Nat):=by
    have:Lib.index s (x::o)≠-1:=λe=>h (by rw[e];rfl)
    omega
   obtain⟨B,A⟩:=KV hv ho hi;exact A8 (A8 B hn) (Hn x o n ho hn k _ A)
theorem JG (x:UInt8) (o n s:List UInt8) (ho:∀c∈x::o,c.toNat<128) (hn:V n) (hv:V s):V (Lib.replaceAll s (x::o) n):=by
 unfold Lib.replaceAll Lib.replace;split
 ·exact hv
 ·exact Hn x o n ho hn _ s hv
theorem Fu:∀(k:Nat) (s:List UInt8),V s→∀y∈Lib.splitK [10] 0 k s,V y
 | 0,s,hv,y,hy=>by simp[Lib.splitK]at hy;rw[hy];exact hv
 | k+1,s,hv,y,hy=>by
  unfold Lib.splitK at hy;split at hy
  ·simp at hy;rw[hy];exact hv
  ·rename_i h;have B:=Lib.index_ge s [10];have hi:Lib.index s [10]=((Lib.index s [10]).toNat:Nat):=by
    have:Lib.index s [10]≠-1:=λe=>h (by rw[e];rfl)
    omega
   obtain⟨A,o⟩:=KV hv (λc hc=>by simp at hc;subst hc;decide) hi;rcases ZY.1 hy with rfl|hy
   ·exact A
   ·exact Fu k _ o y hy
theorem Jz {raw:List UInt8} (hv:V raw):∀y∈lines raw,V y:=by
 intro y hy;unfold lines linesB at hy;rw[Lib.splitB_data]at hy;refine Fu _ _ ?_ y hy;show V (nl raw);unfold nl;have o:V [10]:=GL (by decide);exact JG 13 [] [10] _ (λc hc=>by simp at hc;subst hc;decide) o (JG 13 [10] [10] _ (λc hc=>by simp at hc;rcases hc with rfl|rfl<;>decide) o hv)
theorem Fq {c:UInt8} (h:isSp c=true):c.toNat<128:=by
 simp only[isSp,List.contains_cons,List.contains_nil,Bool.or_false,Bool.or_eq_true,beq_iff_eq]at h;rcases h with rfl|rfl<;>decide
theorem Cq (p:UInt8→Bool):∀l:List UInt8,∃a,l=a++l.dropWhile p∧∀c∈a,p c=true
 | []=>⟨[],rfl,by simp⟩
 | c::l=>by
  rw[List.dropWhile_cons];split
  ·rename_i h;obtain⟨a,o,A⟩:=Cq p l;refine⟨c::a,by rw[List.cons_append,← o],λd hd=>?_⟩;rcases ZY.1 hd with rfl|hd
   ·exact h
   ·exact A d hd
  ·exact⟨[],rfl,by simp⟩
theorem GU (x:List UInt8) (n:Nat) (h:n≤ind x):∀c∈x.take n,isSp c=true:=by
 obtain⟨a,o,A⟩:=Cq isSp x;have B:a.length=ind x:=by
  unfold ind
  conv=>rhs;rw[o]
  have:=congrArg List.length o;rw[List.length_append]at this;rw[← o];omega
 intro c hc;rw[o,List.take_append_of_le_length (by omega)]at hc;exact A c (List.mem_of_mem_take hc)
theorem JR {x:List UInt8} (hv:V x) (n:Nat) (h:allSp x=true∨n≤ind x):V (x.drop n):=by
 rcases h with h|h
 ·refine FH _ (λc hc=>?_);have hi:x.length≤ind x:=by
   unfold allSp at h;rw[beq_iff_eq]at h;omega
  have:=GU x x.length hi c (by rw[List.take_length];exact List.mem_of_mem_drop hc);exact Fq this
 ·refine Gk (x.take n) _ (λc hc=>Fq (GU x n h c hc)) ?_;rw[List.take_append_drop];exact hv
theorem GK:∀(ls:List (List UInt8)) (c:Int),(0≤c→0≤ls.foldl comStep c∧ls.foldl comStep c≤c)∧∀x∈ls,allSp x=true∨(0≤ls.foldl comStep c∧ls.foldl comStep c≤ind x)
 | [],c=>⟨λh=>⟨h,Int.le_refl _⟩,by simp⟩
 | x::r,c=>by
  obtain⟨A,C⟩:=GK r (comStep c x);rw[List.foldl_cons];have B:(0:Int)≤ind x:=Int.natCast_nonneg _;have o:(comStep c x=ind x∧(c<0∨(ind x:Int)<c))∨(comStep c x=c∧(allSp x=true∨(0≤c∧c≤ind x))):=by
   unfold comStep;split
   ·rename_i h;exact .inl ⟨rfl,h.2⟩
   ·rename_i h;refine .inr ⟨rfl,?_⟩;by_cases he:ind x=x.length
    ·exact .inl (by unfold allSp;rw[he];simp)
    ·have:=ind_le x;exact .inr (by omega)
  refine⟨λh0=>?_,λy hy=>?_⟩
  ·rcases o with⟨e,h⟩|⟨e,h⟩
   ·rw[e]at A ⊢;have:=A B;omega
   ·rw[e]at A ⊢;exact A h0
  ·rcases ZY.1 hy with rfl|hy
   ·rcases o with⟨e,h⟩|⟨e,h⟩
    ·rw[e]at A ⊢;exact .inr (A B)
    ·rcases h with h|h
     ·exact .inl h
     ·rw[e]at A ⊢;have:=A h.1;exact .inr (by omega)
   ·exact C y hy
theorem GD {ls:List (List UInt8)} {x:List UInt8} (h:x∈trimEnd ls):x∈ls:=by
 obtain⟨n,_,e⟩:=Cw ls;rw[e]at h;exact List.mem_of_mem_take h
theorem LF {α:Type} (p:α→Bool) {ls:List α} {x:α} (h:x∈ls.dropWhile p):x∈ls:=(List.dropWhile_sublist p).subset h
theorem D4:∀ls:List (List UInt8),(∀x∈ls,V x)→V (Lib.joinTail [10] ls)
 | [],_=>.nil
 | x::r,h=>by
  have e:Lib.joinTail [10] (x::r)=[10]++x++Lib.joinTail [10] r:=by simp[Lib.joinTail]
  rw[e];exact A8 (A8 (GL (by decide)) (h x (by simp))) (D4 r (λy hy=>h y (by simp[hy])))
theorem Kq:∀ls:List (List UInt8),(∀x∈ls,V x)→V (Lib.join ls [10])
 | [],_=>.nil
 | x::r,h=>by
  rw[Lib.join_cons];exact A8 (h x (by simp)) (D4 r (λy hy=>h y (by simp[hy])))
theorem JB {raw:List UInt8} (hv:V raw):V (dedent raw):=by
 unfold dedent;refine Kq _ (λx hx=>?_);have hx:=LF _ (GD hx);obtain⟨i,hi⟩:=List.getElem?_of_mem hx;rw[strip_get]at hi;cases hl:(lines raw)[i]? with
 | none=>rw[hl]at hi;cases hi
 | some y =>
  rw[hl]at hi;simp at hi;subst hi;have A:=Jz hv y (QZ hl);unfold stripAt;split
  ·rename_i h;refine JR A _ ?_;have o:y∈(lines raw).tail:=by
    cases hlr:lines raw with
    | nil=>rw[hlr]at hl;simp at hl
    | cons a r =>
     rw[hlr]at hl;obtain⟨j,rfl⟩:∃j,i=j+1:=⟨i-1,by omega⟩
     simp at hl;exact QZ hl
   rcases (GK (lines raw).tail (-1)).2 y o with h2|h2
   ·exact .inl h2
   ·refine .inr ?_;unfold common at h ⊢;omega
  ·exact A
end Lx
end Go.Proofs.YtedeapbonbbacaaGreatDoor
