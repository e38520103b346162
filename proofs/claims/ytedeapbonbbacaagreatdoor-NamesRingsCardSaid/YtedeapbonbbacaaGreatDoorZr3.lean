/-
  The lexer as plain functions on lists of bytes (no program in sight). Go's decoder of a rune against the plain one. Steps of the plain lexer, one case each. The lexer's 'dedent' as a plain function. The lexer's 'Lex' as a plain function. The reader of tokens, as plain functions (no program in sight). The reader's plain functions: what they leave alone, how they go on (no program in sight). Values, whatever their numbers: the same, but for places (no program in sight).
-/
import GoSem.Core.Utf8
import Derived.Shelf.Unicode.DecodeSlow
import Derived.Lib.RuneBytes
import Derived.Lib.Strings
import Derived.Lib.Bytealg
import Derived.Lib.Replace
import Derived.Lib.Split
import Derived.Lib.Join
import Derived.Lib.CountLaws
open Bool renaming and_eq_true → ZB
open List renaming take_succ_cons → QF, take_zero → QN, length_cons → QO, length_append → QS, length_drop → QY, map_cons → ZQ, map_nil → ZS
namespace Go.Proofs.YtedeapbonbbacaaGreatDoor
set_option linter.unusedSimpArgs false
set_option linter.unusedVariables false
namespace Lx
def isLetter (c:UInt8):Bool:=c.toNat=95||(97≤(c ||| 32).toNat&&(c ||| 32).toNat≤122)
def isDigit (c:UInt8):Bool:=48≤c.toNat&&c.toNat≤57
def isBlank (c:UInt8):Bool:=c.toNat=32||c.toNat=9||c.toNat=10||c.toNat=13||c.toNat=44
def cont (c:UInt8):Bool:=128≤c.toNat&&c.toNat<192
def rune:List UInt8→Nat×Nat
 | []=>(0,0)
 | c::l =>
  if c.toNat<128 then (c.toNat,1) else
  match l with
  | []=>(0,0)
  | d::l =>
   if 192≤c.toNat∧c.toNat<224∧cont d then
    (if 128≤(c.toNat-192)*64+(d.toNat-128) then ((c.toNat-192)*64+(d.toNat-128),2) else (0,0)) else
   match l with
   | []=>(0,0)
   | e::l =>
    if 224≤c.toNat∧c.toNat<240∧cont d∧cont e then
     (if 2048≤(c.toNat-224)*4096+(d.toNat-128)*64+(e.toNat-128)∧((c.toNat-224)*4096+(d.toNat-128)*64+(e.toNat-128)<55296∨57343<(c.toNat-224)*4096+(d.toNat-128)*64+(e.toNat-128)) then ((c.toNat-224)*4096+(d.toNat-128)*64+(e.toNat-128),3) else (0,0)) else
    match l with
    | []=>(0,0)
    | f::_ =>
     if 240≤c.toNat∧c.toNat<248∧cont d∧cont e∧cont f then
      (if 65536≤(c.toNat-240)*262144+(d.toNat-128)*4096+(e.toNat-128)*64+(f.toNat-128)∧(c.toNat-240)*262144+(d.toNat-128)*4096+(e.toNat-128)*64+(f.toNat-128)≤1114111 then ((c.toNat-240)*262144+(d.toNat-128)*4096+(e.toNat-128)*64+(f.toNat-128),4) else (0,0)) else
     (0,0)
theorem rune_len (l:List UInt8):(rune l).2≤l.length:=by
 unfold rune
 repeat' split
 all_goals simp_all
theorem rune_le4 (l:List UInt8):(rune l).2≤4:=by
 unfold rune
 repeat' split
 all_goals simp_all
theorem rune_max (l:List UInt8):(rune l).1≤1114111:=by
 unfold rune
 repeat' split
 all_goals simp_all [cont]
 all_goals omega
def remark (l:List UInt8):List UInt8×Bool :=
 match l with
 | []=>([],true)
 | c::t =>
  if c.toNat=10∨c.toNat=13 then (c::t,true)
  else if (rune (c::t)).2=0∨((rune (c::t)).1<32∧(rune (c::t)).1≠9) then (c::t,false)
  else remark ((c::t).drop (rune (c::t)).2)
termination_by l.length
decreasing_by simp only[QY,QO];omega
theorem Er (l:List UInt8):(remark l).1.length≤l.length:=by
 induction l using remark.induct with
 | case1=>simp[remark]
 | case2 c t h=>rw[remark,if_pos h];simp
 | case3 c t h1 h2=>rw[remark,if_neg h1,if_pos h2];simp
 | case4 c t h1 h2 ih=>rw[remark,if_neg h1,if_neg h2];simp only[QY]at ih;omega
def bom (l:List UInt8):Bool:=l.take 3=[239,187,191]
def gap (first:Bool) (l:List UInt8):List UInt8×Bool :=
 match l with
 | []=>([],true)
 | c::t =>
  if isBlank c then gap false t
  else if first∧bom (c::t) then gap false ((c::t).drop 3)
  else if c.toNat=35 then
   (if (remark t).2 then gap false (remark t).1 else ((remark t).1,false))
  else (c::t,true)
termination_by l.length
decreasing_by
 ·simp
 ·simp;omega
 ·have:=Er t;simp;omega
def hd (l:List UInt8):UInt8:=l.headD 0
def digits (l:List UInt8):List UInt8:=l.dropWhile isDigit
def numEnd (r:Nat×List UInt8):Option (Nat×List UInt8) :=
 if (hd r.2).toNat=46∨isLetter (hd r.2)∨isDigit (hd r.2) then none else some r
def numExp (r:Nat×List UInt8):Option (Nat×List UInt8) :=
 if ((hd r.2) ||| 32).toNat=101 then
  (
   let l1:=r.2.drop 1
   let l2:=if (hd l1).toNat=43∨(hd l1).toNat=45 then l1.drop 1 else l1
   if (digits l2).length=l2.length then none else numEnd (3,digits l2))
 else numEnd r
def numFrac (l:List UInt8):Option (Nat×List UInt8) :=
 if (hd l).toNat=46 then
  (if (digits (l.drop 1)).length=(l.drop 1).length then none else numExp (3,digits (l.drop 1)))
 else numExp (2,l)
def number (l:List UInt8):Option (Nat×List UInt8) :=
 let l1:=if (hd l).toNat=45 then l.drop 1 else l
 if (digits l1).length=l1.length∨((hd l1).toNat=48∧1<l1.length-(digits l1).length) then none
 else numFrac (digits l1)
def hexv (c:UInt8):Option Nat :=
 if 48≤c.toNat∧c.toNat≤57 then some (c.toNat-48)
 else if 97≤c.toNat∧c.toNat≤102 then some (c.toNat-87)
 else if 65≤c.toNat∧c.toNat≤70 then some (c.toNat-55)
 else none
def hexs:Nat→Nat→List UInt8→Option Nat
 | 0,r,_=>some r
 | _+1,_,[]=>none
 | k+1,r,c::l=>match hexv c with
  | none=>none
  | some v=>hexs k (r*16+v) l
def hex (l:List UInt8):Option Nat:=hexs 4 0 l
def enc (r:Nat):List UInt8 :=
 if r<128 then [r.toUInt8]
 else if r<2048 then [(192+r / 64).toUInt8,(128+r % 64).toUInt8]
 else if r<65536 then [(224+r / 4096).toUInt8,(128+r / 64 % 64).toUInt8,(128+r % 64).toUInt8]
 else [(240+r / 262144).toUInt8,(128+r / 4096 % 64).toUInt8,(128+r / 64 % 64).toUInt8,(128+r % 64).toUInt8]
def esc (c:UInt8):Option UInt8 :=
 if c.toNat=34 then some 34 else if c.toNat=92 then some 92 else if c.toNat=47 then some 47 else if c.toNat=98 then some 8
 else if c.toNat=102 then some 12 else if c.toNat=110 then some 10 else if c.toNat=114 then some 13 else if c.toNat=116 then some 9 else none
def text (out l:List UInt8):Option (List UInt8×List UInt8) :=
 match l with
 | []=>none
 | c::t =>
  if (rune (c::t)).2=0∨((rune (c::t)).1<32∧(rune (c::t)).1≠9) then none
  else if (rune (c::t)).1=34 then some (out,t)
  else if (rune (c::t)).1≠92 then text (out++(c::t).take (rune (c::t)).2) ((c::t).drop (rune (c::t)).2)
  else match esc (hd t) with
   | some e=>text (out++[e]) (t.drop 1)
   | none =>
    if (hd t).toNat=117 then
     (match hex (t.drop 1) with
     | some h=>if 55296≤h∧h<57344 then none else text (out++enc h) (t.drop 5)
     | none=>none)
    else none
termination_by l.length
decreasing_by
 ·simp only[QY,QO];omega
 ·simp;omega
 ·simp;omega
def quotes3 (l:List UInt8):Bool:=l.take 3=[34,34,34]
def block (out l:List UInt8):Option (List UInt8×List UInt8) :=
 match l with
 | []=>none
 | c::t =>
  if quotes3 (c::t) then some (out,(c::t).drop 3)
  else if c.toNat=92∧quotes3 t then block (out++[34,34,34]) (t.drop 3)
  else if (rune (c::t)).2=0∨((rune (c::t)).1<32∧(rune (c::t)).1≠9∧(rune (c::t)).1≠10∧(rune (c::t)).1≠13) then none
  else block (out++(c::t).take (rune (c::t)).2) ((c::t).drop (rune (c::t)).2)
termination_by l.length
decreasing_by
 ·simp;omega
 ·simp only[QY,QO];omega
end Lx
namespace Lx
theorem Jn (l:List UInt8) (k:Nat):(ByteArray.mk l.toArray).get! k=l.getD k 0:=by
 unfold ByteArray.get!;simp[List.getD_eq_getElem?_getD];rfl
def clip (p:Nat×Nat):Nat×Nat:=if p.1=65533∧p.2<2 then (0,0) else p
theorem Gm (l:List UInt8):Utf8.decode ⟨l.toArray⟩ 0 =
  if (l.getD 0 0).toNat<128 then ((l.getD 0 0).toNat,1) else
  if (l.getD 0 0).toNat / 32=6∧1<l.length∧(l.getD 1 0).toNat / 64=2 then
   (if 128≤(l.getD 0 0).toNat % 32*64+(l.getD 1 0).toNat % 64 then ((l.getD 0 0).toNat % 32*64+(l.getD 1 0).toNat % 64,2) else (65533,1))
  else if (l.getD 0 0).toNat / 16=14∧(1<l.length∧(l.getD 1 0).toNat / 64=2)∧2<l.length∧(l.getD 2 0).toNat / 64=2 then
   (if 2048≤(l.getD 0 0).toNat % 16*4096+(l.getD 1 0).toNat % 64*64+(l.getD 2 0).toNat % 64∧Utf8.valid ((l.getD 0 0).toNat % 16*4096+(l.getD 1 0).toNat % 64*64+(l.getD 2 0).toNat % 64:Nat)=true then
    ((l.getD 0 0).toNat % 16*4096+(l.getD 1 0).toNat % 64*64+(l.getD 2 0).toNat % 64,3) else (65533,1))
  else if (l.getD 0 0).toNat / 8=30∧((1<l.length∧(l.getD 1 0).toNat / 64=2)∧2<l.length∧(l.getD 2 0).toNat / 64=2)∧3<l.length∧(l.getD 3 0).toNat / 64=2 then
   (if 65536≤(l.getD 0 0).toNat % 8*262144+(l.getD 1 0).toNat % 64*4096+(l.getD 2 0).toNat % 64*64+(l.getD 3 0).toNat % 64∧Utf8.valid ((l.getD 0 0).toNat % 8*262144+(l.getD 1 0).toNat % 64*4096+(l.getD 2 0).toNat % 64*64+(l.getD 3 0).toNat % 64:Nat)=true then
    ((l.getD 0 0).toNat % 8*262144+(l.getD 1 0).toNat % 64*4096+(l.getD 2 0).toNat % 64*64+(l.getD 3 0).toNat % 64,4) else (65533,1))
  else (65533,1):=by
 have o:(ByteArray.mk l.toArray).size=l.length:=rfl;unfold Utf8.decode;simp only[Jn,o,Nat.zero_add,Utf8.runeError,ZB,beq_iff_eq,decide_eq_true_eq,and_assoc,ge_iff_le]
theorem IM (n:Nat):(Utf8.valid (n:Int)=true)↔(n<55296∨57343<n)∧n≤1114111:=by
 simp[Utf8.valid];omega
theorem Kk {α:Type} {P P' Q Q':Prop} [Decidable P] [Decidable P'] [Decidable Q] [Decidable Q'] {a a' b r r':α}
  (h1:P↔P') (h2:P→(Q↔Q')) (h3:P→a=a') (h4:r=r'):(if P then (if Q then a else b) else r)=(if P' then (if Q' then a' else b) else r'):=by
 by_cases hp:P
 ·rw[if_pos hp,if_pos (h1.1 hp),h3 hp];by_cases hq:Q
  ·rw[if_pos hq,if_pos ((h2 hp).1 hq)]
  ·rw[if_neg hq,if_neg (λh=>hq ((h2 hp).2 h))]
 ·rw[if_neg hp,if_neg (λh=>hp (h1.2 h)),h4]
theorem FK (l:List UInt8) (b0 b1 b2 b3:Nat) (h0:(l.getD 0 0).toNat=b0) (h1:(l.getD 1 0).toNat=b1) (h2:(l.getD 2 0).toNat=b2) (h3:(l.getD 3 0).toNat=b3):Utf8.decode ⟨l.toArray⟩ 0 =
  if b0<128 then (b0,1) else
  if 192≤b0∧b0<224∧1<l.length∧128≤b1∧b1<192 then
   (if 128≤(b0-192)*64+(b1-128) then ((b0-192)*64+(b1-128),2) else (65533,1))
  else if 224≤b0∧b0<240∧2<l.length∧128≤b1∧b1<192∧128≤b2∧b2<192 then
   (if 2048≤(b0-224)*4096+(b1-128)*64+(b2-128)∧((b0-224)*4096+(b1-128)*64+(b2-128)<55296∨57343<(b0-224)*4096+(b1-128)*64+(b2-128)) then
    ((b0-224)*4096+(b1-128)*64+(b2-128),3) else (65533,1))
  else if 240≤b0∧b0<248∧3<l.length∧128≤b1∧b1<192∧128≤b2∧b2<192∧128≤b3∧b3<192 then
   (if 65536≤(b0-240)*262144+(b1-128)*4096+(b2-128)*64+(b3-128)∧(b0-240)*262144+(b1-128)*4096+(b2-128)*64+(b3-128)≤1114111 then
    ((b0-240)*262144+(b1-128)*4096+(b2-128)*64+(b3-128),4) else (65533,1))
  else (65533,1):=by
 have o:=UInt8.toNat_lt (l.getD 0 0);have k1:=UInt8.toNat_lt (l.getD 1 0);have B:=UInt8.toNat_lt (l.getD 2 0);have A:=UInt8.toNat_lt (l.getD 3 0);rw[Gm,h0,h1,h2,h3];rw[h0]at o;rw[h1]at k1;rw[h2]at B;rw[h3]at A;simp only[IM];by_cases c0:b0<128
 ·rw[if_pos c0,if_pos c0]
 ·rw[if_neg c0,if_neg c0];refine Kk (by omega) (by omega) (λh=>by rw[show b0 % 32*64+b1 % 64=(b0-192)*64+(b1-128) by omega]) ?_;refine Kk (by omega) (by omega) (λh=>by rw[show b0 % 16*4096+b1 % 64*64+b2 % 64=(b0-224)*4096+(b1-128)*64+(b2-128) by omega]) ?_;refine Kk (by omega) (by omega) (λh=>by rw[show b0 % 8*262144+b1 % 64*4096+b2 % 64*64+b3 % 64=(b0-240)*262144+(b1-128)*4096+(b2-128)*64+(b3-128) by omega]) rfl
theorem I7 {P:Prop} [Decidable P] (a b:Nat×Nat):clip (if P then a else b)=if P then clip a else clip b:=by split<;>rfl
theorem Jg:clip (65533,1)=(0,0):=rfl
theorem EN (r n:Nat) (h:2≤n):clip (r,n)=(r,n):=by unfold clip;rw[if_neg (by simp;omega)]
theorem I2 (r:Nat) (h:r<128):clip (r,1)=(r,1):=by unfold clip;rw[if_neg (by simp;omega)]
theorem rune_decode (l:List UInt8):clip (Lib.decodeGo ⟨l.toArray⟩)=rune l:=by
 unfold Lib.decodeGo;have o:(ByteArray.mk l.toArray).size=l.length:=rfl;rw[FK l _ _ _ _ rfl rfl rfl rfl,o]
 match l with
 | []=>rfl
 | c::t =>
  rw[if_neg (by simp)];simp only[I7,Jg,EN _ 2 (by omega),EN _ 3 (by omega),EN _ 4 (by omega),List.getD_cons_zero,List.getD_cons_succ,QO,rune,cont,ZB,decide_eq_true_eq];by_cases h:c.toNat<128
  ·simp only[if_pos h,I2 _ h]
  ·simp only[if_neg h]
   match t with
   | []=>simp
   | d::t =>
    simp only[List.getD_cons_zero,List.getD_cons_succ,QO];by_cases h2:192≤c.toNat∧c.toNat<224∧128≤d.toNat∧d.toNat<192
    ·rw[if_pos (by omega),if_pos h2]
    ·rw[if_neg (by omega),if_neg h2]
     match t with
     | []=>simp
     | e::t =>
      simp only[List.getD_cons_zero,List.getD_cons_succ,QO];by_cases h3:224≤c.toNat∧c.toNat<240∧(128≤d.toNat∧d.toNat<192)∧128≤e.toNat∧e.toNat<192
      ·rw[if_pos (by omega),if_pos h3]
      ·rw[if_neg (by omega),if_neg h3]
       match t with
       | []=>simp
       | f::t =>
        simp only[List.getD_cons_zero,QO];by_cases h4:240≤c.toNat∧c.toNat<248∧(128≤d.toNat∧d.toNat<192)∧(128≤e.toNat∧e.toNat<192)∧128≤f.toNat∧f.toNat<192
        ·rw[if_pos (by omega),if_pos h4]
        ·rw[if_neg (by omega),if_neg h4]
theorem enc_lib (r:Nat) (h:r<55296∨(57343<r∧r≤1114111)):Lib.encodeRune (r:Int)=enc r:=by
 unfold Lib.encodeRune enc;by_cases h1:r<128
 ·rw[Lib.encodeRuneZ_one (by omega) (by omega),if_pos h1];simp
 ·by_cases h2:r<2048
  ·rw[Lib.encodeRuneZ_two (by omega) (by omega),if_neg h1,if_pos h2];simp only[ZQ,ZS];rw[show ((192:Int)+(r:Int) / 64).toNat=192+r / 64 by omega,show ((128:Int)+(r:Int) % 64).toNat=128+r % 64 by omega]
  ·by_cases h3:r<65536
   ·rw[Lib.encodeRuneZ_three (by omega),if_neg h1,if_neg h2,if_pos h3];simp only[ZQ,ZS];rw[show ((224:Int)+(r:Int) / 4096).toNat=224+r / 4096 by omega,show ((128:Int)+(r:Int) / 64 % 64).toNat=128+r / 64 % 64 by omega,show ((128:Int)+(r:Int) % 64).toNat=128+r % 64 by omega]
   ·rw[Lib.encodeRuneZ_four (by omega) (by omega),if_neg h1,if_neg h2,if_neg h3];simp only[ZQ,ZS];rw[show ((240:Int)+(r:Int) / 262144).toNat=240+r / 262144 by omega,show ((128:Int)+(r:Int) / 4096 % 64).toNat=128+r / 4096 % 64 by omega,show ((128:Int)+(r:Int) / 64 % 64).toNat=128+r / 64 % 64 by omega,show ((128:Int)+(r:Int) % 64).toNat=128+r % 64 by omega]
theorem C4 {n:Nat} {c:UInt8} (h:n=c.toNat):n.toUInt8=c:=by subst h;simp
theorem rune_enc (l:List UInt8) (h:(rune l).2≠0):((rune l).1<55296∨(57343<(rune l).1∧(rune l).1≤1114111))∧enc (rune l).1=l.take (rune l).2:=by
 match l with
 | []=>simp[rune]at h
 | c::t =>
  have D:=UInt8.toNat_lt c;unfold rune at h ⊢;simp only[]at h ⊢;by_cases h1:c.toNat<128
  ·simp only[if_pos h1]at h ⊢;refine⟨by omega,?_⟩;unfold enc;rw[if_pos h1];simp
  ·simp only[if_neg h1]at h ⊢
   match t with
   | []=>simp at h
   | d::t =>
    have C:=UInt8.toNat_lt d;simp only[]at h ⊢;by_cases h2:192≤c.toNat∧c.toNat<224∧cont d=true
    ·simp only[if_pos h2]at h ⊢;have A:=h2.2.2;simp only[cont,ZB,decide_eq_true_eq]at A;by_cases h3:128≤(c.toNat-192)*64+(d.toNat-128)
     ·simp only[if_pos h3]at h ⊢;refine⟨by omega,?_⟩;unfold enc;rw[if_neg (by omega),if_pos (by omega)];simp only[QF,QN,List.cons.injEq,and_true];exact⟨C4 (by omega),C4 (by omega)⟩
     ·simp[if_neg h3]at h
    ·simp only[if_neg h2]at h ⊢
     match t with
     | []=>simp at h
     | e::t =>
      have F:=UInt8.toNat_lt e;simp only[]at h ⊢;by_cases h3:224≤c.toNat∧c.toNat<240∧cont d=true∧cont e=true
      ·simp only[if_pos h3]at h ⊢;have o:=h3.2.2;simp only[cont,ZB,decide_eq_true_eq]at o;by_cases h4:2048≤(c.toNat-224)*4096+(d.toNat-128)*64+(e.toNat-128)∧((c.toNat-224)*4096+(d.toNat-128)*64+(e.toNat-128)<55296∨57343<(c.toNat-224)*4096+(d.toNat-128)*64+(e.toNat-128))
       ·simp only[if_pos h4]at h ⊢;refine⟨by omega,?_⟩;unfold enc;rw[if_neg (by omega),if_neg (by omega),if_pos (by omega)];simp only[QF,QN,List.cons.injEq,and_true];exact⟨C4 (by omega),C4 (by omega),C4 (by omega)⟩
       ·simp[if_neg h4]at h
      ·simp only[if_neg h3]at h ⊢
       match t with
       | []=>simp at h
       | f::t =>
        have E:=UInt8.toNat_lt f;simp only[]at h ⊢;by_cases h4:240≤c.toNat∧c.toNat<248∧cont d=true∧cont e=true∧cont f=true
        ·simp only[if_pos h4]at h ⊢;have B:=h4.2.2;simp only[cont,ZB,decide_eq_true_eq]at B;by_cases h5:65536≤(c.toNat-240)*262144+(d.toNat-128)*4096+(e.toNat-128)*64+(f.toNat-128)∧(c.toNat-240)*262144+(d.toNat-128)*4096+(e.toNat-128)*64+(f.toNat-128)≤1114111
         ·simp only[if_pos h5]at h ⊢;refine⟨by omega,?_⟩;unfold enc;rw[if_neg (by omega),if_neg (by omega),if_neg (by omega)];simp only[QF,QN,List.cons.injEq,and_true];exact⟨C4 (by omega),C4 (by omega),C4 (by omega),C4 (by omega)⟩
         ·simp[if_neg h5]at h
        ·simp[if_neg h4]at h
end Lx
namespace Lx
theorem gap_nil (f:Bool):gap f []=([],true):=by rw[gap]
theorem gap_blank {f:Bool} {c:UInt8} {t:List UInt8} (h:isBlank c=true):gap f (c::t)=gap false t:=by rw[gap,if_pos h]
theorem gap_bom {c:UInt8} {t:List UInt8} (h:isBlank c=false) (hb:bom (c::t)=true):gap true (c::t)=gap false ((c::t).drop 3):=by
 rw[gap,if_neg (by simp[h]),if_pos ⟨rfl,hb⟩]
theorem gap_rem {f:Bool} {c:UInt8} {t:List UInt8} (hc:c.toNat=35):gap f (c::t)=if (remark t).2 then gap false (remark t).1 else ((remark t).1,false):=by
 have h:isBlank c=false:=by simp[isBlank,hc]
 have o:bom (c::t)=false:=by
  have:c≠239:=by intro e;subst e;simp at hc
  simp[bom,this]
 rw[gap,if_neg (by simp[h]),if_neg (by simp[o]),if_pos hc]
theorem gap_stop {f:Bool} {c:UInt8} {t:List UInt8} (h:isBlank c=false) (hb:¬(f=true∧bom (c::t)=true)) (hc:c.toNat≠35):gap f (c::t)=(c::t,true):=by
 rw[gap,if_neg (by simp[h]),if_neg hb,if_neg hc]
theorem Gj {c:UInt8} {t:List UInt8} (h:c.toNat<128):rune (c::t)=(c.toNat,1):=by unfold rune;exact if_pos h
theorem remark_hash {c:UInt8} {t:List UInt8} (h:c.toNat=35):remark (c::t)=remark t:=by
 have o:=Gj (t:=t) (show c.toNat<128 by omega);rw[remark,if_neg (by omega),if_neg (by rw[o];simp[h]),o];rfl
theorem remark_nil:remark []=([],true):=by rw[remark]
theorem remark_end {c:UInt8} {t:List UInt8} (h:c.toNat=10∨c.toNat=13):remark (c::t)=(c::t,true):=by rw[remark,if_pos h]
theorem remark_bad {c:UInt8} {t:List UInt8} (h:¬(c.toNat=10∨c.toNat=13)) (hr:(rune (c::t)).2=0∨((rune (c::t)).1<32∧(rune (c::t)).1≠9)):remark (c::t)=(c::t,false):=by
 rw[remark,if_neg h,if_pos hr]
theorem remark_go {c:UInt8} {t:List UInt8} (h:¬(c.toNat=10∨c.toNat=13)) (hr:¬((rune (c::t)).2=0∨((rune (c::t)).1<32∧(rune (c::t)).1≠9))):remark (c::t)=remark ((c::t).drop (rune (c::t)).2):=by
 rw[remark,if_neg h,if_neg hr]
theorem ctl_cases (r n:Nat) :
  ((((n:Int)==0)=true)∧(n=0∨(r<32∧r≠9))) ∨
  ((((n:Int)==0)=false)∧decide ((r:Int)<32)=true∧((r:Int) != 9)=true∧(n=0∨(r<32∧r≠9))) ∨
  ((((n:Int)==0)=false)∧decide ((r:Int)<32)=true∧((r:Int) != 9)=false∧¬(n=0∨(r<32∧r≠9))) ∨
  ((((n:Int)==0)=false)∧decide ((r:Int)<32)=false∧¬(n=0∨(r<32∧r≠9))):=by
 by_cases h0:n=0
 ·exact .inl ⟨by simp[h0],.inl h0⟩
 ·have o:((n:Int)==0)=false:=by simp[h0]
  by_cases h1:r<32
  ·have A:decide ((r:Int)<32)=true:=by simp;omega
   by_cases h2:r=9
   ·exact .inr (.inr (.inl ⟨o,A,by simp[h2],by omega⟩))
   ·exact .inr (.inl ⟨o,A,by simp;omega,by omega⟩)
  ·exact .inr (.inr (.inr ⟨o,by simp;omega,by omega⟩))
theorem number_at (l l1:List UInt8) (h:l1=if (hd l).toNat=45 then l.drop 1 else l) :
  number l=if (digits l1).length=l1.length∨((hd l1).toNat=48∧1<l1.length-(digits l1).length) then none else numFrac (digits l1):=by subst h;rfl
theorem bom_prefix (l:List UInt8):bom l=Lib.hasPrefix l [239,187,191]:=by
 match l with
 | []=>rfl
 | [a]=>simp[bom,Lib.hasPrefix,List.isPrefixOf]
 | [a,b]=>simp[bom,Lib.hasPrefix,List.isPrefixOf]
 | a::b::c::t =>
  have e:Lib.hasPrefix (a::b::c::t) [239,187,191]=((239==a)&&((187==b)&&((191==c)&&true))):=rfl;have o:bom (a::b::c::t)=decide ([a,b,c]=[239,187,191]):=rfl;rw[e,o];by_cases h1:a=239
  ·by_cases h2:b=187
   ·by_cases h3:c=191
    ·subst h1 h2 h3;decide
    ·simp[h1,h2,h3,Ne.symm h3]
   ·simp[h1,h2,Ne.symm h2]
  ·simp[h1,Ne.symm h1]
def ctl (l:List UInt8):Prop:=(rune l).2=0∨((rune l).1<32∧(rune l).1≠9)
theorem text_nil (out:List UInt8):text out []=none:=by rw[text]
theorem text_bad {out:List UInt8} {c:UInt8} {t:List UInt8} (h:ctl (c::t)):text out (c::t)=none:=by unfold ctl at h;rw[text,if_pos h]
theorem text_quote {out:List UInt8} {c:UInt8} {t:List UInt8} (h:¬ctl (c::t)) (hq:(rune (c::t)).1=34):text out (c::t)=some (out,t):=by unfold ctl at h;rw[text,if_neg h,if_pos hq]
theorem text_plain {out:List UInt8} {c:UInt8} {t:List UInt8} (h:¬ctl (c::t)) (hq:(rune (c::t)).1≠34) (hb:(rune (c::t)).1≠92) :
  text out (c::t)=text (out++(c::t).take (rune (c::t)).2) ((c::t).drop (rune (c::t)).2):=by unfold ctl at h;rw[text,if_neg h,if_neg hq,if_pos hb]
theorem text_esc {out:List UInt8} {c:UInt8} {t:List UInt8} {e:UInt8} (h:¬ctl (c::t)) (hb:(rune (c::t)).1=92) (he:esc (hd t)=some e) :
  text out (c::t)=text (out++[e]) (t.drop 1):=by unfold ctl at h;rw[text,if_neg h,if_neg (by omega),if_neg (by simp[hb]),he]
theorem text_noesc {out:List UInt8} {c:UInt8} {t:List UInt8} (h:¬ctl (c::t)) (hb:(rune (c::t)).1=92) (he:esc (hd t)=none) (hu:(hd t).toNat≠117) :
  text out (c::t)=none:=by unfold ctl at h;rw[text,if_neg h,if_neg (by omega),if_neg (by simp[hb]),he];simp[hu]
theorem text_nohex {out:List UInt8} {c:UInt8} {t:List UInt8} (h:¬ctl (c::t)) (hb:(rune (c::t)).1=92) (he:esc (hd t)=none) (hu:(hd t).toNat=117) (hx:hex (t.drop 1)=none) :
  text out (c::t)=none:=by unfold ctl at h;rw[text,if_neg h,if_neg (by omega),if_neg (by simp[hb]),he];simp only[if_pos hu,hx]
theorem text_sur {out:List UInt8} {c:UInt8} {t:List UInt8} {v:Nat} (h:¬ctl (c::t)) (hb:(rune (c::t)).1=92) (he:esc (hd t)=none) (hu:(hd t).toNat=117) (hx:hex (t.drop 1)=some v) (hs:55296≤v∧v<57344) :
  text out (c::t)=none:=by unfold ctl at h;rw[text,if_neg h,if_neg (by omega),if_neg (by simp[hb]),he];simp only[if_pos hu,hx,if_pos hs]
theorem text_uni {out:List UInt8} {c:UInt8} {t:List UInt8} {v:Nat} (h:¬ctl (c::t)) (hb:(rune (c::t)).1=92) (he:esc (hd t)=none) (hu:(hd t).toNat=117) (hx:hex (t.drop 1)=some v) (hs:¬(55296≤v∧v<57344)) :
  text out (c::t)=text (out++enc v) (t.drop 5):=by
 unfold ctl at h;rw[text,if_neg h,if_neg (by omega),if_neg (by simp[hb]),he];simp only[hx,if_pos hu,if_neg hs]
theorem Hp:∀(k r:Nat) (l:List UInt8) (v:Nat),hexs k r l=some v→v<(r+1)*16 ^ k
 | 0,r,_,v,h=>by simp[hexs]at h;omega
 | k+1,r,[],v,h=>by simp[hexs]at h
 | k+1,r,c::l,v,h=>by
  unfold hexs at h;cases hv:hexv c with
  | none=>simp[hv]at h
  | some x =>
   simp only[hv]at h;have A:=Hp k _ l v h;have hx:x<16:=by
    unfold hexv at hv
    repeat' split at hv
    all_goals simp at hv
    all_goals omega
   have o:(r*16+x+1)*16 ^ k≤((r+1)*16)*16 ^ k:=Nat.mul_le_mul_right _ (by omega);rw[Nat.pow_succ,Nat.mul_comm (16 ^ k) 16,← Nat.mul_assoc];omega
theorem hex_lt {l:List UInt8} {v:Nat} (h:hex l=some v):v<65536:=by
 have:=Hp 4 0 l v h
 simpa using this
theorem hexs_len:∀(k r:Nat) (l:List UInt8) (v:Nat),hexs k r l=some v→k≤l.length
 | 0,_,_,_,_=>by omega
 | k+1,r,[],v,h=>by simp[hexs]at h
 | k+1,r,c::l,v,h=>by
  unfold hexs at h;cases hv:hexv c with
  | none=>simp[hv]at h
  | some x =>
   simp only[hv]at h;have:=hexs_len k _ l v h
   simpa using this
theorem enc_len (r:Nat):(enc r).length≤4:=by
 unfold enc;repeat' split
 all_goals simp
theorem block_nil (out:List UInt8):block out []=none:=by rw[block]
theorem block_end {out:List UInt8} {c:UInt8} {t:List UInt8} (h:quotes3 (c::t)=true):block out (c::t)=some (out,(c::t).drop 3):=by rw[block,if_pos h]
theorem block_esc {out:List UInt8} {c:UInt8} {t:List UInt8} (h:quotes3 (c::t)=false) (h2:c.toNat=92∧quotes3 t=true):block out (c::t)=block (out++[34,34,34]) (t.drop 3):=by
 rw[block,if_neg (by simp[h]),if_pos h2]
def Ij (l:List UInt8):Prop:=(rune l).2=0∨((rune l).1<32∧(rune l).1≠9∧(rune l).1≠10∧(rune l).1≠13)
theorem block_bad {out:List UInt8} {c:UInt8} {t:List UInt8} (h:quotes3 (c::t)=false) (h2:¬(c.toNat=92∧quotes3 t=true)) (hr:Ij (c::t)):block out (c::t)=none:=by
 unfold Ij at hr;rw[block,if_neg (by simp[h]),if_neg h2,if_pos hr]
theorem block_go {out:List UInt8} {c:UInt8} {t:List UInt8} (h:quotes3 (c::t)=false) (h2:¬(c.toNat=92∧quotes3 t=true)) (hr:¬Ij (c::t)) :
  block out (c::t)=block (out++(c::t).take (rune (c::t)).2) ((c::t).drop (rune (c::t)).2):=by
 unfold Ij at hr;rw[block,if_neg (by simp[h]),if_neg h2,if_neg hr]
def escs:List UInt8:=[34,92,47,98,102,110,114,116,117]
def Kb:List UInt8:=[34,92,47,8,12,10,13,9]
def KW (c:UInt8):Bool :=
 let k:=Lib.indexByte escs c
 if k<0 then decide (k=-1)&&decide (esc c=none)&&decide (c.toNat≠117)
 else if k<8 then decide (esc c=some (Kb.getD k.toNat 0))&&decide (c.toNat≠0)
 else decide (k=8)&&decide (esc c=none)&&decide (c.toNat=117)
theorem KA:∀n:Fin 256,KW (UInt8.ofNat n.val)=true:=by decide +kernel
theorem esc_cases (c:UInt8):(Lib.indexByte escs c<0∧esc c=none∧c.toNat≠117) ∨
  (0≤Lib.indexByte escs c∧Lib.indexByte escs c<8∧esc c=some (Kb.getD (Lib.indexByte escs c).toNat 0)∧c.toNat≠0) ∨
  (Lib.indexByte escs c=8∧esc c=none∧c.toNat=117):=by
 have h:=KA ⟨c.toNat,UInt8.toNat_lt c⟩;simp only[UInt8.ofNat_toNat]at h;unfold KW at h;simp only[]at h;by_cases h1:Lib.indexByte escs c<0
 ·rw[if_pos h1]at h;simp only[ZB,decide_eq_true_eq]at h;exact .inl ⟨h1,h.1.2,h.2⟩
 ·rw[if_neg h1]at h;by_cases h2:Lib.indexByte escs c<8
  ·rw[if_pos h2]at h;simp only[ZB,decide_eq_true_eq]at h;exact .inr (.inl ⟨by omega,h2,h.1,h.2⟩)
  ·rw[if_neg h2]at h;simp only[ZB,decide_eq_true_eq]at h;exact .inr (.inr ⟨h.1.1,h.1.2,h.2⟩)
end Lx
namespace Lx
def isSp (c:UInt8):Bool:=[32,9].contains c
def ind (l:List UInt8):Nat:=l.length-(l.dropWhile isSp).length
theorem ind_le (l:List UInt8):ind l≤l.length:=by unfold ind;omega
theorem dropWhile_le (p:UInt8→Bool) (l:List UInt8):(l.dropWhile p).length≤l.length:=by
 induction l with
 | nil=>simp
 | cons a l ih =>
  rw[List.dropWhile_cons];split
  ·simp;omega
  ·simp
def nl (raw:List UInt8):List UInt8:=Lib.replaceAll (Lib.replaceAll raw [13,10] [10]) [13] [10]
def linesB (raw:ByteArray):List ByteArray:=Lib.splitB ⟨#[10]⟩ 0 (Lib.countB raw ⟨#[10]⟩) raw
def lines (raw:List UInt8):List (List UInt8):=(linesB ⟨(nl raw).toArray⟩).map (·.data.toList)
def comStep (c:Int) (s:List UInt8):Int:=if (ind s:Int)<s.length∧(c<0∨(ind s:Int)<c) then ind s else c
def common (ls:List (List UInt8)):Int:=ls.foldl comStep (-1)
def stripAt (c:Int) (i:Nat) (s:List UInt8):List UInt8:=if 0<i∧0<c then s.drop c.toNat else s
def strip (c:Int) (ls:List (List UInt8)):List (List UInt8):=ls.mapIdx (stripAt c)
def allSp (s:List UInt8):Bool:=ind s==s.length
def trimEnd:List (List UInt8)→List (List UInt8)
 | []=>[]
 | x::r=>match trimEnd r with
  | []=>if allSp x then [] else [x]
  | y::r=>x::y::r
def dedent (raw:List UInt8):List UInt8 :=
 Lib.join (trimEnd ((strip (common (lines raw).tail) (lines raw)).dropWhile allSp)) [10]
def isWord (c:UInt8):Bool:=isLetter c||isDigit c
def signs:List UInt8:=[33,36,38,40,41,58,61,64,91,93,123,124,125]
def dots3 (l:List UInt8):Bool:=l.take 3=[46,46,46]
def token (l:List UInt8):Option (Nat×List UInt8×List UInt8) :=
 if isLetter (hd l) then some (1,l.take (l.length-(l.dropWhile isWord).length),l.dropWhile isWord)
 else if (hd l).toNat=45∨isDigit (hd l) then (number l).map λp=>(p.1,l.take (l.length-p.2.length),p.2)
 else if quotes3 l then (block [] (l.drop 3)).map λp=>(4,dedent p.1,p.2)
 else if (hd l).toNat=34 then (text [] (l.drop 1)).map λp=>(4,p.1,p.2)
 else if dots3 l then some (5,l.take 3,l.drop 3)
 else if (hd l).toNat≠0∧signs.contains (hd l) then some (5,l.take 1,l.drop 1)
 else none
theorem trimEnd_snoc (l:List (List UInt8)) (x:List UInt8):trimEnd (l++[x])=if allSp x then trimEnd l else l++[x]:=by
 induction l with
 | nil=>simp[trimEnd]
 | cons a l ih =>
  simp only[List.cons_append,trimEnd,ih];by_cases h:allSp x
  ·simp[h]
  ·simp only[h,if_neg];cases l<;>simp
theorem EO (sep:ByteArray) (h1:1≤sep.size):∀(n:Nat) (s:ByteArray),Lib.countB s sep=n→(Lib.splitB sep 0 n s).length=n+1
 | 0,s,_=>rfl
 | n+1,s,h=>by
  have o:=Lib.index_ge s.data.toList sep.data.toList;by_cases hm:Lib.indexB s sep=-1
  ·rw[Lib.countB_miss s sep hm]at h;omega
  ·obtain⟨i,hi⟩:∃i:Nat,Lib.indexB s sep=i:=⟨(Lib.indexB s sep).toNat,by
    have:-1≤Lib.indexB s sep:=o;omega⟩
   rw[Lib.countB_hit s sep i h1 hi]at h;rw[Lib.splitB_hit sep 0 n s i hi,QO,EO sep h1 n _ (by omega)]
theorem Dh (sep:ByteArray):∀(n:Nat) (s:ByteArray) (x:ByteArray),x∈Lib.splitB sep 0 n s→x.size≤s.size
 | 0,s,x,h=>by simp[Lib.splitB]at h;subst h;omega
 | n+1,s,x,h=>by
  unfold Lib.splitB at h;split at h
  ·simp at h;subst h;omega
  ·rcases List.mem_cons.1 h with h|h
   ·subst h;simp only[ByteArray.size_extract];omega
   ·have:=Dh sep n _ x h;simp only[ByteArray.size_extract]at this;omega
theorem C5 (old new:List UInt8):∀(k:Nat) (s:List UInt8),(Lib.replaceK old new k s).length≤s.length+k*new.length
 | 0,s=>by simp[Lib.replaceK]
 | k+1,s=>by
  unfold Lib.replaceK;split
  ·have:0≤(k+1)*new.length:=Nat.zero_le _;omega
  ·have:=C5 old new k (s.drop ((Lib.index s old).toNat+old.length));rw[QS,QS,List.length_take,Nat.succ_mul];rw[QY]at this;omega
theorem replaceAll_len (s old new:List UInt8) (hn:new.length=1):(Lib.replaceAll s old new).length≤2*s.length+1:=by
 unfold Lib.replaceAll Lib.replace;split
 ·omega
 ·have o:=C5 old new (Lib.replaceNum s old (-1)) s;have A:Lib.replaceNum s old (-1)≤s.length+1:=by
   unfold Lib.replaceNum;rw[if_pos (.inl (by decide))];exact Lib.count_le s old
  rw[hn]at o;omega
theorem nl_len (s:List UInt8):(nl s).length≤4*s.length+3:=by
 have o:=replaceAll_len s [13,10] [10] rfl;have A:=replaceAll_len (Lib.replaceAll s [13,10] [10]) [13] [10] rfl;unfold nl;omega
theorem lines_len (s:List UInt8):(lines s).length=Lib.countB ⟨(nl s).toArray⟩ ⟨#[10]⟩+1:=by
 unfold lines linesB;rw[List.length_map,EO _ (by decide) _ _ rfl]
theorem lines_le (s:List UInt8):(lines s).length≤4*s.length+5:=by
 rw[lines_len];have:=Lib.count_le (nl s) [10];have o:=nl_len s;show Lib.count (nl s) [10]+1≤_;omega
theorem line_le (s:List UInt8) (x:List UInt8) (h:x∈lines s):x.length≤4*s.length+3:=by
 unfold lines linesB at h;obtain⟨b,o,rfl⟩:=List.mem_map.1 h;have B:=Dh _ _ _ b o;have C:=nl_len s;have A:(ByteArray.mk (nl s).toArray).size=(nl s).length:=rfl;have D:b.data.toList.length=b.size:=by simp
 omega
theorem strip_len (c:Int) (ls:List (List UInt8)):(strip c ls).length=ls.length:=by simp[strip]
theorem strip_get (c:Int) (ls:List (List UInt8)) (i:Nat):(strip c ls)[i]?=(ls[i]?).map (stripAt c i):=by simp[strip]
theorem stripAt_le (c:Int) (i:Nat) (s:List UInt8):(stripAt c i s).length≤s.length:=by unfold stripAt;split<;>simp
theorem Cw (l:List (List UInt8)):∃n,n≤l.length∧trimEnd l=l.take n:=by
 induction l with
 | nil=>exact⟨0,by simp,rfl⟩
 | cons x r ih =>
  obtain⟨n,o,h⟩:=ih;unfold trimEnd;cases hr:trimEnd r with
  | nil =>
   simp only[];by_cases hx:allSp x
   ·exact⟨0,by omega,by simp[hx]⟩
   ·exact⟨1,by simp,by simp[hx]⟩
  | cons y r'=>exact⟨n+1,by simpa using o,by simp[← hr,h]⟩
theorem common_ge (ls:List (List UInt8)):∀c:Int,-1≤c→-1≤ls.foldl comStep c∧ls.foldl comStep c≤max c 1000000000∨∃x∈ls,1000000000<x.length:=by
 induction ls with
 | nil=>intro c h;exact .inl ⟨h,by simp;omega⟩
 | cons x r ih =>
  intro c h;by_cases hx:1000000000<x.length
  ·exact .inr ⟨x,by simp,hx⟩
  ·have o:-1≤comStep c x∧comStep c x≤max c 1000000000:=by
    have:=ind_le x;unfold comStep;split<;>omega
   rcases ih (comStep c x) o.1 with h2|⟨y,hy,h2⟩
   ·refine .inl ⟨h2.1,?_⟩;have:=h2.2;simp only[List.foldl_cons];omega
   ·exact .inr ⟨y,by simp[hy],h2⟩
theorem join_le (ls:List (List UInt8)) (M:Nat) (h:∀x∈ls,x.length≤M):(Lib.join ls [10]).length≤ls.length*(M+1):=by
 have A:∀(ls:List (List UInt8)),(∀x∈ls,x.length≤M)→Lib.lens ls≤ls.length*M:=by
  intro ls
  induction ls with
  | nil=>intro _;simp[Lib.lens]
  | cons x r ih =>
   intro h;have B:=h x (by simp);have C:=ih (λy hy=>h y (by simp[hy]));have o:Lib.lens (x::r)=x.length+Lib.lens r:=by simp[Lib.lens]
   rw[o,QO,Nat.succ_mul];omega
 cases ls with
 | nil=>simp[Lib.join_nil]
 | cons x r =>
  rw[Lib.join_length];have:=A (x::r) h;rw[Nat.mul_add];simp only[QO,List.length_nil]at this ⊢;omega
theorem Ee (p:List UInt8→Bool) (ls:List (List UInt8)):(ls.dropWhile p).length≤ls.length:=by
 induction ls with
 | nil=>simp
 | cons a l ih =>
  rw[List.dropWhile_cons];split
  ·simp;omega
  ·simp
theorem dedent_len (raw:List UInt8) (h:raw.length≤5000):(dedent raw).length≤1000000000:=by
 unfold dedent;obtain⟨n,_,D⟩:=Cw ((strip (common (lines raw).tail) (lines raw)).dropWhile allSp);rw[D];have C:=join_le (((strip (common (lines raw).tail) (lines raw)).dropWhile allSp).take n) 20003 (by
  intro x hx;have A:=List.mem_of_mem_take hx;have B:=(List.dropWhile_sublist _).subset A;obtain⟨m,o⟩:=List.getElem?_of_mem B;rw[strip_get]at o;cases hl:(lines raw)[m]? with
  | none=>rw[hl]at o;simp at o
  | some z =>
   rw[hl]at o;simp only[Option.map_some,Option.some.injEq]at o;subst o;have E:=stripAt_le (common (lines raw).tail) m z;have F:=line_le raw z (List.mem_of_getElem? hl);omega)
 have A:=Ee allSp (strip (common (lines raw).tail) (lines raw));rw[strip_len]at A;have B:=lines_le raw;rw[List.length_take]at C;have E:min n ((strip (common (lines raw).tail) (lines raw)).dropWhile allSp).length*(20003+1)≤20005*20004:=Nat.mul_le_mul_right _ (by omega);omega
theorem Ew {r p:Nat×List UInt8} (h:numEnd r=some p):p.2.length≤r.2.length:=by
 unfold numEnd at h;split at h
 ·cases h
 ·cases h;omega
theorem En {r p:Nat×List UInt8} (h:numExp r=some p):p.2.length≤r.2.length:=by
 unfold numExp at h;by_cases h0:((hd r.2) ||| 32).toNat=101
 ·rw[if_pos h0]at h;have B:(if (hd (r.2.drop 1)).toNat=43∨(hd (r.2.drop 1)).toNat=45 then (r.2.drop 1).drop 1 else r.2.drop 1).length≤r.2.length:=by
   split<;>simp only[QY]<;>omega
  simp only[]at h
  generalize (if (hd (r.2.drop 1)).toNat=43∨(hd (r.2.drop 1)).toNat=45 then (r.2.drop 1).drop 1 else r.2.drop 1)=l2 at h B
  split at h
  ·cases h
  ·have A:=Ew h;have C:=dropWhile_le isDigit l2;have o:p.2.length≤(digits l2).length:=A;unfold digits at o;omega
 ·rw[if_neg h0]at h;exact Ew h
theorem Gl {l:List UInt8} {p:Nat×List UInt8} (h:numFrac l=some p):p.2.length≤l.length:=by
 unfold numFrac at h;split at h
 ·split at h
  ·cases h
  ·have o:=En h;have A:=dropWhile_le isDigit (l.drop 1);have B:p.2.length≤(digits (l.drop 1)).length:=o;unfold digits at B;rw[QY]at A;omega
 ·exact En h
theorem number_shorter {l:List UInt8} {p:Nat×List UInt8} (h:number l=some p):p.2.length<l.length:=by
 unfold number at h;simp only[]at h;have A:(if (hd l).toNat=45 then l.drop 1 else l).length≤l.length:=by
  split
  ·rw[QY];omega
  ·omega
 generalize (if (hd l).toNat=45 then l.drop 1 else l)=l1 at h A
 split at h
 ·cases h
 ·rename_i hn;have o:=Gl h;have B:=dropWhile_le isDigit l1;unfold digits at o hn;omega
theorem index_signs (c:UInt8):∀l:List UInt8,(0≤Lib.indexByte l c)↔l.contains c=true:=by
 intro l
 induction l with
 | nil=>simp[Lib.indexByte]
 | cons b l ih =>
  have B:=Lib.indexByte_ge l c;unfold Lib.indexByte;by_cases hb:b=c
  ·subst hb;simp
  ·have o:¬(b==c)=true:=by simpa using hb
   rw[if_neg o];by_cases hm:Lib.indexByte l c=-1
   ·have:¬l.contains c=true:=λh=>by have:=ih.2 h;omega
    simp only[hm,beq_self_eq_true,if_true];simp only[List.contains_cons,Bool.or_eq_true,beq_iff_eq];constructor
    ·intro h;omega
    ·rintro (h|h)
     ·exact absurd h.symm hb
     ·exact absurd h this
   ·have A:¬(Lib.indexByte l c==-1)=true:=by simpa using hm
    rw[if_neg A];have C:l.contains c=true:=ih.1 (by omega);simp only[List.contains_cons,Bool.or_eq_true,beq_iff_eq];constructor
    ·intro _;exact .inr C
    ·intro _;omega
end Lx
namespace Lx
structure Tok where
 kind:Nat
 text:List UInt8
 at_:Nat
inductive Res where
 | ok (ts:List Tok)
 | err (a c:Nat)
def lexGo (size:Nat):Nat→List UInt8→List Tok→Res
 | 0,_,_=>.err 0 0
 | n+1,l,out =>
  if (gap (decide (l.length=size)) l).2=false then .err (size-(gap (decide (l.length=size)) l).1.length) 40
  else if (gap (decide (l.length=size)) l).1.length=0 then .ok (out++[⟨0,[],size⟩])
  else match token (gap (decide (l.length=size)) l).1 with
   | none=>.err (size-(gap (decide (l.length=size)) l).1.length) 40
   | some (k,t,rest) =>
    if out.length=1500 then .err (size-(gap (decide (l.length=size)) l).1.length) 8
    else lexGo size n rest (out++[⟨k,t,size-(gap (decide (l.length=size)) l).1.length⟩])
def lex (l:List UInt8):Res:=if 4096<l.length then .err 0 5 else lexGo l.length (l.length+1) l []
end Lx
namespace Rd
open Lx (Tok)
structure St where
 rest:List Tok
 deep:Int
 at_:Nat
 err:Nat
def peek (s:St):Tok:=s.rest.headD ⟨0,[],0⟩
def fail (e:Nat) (s:St):St:=if s.err=0 then { s with err:=e,at_:=(peek s).at_ } else s
def wrong (s:St):St:=fail 41 s
def next (s:St):St:=if s.err=0∧(peek s).kind≠0 then { s with rest:=s.rest.drop 1 } else s
def isS (s:St) (c:List UInt8):Bool:=decide (s.err=0)&&decide ((peek s).kind=5)&&decide ((peek s).text=c)
def isN (s:St):Bool:=decide (s.err=0)&&decide ((peek s).kind=1)
def isW (s:St) (ws:List (List UInt8)):Bool:=isN s&&(ws.any (λw=>decide ((peek s).text=w))||ws.isEmpty)
def take (c:List UInt8) (s:St):St:=if isS s c then next s else s
def want (c:List UInt8) (s:St):St:=if isS s c then next s else wrong s
def name (s:St):St×List UInt8:=if isN s then (next s,(peek s).text) else (wrong s,[])
def fin (s:St):St:=if (peek s).kind≠0 then wrong s else s
def down (c:List UInt8) (s:St):St :=
 let s1:=if isS s c∧s.deep=16 then fail 42 s else s
 let s2:=want c s1
 { s2 with deep:=s2.deep+1 }
def up (c:List UInt8) (s:St):St :=
 let s2:=want c s
 { s2 with deep:=s2.deep-1 }
def loop {α:Type} (c:List UInt8) (f:St→St×α):Nat→St→List α→St×List α
 | 0,s,out=>(s,out)
 | n+1,s,out=>if s.err=0∧isS s c=false then loop c f n (f s).1 (out++[(f s).2]) else (s,out)
def loop1 {α:Type} (c:List UInt8) (f:St→St×α) (n:Nat) (s:St):St×List α:=loop c f n (f s).1 [(f s).2]
mutual
inductive V where
 | mk (kind:Nat) (text:List UInt8) (items:List V) (fields:List A) (at_:Nat)
inductive A where
 | mk (name:List UInt8) (v:V) (at_:Nat)
end
namespace V
def kind:V→Nat|.mk k _ _ _ _=>k
def text:V→List UInt8|.mk _ t _ _ _=>t
def items:V→List V|.mk _ _ l _ _=>l
def fields:V→List A|.mk _ _ _ l _=>l
def at_:V→Nat|.mk _ _ _ _ a=>a
end V
namespace A
def name:A→List UInt8|.mk n _ _=>n
def v:A→V|.mk _ v _=>v
def at_:A→Nat|.mk _ _ a=>a
end A
def V.none:V:=.mk 0 [] [] [] 0
def dollar:List UInt8:=[36]
def lbrk:List UInt8:=[91]
def rbrk:List UInt8:=[93]
def lbrc:List UInt8:=[123]
def rbrc:List UInt8:=[125]
def lpar:List UInt8:=[40]
def rpar:List UInt8:=[41]
def colon:List UInt8:=[58]
def bang:List UInt8:=[33]
def sTrue:List UInt8:=[116,114,117,101]
def sFalse:List UInt8:=[102,97,108,115,101]
def sNull:List UInt8:=[110,117,108,108]
def GO (f:St→St×V) (s:St):St×A :=
 let r:=name s
 let q:=f (want colon r.1)
 (q.1,.mk r.2 q.2 (peek s).at_)
def value (fixed:Bool):Nat→St→St×V
 | 0,s=>(s,V.none)
 | n+1,s =>
  let t:=peek s
  if isS s dollar then
   let r:=name (next (if fixed then wrong s else s))
   (r.1,.mk 1 r.2 [] [] t.at_)
  else if isS s lbrk then
   let s1:=down lbrk s
   let r:=loop rbrk (value fixed n) (s1.rest.length+1) s1 []
   (up rbrk r.1,.mk 8 [] r.2 [] t.at_)
  else if isS s lbrc then
   let s1:=down lbrc s
   let r:=loop rbrc (GO (value fixed n)) (s1.rest.length+1) s1 []
   (up rbrc r.1,.mk 9 [] [] r.2 t.at_)
  else if t.kind=2 then (next s,.mk 2 t.text [] [] t.at_)
  else if t.kind=3 then (next s,.mk 3 t.text [] [] t.at_)
  else if t.kind=4 then (next s,.mk 4 t.text [] [] t.at_)
  else if isW s [sNull] then (next s,.mk 6 [] [] [] t.at_)
  else if isW s [sTrue,sFalse] then (next s,.mk 5 t.text [] [] t.at_)
  else if isN s then (next s,.mk 7 t.text [] [] t.at_)
  else (wrong s,.mk 0 [] [] [] t.at_)
def arg (fixed:Bool) (n:Nat) (s:St):St×A:=GO (value fixed n) s
def args (fixed:Bool) (n:Nat) (s:St):St×List A :=
 if isS s lpar then
  let r:=loop1 rpar (arg fixed n) n (next s)
  (want rpar r.1,r.2)
 else (s,[])
def bangOf (r:St×List UInt8):St×List UInt8:=if isS r.1 bang then (next r.1,r.2++bang) else r
def typeCore (f:St→St×List UInt8) (s:St):St×List UInt8 :=
 if isS s lbrk then (up rbrk (f (down lbrk s)).1,lbrk++(f (down lbrk s)).2++rbrk) else name s
def type:Nat→St→St×List UInt8
 | 0,s=>(s,[])
 | n+1,s=>bangOf (typeCore (type n) s)
def begin_ (l:List UInt8):St:=match Lx.lex l with
 | .ok ts=>⟨ts,0,0,0⟩
 | .err a c=>⟨[⟨0,[],0⟩],0,a,c⟩
end Rd
namespace Rd
open Lx (Tok)
structure Ok (s s':St):Prop where
 sub:∀t∈s'.rest,t∈s.rest
 len:s'.rest.length≤s.rest.length
 err:s.err≠0→s'={ s with deep:=s'.deep }
theorem Ok.refl (s:St):Ok s s:=⟨λ_ h=>h,Nat.le_refl _,λ_=>rfl⟩
theorem Ok.trans {a b c:St} (h:Ok a b) (k:Ok b c):Ok a c :=
 ⟨λt ht=>h.sub t (k.sub t ht),Nat.le_trans k.len h.len,λhe=>by
  have o:=h.err he;have A:=k.err (by rw[o];exact he);rw[A,o]⟩
theorem Ht (e:Nat) (s:St):Ok s (fail e s):=by
 unfold fail;split
 ·rename_i h;exact⟨λ_ h=>h,Nat.le_refl _,λhe=>absurd h he⟩
 ·exact Ok.refl s
theorem ok_wrong (s:St):Ok s (wrong s):=Ht _ _
theorem ok_next (s:St):Ok s (next s):=by
 unfold next;split
 ·rename_i h;exact⟨λt ht=>List.mem_of_mem_drop ht,by simp,λhe=>absurd h.1 he⟩
 ·exact Ok.refl s
theorem ok_want (c:List UInt8) (s:St):Ok s (want c s):=by
 unfold want;split
 ·exact ok_next s
 ·exact ok_wrong s
theorem ok_name (s:St):Ok s (name s).1:=by
 unfold name;split
 ·exact ok_next s
 ·exact ok_wrong s
theorem He (s:St) (d:Int):Ok s { s with deep:=d }:=⟨λ_ h=>h,Nat.le_refl _,λ_=>rfl⟩
theorem ok_down (c:List UInt8) (s:St):Ok s (down c s):=by
 unfold down;refine Ok.trans (b:=want c (if isS s c=true∧s.deep=16 then fail 42 s else s)) ?_ (He _ _);refine Ok.trans (b:=if isS s c=true∧s.deep=16 then fail 42 s else s) ?_ (ok_want _ _);split
 ·exact Ht _ _
 ·exact Ok.refl s
theorem EF (c:List UInt8) (s:St):Ok s (up c s):=(ok_want c s).trans (He _ _)
theorem CX {α:Type} (c:List UInt8) (f:St→St×α) (hf:∀s,Ok s (f s).1):∀(n:Nat) (s:St) (out:List α),Ok s (loop c f n s out).1
 | 0,s,out=>Ok.refl s
 | n+1,s,out=>by
  unfold loop;split
  ·exact (hf s).trans (CX c f hf n _ _)
  ·exact Ok.refl s
theorem Cr {α:Type} (c:List UInt8) (f:St→St×α) (hf:∀s,Ok s (f s).1) (n:Nat) (s:St):Ok s (loop1 c f n s).1:=(hf s).trans (CX c f hf n _ _)
theorem ok_argOf (f:St→St×V) (hf:∀s,Ok s (f s).1) (s:St):Ok s (GO f s).1:=((ok_name s).trans (ok_want _ _)).trans (hf _)
theorem ok_value (fixed:Bool):∀(n:Nat) (s:St),Ok s (value fixed n s).1
 | 0,s=>Ok.refl s
 | n+1,s=>by
  unfold value
  dsimp only
  split
  ·refine Ok.trans (b:=if fixed=true then wrong s else s) ?_ ((ok_next _).trans (ok_name _));split
   ·exact ok_wrong s
   ·exact Ok.refl s
  split
  ·exact ((ok_down _ s).trans (CX _ _ (ok_value fixed n) _ _ _)).trans (EF _ _)
  split
  ·exact ((ok_down _ s).trans (CX _ _ (ok_argOf _ (ok_value fixed n)) _ _ _)).trans (EF _ _)
  repeat (split;exact ok_next s)
  exact ok_wrong s
theorem ok_args (fixed:Bool) (n:Nat) (s:St):Ok s (args fixed n s).1:=by
 unfold args;split
 ·exact ((ok_next s).trans (Cr _ _ (ok_argOf _ (ok_value fixed n)) _ _)).trans (ok_want _ _)
 ·exact Ok.refl s
theorem KP (r:St×List UInt8):Ok r.1 (bangOf r).1:=by
 unfold bangOf;split
 ·exact ok_next _
 ·exact Ok.refl _
theorem J6 (f:St→St×List UInt8) (hf:∀s,Ok s (f s).1) (s:St):Ok s (typeCore f s).1:=by
 unfold typeCore;split
 ·exact ((ok_down _ s).trans (hf _)).trans (EF _ _)
 ·exact ok_name s
theorem ok_type:∀(n:Nat) (s:St),Ok s (type n s).1
 | 0,s=>Ok.refl s
 | n+1,s=>(J6 _ (ok_type n) s).trans (KP _)
theorem fail_deep (e:Nat) (s:St):(fail e s).deep=s.deep:=by unfold fail;split<;>rfl
theorem wrong_deep (s:St):(wrong s).deep=s.deep:=fail_deep _ _
theorem next_deep (s:St):(next s).deep=s.deep:=by unfold next;split<;>rfl
theorem want_deep (c:List UInt8) (s:St):(want c s).deep=s.deep:=by
 unfold want;split
 ·exact next_deep s
 ·exact wrong_deep s
theorem name_deep (s:St):(name s).1.deep=s.deep:=by
 unfold name;split
 ·exact next_deep s
 ·exact wrong_deep s
theorem down_deep (c:List UInt8) (s:St):(down c s).deep=s.deep+1:=by
 unfold down;show (want c _).deep+1=_;rw[want_deep];split
 ·rw[fail_deep]
 ·rfl
theorem Dv (c:List UInt8) (s:St):(up c s).deep=s.deep-1:=by
 unfold up;show (want c s).deep-1=_;rw[want_deep]
theorem CV {α:Type} (c:List UInt8) (f:St→St×α) (hf:∀s,(f s).1.deep=s.deep):∀(n:Nat) (s:St) (out:List α),(loop c f n s out).1.deep=s.deep
 | 0,s,out=>rfl
 | n+1,s,out=>by
  unfold loop;split
  ·rw[CV c f hf n,hf]
  ·rfl
theorem Ch {α:Type} (c:List UInt8) (f:St→St×α) (hf:∀s,(f s).1.deep=s.deep) (n:Nat) (s:St):(loop1 c f n s).1.deep=s.deep:=by
 unfold loop1;rw[CV c f hf,hf]
theorem argOf_deep (f:St→St×V) (hf:∀s,(f s).1.deep=s.deep) (s:St):(GO f s).1.deep=s.deep:=by
 unfold GO;show (f _).1.deep=_;rw[hf,want_deep,name_deep]
theorem value_deep (fixed:Bool):∀(n:Nat) (s:St),(value fixed n s).1.deep=s.deep
 | 0,s=>rfl
 | n+1,s=>by
  unfold value
  dsimp only
  split
  ·rw[name_deep,next_deep];split
   ·exact wrong_deep s
   ·rfl
  split
  ·rw[Dv,CV _ _ (value_deep fixed n),down_deep];omega
  split
  ·rw[Dv,CV _ _ (argOf_deep _ (value_deep fixed n)),down_deep];omega
  repeat (split;exact next_deep s)
  exact wrong_deep s
theorem args_deep (fixed:Bool) (n:Nat) (s:St):(args fixed n s).1.deep=s.deep:=by
 unfold args;split
 ·show (want rpar _).deep=_;rw[want_deep];unfold arg;rw[Ch _ _ (argOf_deep _ (value_deep fixed n)),next_deep]
 ·rfl
theorem H9 (r:St×List UInt8):(bangOf r).1.deep=r.1.deep:=by
 unfold bangOf;split
 ·exact next_deep _
 ·rfl
theorem IG (f:St→St×List UInt8) (hf:∀s,(f s).1.deep=s.deep) (s:St):(typeCore f s).1.deep=s.deep:=by
 unfold typeCore;split
 ·show (up rbrk _).deep=_;rw[Dv,hf,down_deep];omega
 ·exact name_deep s
theorem type_deep:∀(n:Nat) (s:St),(type n s).1.deep=s.deep
 | 0,s=>rfl
 | n+1,s=>by
  show (bangOf _).1.deep=_;rw[H9,IG _ (type_deep n)]
theorem isS_err {s:St} (h:s.err≠0) (c:List UInt8):isS s c=false:=by unfold isS;rw[decide_eq_false h];rfl
theorem next_sign {s:St} {c:List UInt8} (h:isS s c=true):(next s).rest.length<s.rest.length∧(next s).err=0:=by
 unfold isS at h;simp only[ZB,decide_eq_true_eq]at h;obtain⟨⟨A,o⟩,B⟩:=h;unfold next;rw[if_pos ⟨A,by omega⟩];refine⟨?_,A⟩;have:s.rest≠[]:=λe=>by unfold peek at o;rw[e]at o;cases o
 cases hr:s.rest with
 | nil=>exact absurd hr this
 | cons t r=>simp
theorem DK {s:St} (h1:s.err=0) (h2:(peek s).kind≠0):(next s).rest.length<s.rest.length∧(next s).err=0:=by
 unfold next;rw[if_pos ⟨h1,h2⟩];refine⟨?_,h1⟩;have:s.rest≠[]:=λe=>by unfold peek at h2;rw[e]at h2;exact h2 rfl
 cases hr:s.rest with
 | nil=>exact absurd hr this
 | cons t r=>simp
theorem down_goes {s:St} {c:List UInt8} (h:isS s c=true):(down c s).err≠0∨(down c s).rest.length<s.rest.length:=by
 unfold down;by_cases hd:isS s c=true∧s.deep=16
 ·left
  have A:s.err=0:=by unfold isS at h;simp only[ZB,decide_eq_true_eq]at h;exact h.1.1
  have o:(fail 42 s).err≠0:=by unfold fail;rw[if_pos A];simp
  rw[if_pos hd];show (want c (fail 42 s)).err≠0;have e:=(ok_want c (fail 42 s)).err o;rw[e];exact o
 ·right
  rw[if_neg hd];show (want c s).rest.length<_;unfold want;rw[if_pos h];exact (next_sign h).1
theorem Bg {s:St}:(wrong s).err≠0:=by
 unfold wrong fail;split
 ·simp
 ·rename_i h;exact h
theorem value_goes (fixed:Bool) (n:Nat) (s:St) (h:s.err=0):(value fixed (n+1) s).1.err≠0∨(value fixed (n+1) s).1.rest.length<s.rest.length:=by
 have A:∀{a b c:St},Ok b c→(b.err≠0∨b.rest.length<a.rest.length)→(c.err≠0∨c.rest.length<a.rest.length):=λ{a b c} k hb=>by
  rcases hb with hb|hb
  ·left;rw[k.err hb];exact hb
  ·right;exact Nat.lt_of_le_of_lt k.len hb
 have o:(peek s).kind≠0→(next s).err≠0∨(next s).rest.length<s.rest.length:=λhk=>.inr (DK h hk).1
 unfold value
 dsimp only
 split
 ·rename_i hs;cases fixed
  ·exact A (ok_name _) (.inr (next_sign hs).1)
  ·exact A ((ok_next _).trans (ok_name _)) (b:=wrong s) (.inl Bg)
 split
 ·rename_i hs;exact A ((CX _ _ (ok_value fixed n) _ _ _).trans (EF _ _)) (down_goes hs)
 split
 ·rename_i hs;exact A ((CX _ _ (ok_argOf _ (ok_value fixed n)) _ _ _).trans (EF _ _)) (down_goes hs)
 split
 ·exact o (by omega)
 split
 ·exact o (by omega)
 split
 ·exact o (by omega)
 have B:∀ws,isW s ws=true→(peek s).kind≠0:=λws hh=>by
  unfold isW isN at hh;simp only[ZB,decide_eq_true_eq]at hh;omega
 split
 ·rename_i hs;exact o (B _ hs)
 split
 ·rename_i hs;exact o (B _ hs)
 split
 ·rename_i hs;exact o (by unfold isN at hs;simp only[ZB,decide_eq_true_eq]at hs;omega)
 exact .inl Bg
theorem E7 {s:St} (h:s.err=0):(name s).1.err≠0∨(name s).1.rest.length<s.rest.length:=by
 unfold name;split
 ·rename_i hs;exact .inr (DK h (by unfold isN at hs;simp only[ZB,decide_eq_true_eq]at hs;omega)).1
 ·exact .inl Bg
theorem arg_goes (fixed:Bool) (n:Nat) (s:St) (h:s.err=0):(arg fixed n s).1.err≠0∨(arg fixed n s).1.rest.length<s.rest.length:=by
 have k:Ok (name s).1 (arg fixed n s).1:=(ok_want _ _).trans (ok_value fixed n _);rcases E7 h with hb|hb
 ·left;rw[k.err hb];exact hb
 ·right;exact Nat.lt_of_le_of_lt k.len hb
theorem type_len (M:Nat):∀(n:Nat) (s:St),(∀t∈s.rest,t.text.length≤M)→(type n s).2.length≤M+3*n
 | 0,s,h=>by simp[type]
 | n+1,s,h=>by
  have o:(typeCore (type n) s).2.length≤M+3*n+2:=by
   unfold typeCore;split
   ·have:=type_len M n (down lbrk s) (λt ht=>h t ((ok_down _ s).sub t ht));show (lbrk++(type n (down lbrk s)).2++rbrk).length≤_;rw[QS,QS];show 1+_+1≤_;omega
   ·unfold name;split
    ·rename_i hs;unfold isN at hs;simp only[ZB,decide_eq_true_eq]at hs;show (peek s).text.length≤_;unfold peek at hs ⊢;cases hr:s.rest with
     | nil=>simp
     | cons t r=>have:=h t (by rw[hr];exact List.mem_cons_self);simp;omega
    ·simp
  show (bangOf _).2.length≤_;unfold bangOf;split
  ·show ((typeCore (type n) s).2++bang).length≤_;rw[QS];show _+1≤_;omega
  ·omega
end Rd
namespace Vl
mutual
inductive Z where
 | mk (kind:Int) (text:List UInt8) (items:List Z) (fields:List ZA) (at_:Int)
inductive ZA where
 | mk (name:List UInt8) (v:Z) (at_:Int)
end
namespace Z
def kind:Z→Int|.mk k _ _ _ _=>k
def text:Z→List UInt8|.mk _ t _ _ _=>t
def items:Z→List Z|.mk _ _ l _ _=>l
def fields:Z→List ZA|.mk _ _ _ l _=>l
def at_:Z→Int|.mk _ _ _ _ a=>a
end Z
namespace ZA
def name:ZA→List UInt8|.mk n _ _=>n
def v:ZA→Z|.mk _ v _=>v
def at_:ZA→Int|.mk _ _ a=>a
end ZA
mutual
def Z.same:Z→Z→Bool
 | .mk k t i f _,.mk k' t' i' f' _=>decide (k=k')&&(decide (t=t')&&(Z.sames i i'&&ZA.sames f f'))
def Z.sames:List Z→List Z→Bool
 | [],[]=>true
 | x::r,y::s=>Z.same x y&&Z.sames r s
 | [],_::_=>false
 | _::_,[]=>false
def ZA.same:ZA→ZA→Bool
 | .mk n v _,.mk n' v' _=>decide (n=n')&&Z.same v v'
def ZA.sames:List ZA→List ZA→Bool
 | [],[]=>true
 | x::r,y::s=>ZA.same x y&&ZA.sames r s
 | [],_::_=>false
 | _::_,[]=>false
end
-- How many there are in one.
mutual
def Z.n:Z→Nat
 | .mk _ _ i f _=>1+Z.ns i+ZA.ns f
def Z.ns:List Z→Nat
 | []=>0
 | x::r=>Z.n x+Z.ns r
def ZA.n:ZA→Nat
 | .mk _ v _=>1+Z.n v
def ZA.ns:List ZA→Nat
 | []=>0
 | x::r=>ZA.n x+ZA.ns r
end
end Vl
end Go.Proofs.YtedeapbonbbacaaGreatDoor
