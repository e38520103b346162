/-
  Base words of our own: bytes of a string, endings, the frame of a call that writes one old block alone. Where the tokens stand in the text. A token stands by itself: laid between other gaps it is the same token (no program in sight). Tokens with other gaps between are the same tokens (no program in sight). A text of words and blanks: its tokens (no program in sight). The lexer on two texts with a line's end between: the tokens of the one, then of the other (no program in sight). Numbers with a sign, a blank or nothing behind them; a text that is one token (no program in sight). Selection sets and lists in one another, plain: what 'Parse' answers (no program in sight). The reader, plain: which tokens are eaten, and where what is read stands (no program in sight). The reader of types, plain: where what is read stands, and what is so of it (no program in sight). The reader on tokens that go on behind an end: it reads the same (no program in sight). A good value's text, and its words (plain). A good value's text, piece by piece (plain). What a writer does: what is good is put, what isn't is bad (plain). Values and types in a text, as plain functions; names alone; what is deep (no program in sight). A good value's words are read as the value (plain).
-/
import Derived.Test.YtefjgpkpplkkgaaGreatDoorProg
import Derived.WalkKit
import Derived.WalkLawsBesides
import Derived.WalkSpells
import Derived.BigQuiet
import Derived.Deep.QuietTactic
import Derived.StillTailTactics
import Derived.Lib.Hide
import Derived.Test.YtefjgpkpplkkgaaGreatDoorZp1
import Derived.Test.YtefjgpkpplkkgaaGreatDoorZp3
import Derived.Test.YtefjgpkpplkkgaaGreatDoorZp2
open Bool renaming and_eq_true → ZD
open List renaming length_cons → QO, length_nil → QS, length_append → QT, length_map → QX, length_drop → ZB, append_assoc → ZH, getElem?_eq_getElem → ZJ, length_take → ZK, append_nil → ZP, nil_append → ZQ, cons_append → ZR, map_cons → ZS, eq_nil_of_length_eq_zero → ZZ
open Nat renaming le_refl → QM, le_trans → QR
namespace Go.Proofs.YtefjgpkpplkkgaaGreatDoor
set_option linter.unusedSimpArgs false
set_option linter.unusedVariables false
open Go Go.RowKit
theorem ret_bool {a b:Bool} (h:a=b):Ending.returned (.bool a)=.returned (.bool b):=by rw[h]
theorem ret_int {k:IntKind} {a b:Int} (h:a=b):Ending.returned (.int k a)=.returned (.int k b):=by rw[h]
def bt (s:ByteArray) (n:Nat):UInt8:=s.data.toList.getD n 0
def sfx (s:ByteArray) (n:Nat):List UInt8:=s.data.toList.drop n
theorem bt_lt (s:ByteArray) (n:Nat):(bt s n).toNat<256:=UInt8.toNat_lt _
theorem getElem_bt (s:ByteArray) (n:Nat) (h:n<s.size):s[n]'h=bt s n:=by
 have o:n<s.data.toList.length:=by simpa using h
 show s.data[n]'h=_
 unfold bt
 rw[List.getD_eq_getElem?_getD,ZJ o]
 simp
theorem sfx_len (s:ByteArray) (n:Nat):(sfx s n).length=s.size-n:=by unfold sfx;simp
theorem sfx_all (s:ByteArray):sfx s 0=s.data.toList:=by simp[sfx]
theorem sfx_end (s:ByteArray) (n:Nat) (h:s.size≤n):sfx s n=[]:=by
 have:=sfx_len s n;exact ZZ (by omega)
theorem sfx_cons (s:ByteArray) (n:Nat) (h:n<s.size):sfx s n=bt s n::sfx s (n+1):=by
 unfold sfx bt
 have o:n<s.data.toList.length:=by simpa using h
 rw[List.drop_eq_getElem_cons o,List.getD_eq_getElem?_getD,ZJ o]
 simp
theorem sfx_drop (s:ByteArray) (n k:Nat):(sfx s n).drop k=sfx s (n+k):=by simp[sfx,List.drop_drop]
theorem bt_end (s:ByteArray) (n:Nat) (h:s.size≤n):bt s n=0:=by
 unfold bt;rw[List.getD_eq_getElem?_getD,List.getElem?_eq_none (by simpa using h)];rfl
theorem sfx_getD (s:ByteArray) (n k:Nat):(sfx s n).getD k 0=bt s (n+k):=by
 unfold sfx bt;simp[List.getD_eq_getElem?_getD,List.getElem?_drop]
@[go_sem high] theorem run_index_bt {P : Program} (w : World) (t : TypeId) (s : ByteArray) (k : IntKind) (i : Int) (h : P.underlying t = some .string) :
  (Instr.index t (.string s) (.int k i)).run P w=if 0≤i∧i<s.size then .ok (.int .u8 (bt s i.toNat).toNat) w else (boundsPanic k i s.size .index).run P w:=by
 rw[run_index_string w t s k i h]
 by_cases hi:0≤i∧i<s.size
 ·rw[dif_pos hi,if_pos hi,getElem_bt]
 ·rw[dif_neg hi,if_neg hi]
structure But (X:Nat→Prop) (w w':World):Prop where
 os:w'.os=w.os
 tape:w'.tape=w.tape
 output:w'.output=w.output
 size:w.heap.size≤w'.heap.size
 block:∀ k,k<w.heap.size→¬ X k→w'.heap[k]?=w.heap[k]?
theorem But.refl (X:Nat→Prop) (w:World):But X w w:=⟨rfl,rfl,rfl,QM _,fun _ _ _=>rfl⟩
theorem But.trans {X:Nat→Prop} {a b c:World} (h:But X a b) (k:But X b c):But X a c :=
 ⟨k.os.trans h.os,k.tape.trans h.tape,k.output.trans h.output,QR h.size k.size,
  fun i hi hx=>(k.block i (Nat.lt_of_lt_of_le hi h.size) hx).trans (h.block i hi hx)⟩
theorem But.mono {X Y:Nat→Prop} {w w':World} (h:But X w w') (hxy:∀ k,k<w.heap.size→X k→Y k):But Y w w' :=
 ⟨h.os,h.tape,h.output,h.size,fun k hk hy=>h.block k hk (fun hx=>hy (hxy k hk hx))⟩
theorem But.drewN {X:Nat→Prop} {a w:World} (h:But X a w) (n:Nat):But X a (w.drewN n) :=
 h.trans ⟨rfl,rfl,rfl,QM _,fun _ _ _=>rfl⟩
theorem But.drew {X:Nat→Prop} {a w:World} (h:But X a w):But X a w.drew :=
 h.trans ⟨rfl,rfl,rfl,QM _,fun _ _ _=>rfl⟩
theorem But.alloc {X:Nat→Prop} {a w:World} (h:But X a w) (o:Obj):But X a (w.alloc o) :=
 h.trans ⟨rfl,rfl,rfl,by simp,fun k hk _=>Below.heap_alloc _ _ _ hk⟩
theorem But.setCell {X:Nat→Prop} {a w:World} (h:But X a w) {p:Addr} (hp:X p.block∨a.heap.size≤p.block) (u:Value):But X a (w.setCell p u) :=
 ⟨h.os,h.tape,h.output,by have:=h.size;simpa [World.setCell] using this,
  fun k hk hx=>by rw[Below.heap_setCell _ _ _ _ (fun e=>by subst e;rcases hp with hp|hp;exact hx hp;omega)];exact h.block k hk hx⟩
theorem But.of_below {X:Nat→Prop} {w w':World} (h:Below w.heap.size w w'):But X w w' :=
 ⟨h.os,h.tape,h.output,h.size,fun k hk _=>h.block k hk⟩
theorem But.below {w w':World} (h:But (fun _=>False) w w'):Below w.heap.size w w' :=
 ⟨h.os,h.tape,h.output,h.size,fun k hk=>h.block k hk (fun hf=>hf)⟩
theorem But.cell {X:Nat→Prop} {w w':World} (h:But X w w') {p:Addr} (hp:p.block<w.heap.size) (hx:¬ X p.block):w'.cell? p=w.cell? p :=
 World.cell?_of_block (w:=w) (h.block p.block hp hx)
theorem But.frozen {X:Nat→Prop} {w w':World} (h:But X w w') {p:Addr} (hp:p.block<w.heap.size) (hx:¬ X p.block):w'.frozen? p=w.frozen? p :=
 World.frozen?_of_block (w:=w) (h.block p.block hp hx)
theorem Below.drewN {B:Nat} {a w:World} (h:Below B a w) (n:Nat):Below B a (w.drewN n):=h.trans ⟨rfl,rfl,rfl,QM _,fun _ _=>rfl⟩
theorem Below.undrew {w w':World} {n:Nat} (h:Below (w.drewN n).heap.size (w.drewN n) w'):Below w.heap.size w w':=⟨h.os,h.tape,h.output,h.size,h.block⟩
theorem But.undrew {X:Nat→Prop} {w w':World} {n:Nat} (h:But X (w.drewN n) w'):But X w w':=⟨h.os,h.tape,h.output,h.size,h.block⟩
theorem eqF {n:Nat} {k:Int} (h:(n:Int)≠k):((n:Int)==k)=false:=by rw[beq_eq_false_iff_ne];exact h
theorem eqT {n:Nat} {k:Int} (h:(n:Int)=k):((n:Int)==k)=true:=by rw[beq_iff_eq];exact h
theorem neF {n:Nat} {k:Int} (h:(n:Int)=k):((n:Int) != k)=false:=by simp[h]
theorem neT {n:Nat} {k:Int} (h:(n:Int)≠k):((n:Int) != k)=true:=by simp[h]
def endOf (t:Lx.Tok):Nat:=if t.kind=4 then t.at_+1 else t.at_+t.text.length
structure TokOk (s:ByteArray) (p:Nat) (t:Lx.Tok):Prop where
 k1:1≤t.kind
 k5:t.kind≤5
 lo:p≤t.at_
 hi:t.at_<s.size
 quote:t.kind=4→bt s t.at_=34
 pos:t.kind≠4→0<t.text.length
 fits:t.kind≠4→t.at_+t.text.length≤s.size
 same:t.kind≠4→t.text=(sfx s t.at_).take t.text.length
def Chain (s:ByteArray):Nat→List Lx.Tok→Nat→Prop
 | p,[],q=>p≤q
 | p,t::ts,q=>TokOk s p t∧Chain s (endOf t) ts q
theorem Chain.mono {s:ByteArray}:∀ {ts:List Lx.Tok} {p q q':Nat},Chain s p ts q→q≤q'→Chain s p ts q'
 | [],_,_,_,h,hq=>QR h hq
 | _::ts,_,_,_,h,hq=>⟨h.1,Chain.mono h.2 hq⟩
theorem TokOk.mono {s:ByteArray} {p p':Nat} {t:Lx.Tok} (h:TokOk s p t) (hp:p'≤p):TokOk s p' t:={ h with lo:=QR hp h.lo }
theorem Chain.snoc {s:ByteArray}:∀ {ts:List Lx.Tok} {p q q':Nat} {t:Lx.Tok},Chain s p ts q→TokOk s q t→endOf t≤q'→Chain s p (ts++[t]) q'
 | [],_,_,_,_,h,ht,hq=>⟨ht.mono h,hq⟩
 | _::ts,_,_,_,_,h,ht,hq=>⟨h.1,Chain.snoc h.2 ht hq⟩
theorem number_kind {l:List UInt8} {r:Nat×List UInt8} (h:Lx.number l=some r):r.1=2∨r.1=3:=by
 have A:∀ (x y:Nat×List UInt8),Lx.numEnd x=some y→y=x:=by
  intro x y h
  unfold Lx.numEnd at h
  split at h
  ·cases h
  ·exact (Option.some.inj h).symm
 have o:∀ (x y:Nat×List UInt8),Lx.numExp x=some y→y.1=x.1∨y.1=3:=by
  intro x y h
  unfold Lx.numExp at h
  split at h
  ·dsimp only at h
   repeat' split at h
   all_goals first|exact .inr (by rw[A _ _ h])|cases h
  ·exact .inl (by rw[A _ _ h])
 have B:∀ (x:List UInt8) (y:Nat×List UInt8),Lx.numFrac x=some y→y.1=2∨y.1=3:=by
  intro x y h
  unfold Lx.numFrac at h
  split at h
  ·split at h
   ·cases h
   ·rcases o _ _ h with e|e
    ·exact .inr e
    ·exact .inr e
  ·rcases o _ _ h with e|e
   ·exact .inl e
   ·exact .inr e
 unfold Lx.number at h
 dsimp only at h
 repeat' split at h
 all_goals first|exact B _ _ h|cases h
theorem token_shape {l:List UInt8} {k:Nat} {T r:List UInt8} (h:Lx.token l=some (k,T,r)) (hl:0<l.length) :
  (k=4∧Lx.hd l=34)∨(k≠4∧T=l.take (l.length-r.length)):=by
 unfold Lx.token at h
 split at h
 ·simp only[Option.some.injEq,Prod.mk.injEq] at h
  obtain ⟨rfl,rfl,rfl⟩:=h
  exact .inr ⟨by decide,rfl⟩
 split at h
 ·obtain ⟨p,A,o⟩:=Option.map_eq_some_iff.1 h
  simp only[Prod.mk.injEq] at o
  obtain ⟨rfl,rfl,rfl⟩:=o
  refine .inr ⟨?_,rfl⟩
  rcases number_kind A with e|e<;>rw[e]<;>decide
 split at h
 ·rename_i hq
  obtain ⟨p,A,o⟩:=Option.map_eq_some_iff.1 h
  simp only[Prod.mk.injEq] at o
  refine .inl ⟨o.1.symm,?_⟩
  cases l with
  | nil=>simp at hl
  | cons c t =>
   unfold Lx.quotes3 at hq
   have:=of_decide_eq_true hq
   simp at this
   exact this.1
 split at h
 ·rename_i hq
  obtain ⟨p,A,o⟩:=Option.map_eq_some_iff.1 h
  simp only[Prod.mk.injEq] at o
  exact .inl ⟨o.1.symm,UInt8.toNat_inj.1 hq⟩
 split at h
 ·rename_i hq
  simp only[Option.some.injEq,Prod.mk.injEq] at h
  obtain ⟨rfl,rfl,rfl⟩:=h
  refine .inr ⟨by decide,?_⟩
  have C:3≤l.length:=by
   unfold Lx.dots3 at hq
   have B:=congrArg List.length (of_decide_eq_true hq)
   rw[ZK] at B
   simp at B;omega
  rw[ZB]
  congr 1
  omega
 split at h
 ·simp only[Option.some.injEq,Prod.mk.injEq] at h
  obtain ⟨rfl,rfl,rfl⟩:=h
  refine .inr ⟨by decide,?_⟩
  rw[ZB]
  congr 1
  omega
 ·cases h
theorem tokOk_of {s:ByteArray} {b c k:Nat} {T:List UInt8} (h:Lx.token (sfx s b)=some (k,T,sfx s c)) (hbc:b<c) (hc:c≤s.size) (k1:1≤k) (k5:k≤5) :
  TokOk s b ⟨k,T,b⟩∧endOf ⟨k,T,b⟩≤c:=by
 have B:0<(sfx s b).length:=by rw[sfx_len];omega
 have o:(sfx s b).length-(sfx s c).length=c-b:=by rw[sfx_len,sfx_len];omega
 rcases token_shape h B with ⟨rfl,hq⟩|⟨hk,hT⟩
 ·refine ⟨⟨k1,k5,QM _,by show b<s.size;omega,fun _=>?_,fun h=>absurd rfl h,fun h=>absurd rfl h,fun h=>absurd rfl h⟩,?_⟩
  ·rw[sfx_cons s b (by omega)] at hq
   exact hq
  ·unfold endOf
   rw[if_pos rfl]
   exact hbc
 ·rw[o] at hT
  have A:T.length=c-b:=by rw[hT,ZK,sfx_len];omega
  refine ⟨⟨k1,k5,QM _,by show b<s.size;omega,fun h=>absurd h hk,fun _=>?_,fun _=>?_,fun _=>?_⟩,?_⟩
  ·show 0<T.length;omega
  ·show b+T.length≤s.size;omega
  ·show T=(sfx s b).take T.length;rw[A];exact hT
  ·unfold endOf
   rw[if_neg hk]
   show b+T.length≤c
   omega
structure Std (s:ByteArray) (all:List Lx.Tok):Prop where
 len:all.length≤1501
 chain:∃ ts,all=ts++[⟨0,[],s.size⟩]∧Chain s 0 ts s.size
end Go.Proofs.YtefjgpkpplkkgaaGreatDoor
namespace Go.Proofs.YtefjgpkpplkkgaaGreatDoor
set_option linter.unusedSimpArgs false
set_option linter.unusedVariables false
namespace Lx
def gapB (c:UInt8):Bool:=isBlank c||decide (c.toNat=35)
def gapOk (c:UInt8):Bool:=!gapB c||(!isLetter c&&!isDigit c&&!isWord c&&decide (c.toNat≠46)&&decide ((c ||| 32).toNat≠101)&&decide (c.toNat≠34))
set_option maxRecDepth 100000 in
theorem gapOk_fin:∀ n:Fin 256,gapOk (UInt8.ofNat n.val)=true:=by decide +kernel
theorem gap_of {c:UInt8} (h:gapB c=true):isLetter c=false∧isDigit c=false∧isWord c=false∧c.toNat≠46∧(c ||| 32).toNat≠101∧c.toNat≠34:=by
 have:=gapOk_fin ⟨c.toNat,UInt8.toNat_lt c⟩
 have o:gapOk c=true:=by simpa using this
 unfold gapOk at o
 rw[h] at o
 simp only[Bool.not_true,Bool.false_or,ZD,decide_eq_true_eq,Bool.not_eq_true'] at o
 obtain ⟨⟨⟨⟨⟨B,D⟩,E⟩,F⟩,C⟩,A⟩:=o
 exact ⟨B,D,E,F,C,A⟩
theorem hd_app {a x y:List UInt8} (p:UInt8→Prop) (h1:p (hd (a++x))) (h2:p (hd y)):p (hd (a++y)):=by
 cases a with
 | nil=>exact h2
 | cons c a=>exact h1
theorem hd_cons (c:UInt8) (l:List UInt8):hd (c::l)=c:=rfl
theorem dw_app (p:UInt8→Bool):∀ (a x:List UInt8),(∀ c∈a,p c=true)→p (hd x)=false∨x=[]→(a++x).dropWhile p=x
 | [],x,_,h=>by
  rw[ZQ]
  cases x with
  | nil=>rfl
  | cons c x =>
   rcases h with h|h
   ·rw[List.dropWhile_cons,if_neg (by rw[hd_cons] at h;rw[h];simp)]
   ·cases h
 | c::a,x,ha,h=>by
  rw[ZR,List.dropWhile_cons,if_pos (ha c (by simp))]
  exact dw_app p a x (fun d hd=>ha d (by simp[hd])) h
theorem dw_hd (p:UInt8→Bool) (h0:p 0=false):∀ l:List UInt8,p (hd (l.dropWhile p))=false
 | []=>h0
 | c::l=>by
  rw[List.dropWhile_cons]
  split
  ·exact dw_hd p h0 l
  ·rename_i h;rw[hd_cons];simpa using h
theorem digits_app {a x:List UInt8} (ha:∀ c∈a,isDigit c=true) (h:isDigit (hd x)=false):digits (a++x)=x:=dw_app isDigit a x ha (.inl h)
theorem digits_hd (l:List UInt8):isDigit (hd (digits l))=false:=dw_hd isDigit (by decide) l
theorem digits_split (l:List UInt8):∃ a,l=a++digits l∧∀ c∈a,isDigit c=true:=dw_split isDigit l
def okG (x:List UInt8):Prop:=gapB (hd x)=true
theorem numEnd_some {r r':Nat×List UInt8} (h:numEnd r=some r'):r'=r:=by
 unfold numEnd at h
 split at h
 ·cases h
 ·simpa using h.symm
theorem numEnd_gap (k:Nat) {x:List UInt8} (h:okG x):numEnd (k,x)=some (k,x):=by
 obtain ⟨o,A,E,B,D,C⟩:=gap_of h
 unfold numEnd
 rw[if_neg (by simp[o,A,B])]
theorem numExp_pre {k k':Nat} {l rest:List UInt8} (h:numExp (k,l)=some (k',rest)):∃ pre,l=pre++rest∧∀ x,okG x→numExp (k,pre++x)=some (k',x):=by
 unfold numExp at h
 split at h
 ·rename_i he
  simp only[] at h he
  obtain ⟨c,A,rfl⟩:∃ c A,l=c::A:=by
   cases l with
   | nil=>exact absurd he (by decide)
   | cons c A=>exact ⟨c,A,rfl⟩
  rw[List.drop_one,List.tail_cons] at h
  rw[hd_cons] at he
  by_cases hs:(hd A).toNat=43∨(hd A).toNat=45
  ·rw[if_pos hs] at h
   obtain ⟨d,E,rfl⟩:∃ d E,A=d::E:=by
    cases A with
    | nil=>exact absurd hs (by decide)
    | cons d E=>exact ⟨d,E,rfl⟩
   rw[List.drop_one,List.tail_cons] at h
   rw[hd_cons] at hs
   obtain ⟨o,C,F⟩:=digits_split E
   split at h
   ·cases h
   ·rename_i hne
    have:=numEnd_some h
    simp only[Prod.mk.injEq] at this
    obtain ⟨rfl,rfl⟩:=this
    refine ⟨c::d::o,by rw[ZR,ZR,← C],fun x hx=>?_⟩
    have B:digits (o++x)=x:=digits_app F (gap_of hx).2.1
    have D:o.length≠0:=fun e=>hne (by
     have:=congrArg List.length C
     rw[QT,e] at this
     omega)
    unfold numExp
    rw[if_pos (by exact he)]
    simp only[ZR,List.drop_one,List.tail_cons,hd_cons]
    rw[if_pos hs,B,if_neg (by rw[QT];omega)]
    exact numEnd_gap 3 hx
  ·rw[if_neg hs] at h
   obtain ⟨o,C,F⟩:=digits_split A
   split at h
   ·cases h
   ·rename_i hne
    have:=numEnd_some h
    simp only[Prod.mk.injEq] at this
    obtain ⟨rfl,rfl⟩:=this
    refine ⟨c::o,by rw[ZR,← C],fun x hx=>?_⟩
    have B:digits (o++x)=x:=digits_app F (gap_of hx).2.1
    have D:o.length≠0:=fun e=>hne (by
     have:=congrArg List.length C
     rw[QT,e] at this
     omega)
    have G:¬ ((hd (o++x)).toNat=43∨(hd (o++x)).toNat=45):=by
     cases o with
     | nil=>exact absurd rfl D
     | cons q o =>
      rw[C] at hs
      exact hs
    unfold numExp
    rw[if_pos (by exact he)]
    simp only[ZR,List.drop_one,List.tail_cons]
    rw[if_neg G,B,if_neg (by rw[QT];omega)]
    exact numEnd_gap 3 hx
 ·rename_i he
  have:=numEnd_some h
  simp only[Prod.mk.injEq] at this
  obtain ⟨rfl,rfl⟩:=this
  refine ⟨[],rfl,fun x hx=>?_⟩
  unfold numExp
  rw[ZQ,if_neg (gap_of hx).2.2.2.2.1]
  exact numEnd_gap _ hx
theorem numFrac_pre {k':Nat} {l rest:List UInt8} (h:numFrac l=some (k',rest)):∃ pre,l=pre++rest∧∀ x,okG x→numFrac (pre++x)=some (k',x):=by
 unfold numFrac at h
 split at h
 ·rename_i he
  obtain ⟨c,o,rfl⟩:∃ c o,l=c::o:=by
   cases l with
   | nil=>exact absurd he (by decide)
   | cons c o=>exact ⟨c,o,rfl⟩
  rw[List.drop_one,List.tail_cons] at h
  rw[hd_cons] at he
  obtain ⟨B,F,I⟩:=digits_split o
  split at h
  ·cases h
  ·rename_i hne
   obtain ⟨pre,A,E⟩:=numExp_pre h
   refine ⟨c::(B++pre),by rw[ZR,ZH,← A,← F],fun x hx=>?_⟩
   have D:isDigit (hd (pre++x))=false:=hd_app (x:=rest) (fun c=>isDigit c=false) (by rw[← A];exact digits_hd o) (gap_of hx).2.1
   have C:digits (B++(pre++x))=pre++x:=digits_app I D
   have G:B.length≠0:=fun e=>hne (by
    have:=congrArg List.length F
    rw[QT,e] at this
    omega)
   unfold numFrac
   have H:(B++(pre++x)).length=B.length+(pre++x).length:=QT
   rw[ZR,hd_cons,if_pos he,List.drop_one,List.tail_cons,ZH,C,if_neg (by omega)]
   exact E x hx
 ·rename_i he
  obtain ⟨pre,A,E⟩:=numExp_pre h
  refine ⟨pre,A,fun x hx=>?_⟩
  unfold numFrac
  rw[if_neg (hd_app (x:=rest) (fun c=>¬ c.toNat=46) (by rw[← A];exact he) (gap_of hx).2.2.2.1)]
  exact E x hx
theorem number_pre {k':Nat} {l rest:List UInt8} (h:number l=some (k',rest)):∃ pre,l=pre++rest∧∀ x,okG x→number (pre++x)=some (k',x):=by
 have E:∀ A:List UInt8,(if (digits A).length=A.length∨((hd A).toNat=48∧1<A.length-(digits A).length) then none else numFrac (digits A))=some (k',rest) →
   ∃ o pre,A=o++(pre++rest)∧o≠[]∧∀ x,okG x→(if (digits (o++(pre++x))).length=(o++(pre++x)).length∨((hd (o++(pre++x))).toNat=48∧1<(o++(pre++x)).length-(digits (o++(pre++x))).length) then none else numFrac (digits (o++(pre++x))))=some (k',x):=by
  intro A h
  split at h
  ·cases h
  ·rename_i hne
   obtain ⟨o,B,F⟩:=digits_split A
   obtain ⟨pre,D,N⟩:=numFrac_pre h
   have C:o≠[]:=fun e=>hne (.inl (by rw[e,ZQ] at B;rw[← B]))
   refine ⟨o,pre,by rw[← D,← B],C,fun x hx=>?_⟩
   have H:isDigit (hd (pre++x))=false:=hd_app (x:=rest) (fun c=>isDigit c=false) (by rw[← D];exact digits_hd A) (gap_of hx).2.1
   have G:digits (o++(pre++x))=pre++x:=digits_app F H
   have M:0<o.length:=List.length_pos_iff.2 C
   have J:hd (o++(pre++x))=hd A:=by
    cases o with
    | nil=>exact absurd rfl C
    | cons q o=>rw[B];rfl
   have L:A.length-(digits A).length=o.length:=by
    have:=congrArg List.length B
    rw[QT] at this
    omega
   rw[G,J,if_neg]
   ·exact N x hx
   ·have I:(o++(pre++x)).length=o.length+(pre++x).length:=QT
    rw[I]
    intro hc
    rcases hc with hc|⟨hc1,hc2⟩
    ·omega
    ·exact hne (.inr ⟨hc1,by omega⟩)
 unfold number at h
 by_cases hm:(hd l).toNat=45
 ·rw[if_pos hm] at h
  obtain ⟨c,A,rfl⟩:∃ c A,l=c::A:=by
   cases l with
   | nil=>exact absurd hm (by decide)
   | cons c A=>exact ⟨c,A,rfl⟩
  rw[List.drop_one,List.tail_cons] at h
  obtain ⟨o,pre,B,F,D⟩:=E A h
  refine ⟨c::(o++pre),by rw[ZR,ZH,← B],fun x hx=>?_⟩
  unfold number
  have K:c.toNat=45:=hm
  rw[ZR,hd_cons,if_pos K,List.drop_one,List.tail_cons,ZH]
  exact D x hx
 ·rw[if_neg hm] at h
  obtain ⟨o,pre,B,F,D⟩:=E l h
  refine ⟨o++pre,by rw[ZH,← B],fun x hx=>?_⟩
  have J:hd (o++(pre++x))=hd l:=by
   cases o with
   | nil=>exact absurd rfl F
   | cons q o=>rw[B];rfl
  unfold number
  rw[ZH,J,if_neg hm]
  exact D x hx
def word (k:Nat) (T:List UInt8):List UInt8:=if k=4 then quote T else T
def stopB (c:UInt8):Bool:=!isBlank c&&decide (c.toNat≠35)&&decide (c.toNat≠239)
structure Good (k:Nat) (T:List UInt8):Prop where
 tok:∀ x,okG x→token (word k T++x)=some (k,T,x)
 stop:stopB (hd (word k T))=true
 ne:word k T≠[]
 val:k=4→valid T=true
def tokOk (c:UInt8):Bool:=(!isLetter c||(stopB c&&isWord c))&&(!isDigit c||(stopB c))&&(!signs.contains c||(stopB c&&!isLetter c&&!isDigit c&&decide (c.toNat≠45)&&decide (c.toNat≠34)&&decide (c.toNat≠46)&&decide (c.toNat≠0)))
set_option maxRecDepth 100000 in
theorem tokOk_fin:∀ n:Fin 256,tokOk (UInt8.ofNat n.val)=true:=by decide +kernel
theorem tok_of (c:UInt8):(isLetter c=true→stopB c=true∧isWord c=true)∧(isDigit c=true→stopB c=true)∧(signs.contains c=true→stopB c=true∧isLetter c=false∧isDigit c=false∧c.toNat≠45∧c.toNat≠34∧c.toNat≠46∧c.toNat≠0):=by
 have:=tokOk_fin ⟨c.toNat,UInt8.toNat_lt c⟩
 have C:tokOk c=true:=by simpa using this
 unfold tokOk at C
 simp only[ZD,Bool.or_eq_true,decide_eq_true_eq,Bool.not_eq_true'] at C
 obtain ⟨⟨A,o⟩,B⟩:=C
 refine ⟨fun h=>?_,fun h=>?_,fun h=>?_⟩
 ·rcases A with A|A
  ·rw[h] at A;cases A
  ·exact A
 ·rcases o with o|o
  ·rw[h] at o;cases o
  ·exact o
 ·rcases B with B|⟨⟨⟨⟨⟨⟨a1,a2⟩,a3⟩,a4⟩,a5⟩,a6⟩,a7⟩
  ·rw[h] at B;cases B
  ·exact ⟨a1,a2,a3,a4,a5,a6,a7⟩
theorem take_pre (a b:List UInt8):(a++b).take ((a++b).length-b.length)=a:=by
 rw[QT,show a.length+b.length-b.length=a.length by omega,List.take_left]
theorem word_not4 {k:Nat} (h:k≠4) (T:List UInt8):word k T=T:=if_neg h
theorem good_of {l:List UInt8} {k:Nat} {T r:List UInt8} (h:token l=some (k,T,r)):Good k T:=by
 unfold token at h
 by_cases c1:isLetter (hd l)=true
 ·rw[if_pos c1] at h
  simp only[Option.some.injEq,Prod.mk.injEq] at h
  obtain ⟨rfl,rfl,rfl⟩:=h
  obtain ⟨a,G,D⟩:=dw_split isWord l
  generalize hr:l.dropWhile isWord=r at *
  subst G
  rw[take_pre]
  have E:=(tok_of (hd (a++r))).1 c1
  have A:a≠[]:=fun e=>by
   rw[e,ZQ] at hr E
   have:=dw_hd isWord (by decide) r
   rw[hr] at this
   rw[this] at E
   cases E.2
  have C:∀ x,hd (a++x)=hd (a++r):=fun x=>by
   cases a with
   | nil=>exact absurd rfl A
   | cons q a=>rfl
  refine ⟨fun x hx=>?_,?_,by rw[word_not4 (by decide)];exact A,fun e=>by cases e⟩
  ·rw[word_not4 (by decide)]
   unfold token
   rw[C x,if_pos c1,dw_app isWord a x D (.inl (gap_of hx).2.2.1),take_pre]
  ·rw[word_not4 (by decide)]
   have:=C []
   rw[ZP] at this
   rw[this];exact E.1
 rw[if_neg c1] at h
 by_cases c2:(hd l).toNat=45∨isDigit (hd l)=true
 ·rw[if_pos c2] at h
  cases hn:number l with
  | none=>rw[hn] at h;cases h
  | some p =>
   obtain ⟨L,rest⟩:=p
   rw[hn] at h
   simp only[Option.map_some,Option.some.injEq,Prod.mk.injEq] at h
   obtain ⟨rfl,rfl,rfl⟩:=h
   have O:=number_kind hn
   simp only[] at O
   obtain ⟨o,G,D⟩:=number_pre hn
   subst G
   rw[take_pre]
   have A:o≠[]:=fun e=>by
    have J:=D [32] (by unfold okG;decide)
    rw[e,ZQ,show number [32]=none from by decide] at J
    cases J
   have C:∀ x,hd (o++x)=hd (o++rest):=fun x=>by
    cases o with
    | nil=>exact absurd rfl A
    | cons q a=>rfl
   have F:word L o=o:=word_not4 (by omega) o
   refine ⟨fun x hx=>?_,?_,by rw[F];exact A,fun e=>by omega⟩
   ·rw[F]
    unfold token
    rw[C x,if_neg c1,if_pos c2,D x hx]
    simp only[Option.map_some]
    rw[take_pre]
   ·rw[F]
    have:=C []
    rw[ZP] at this
    rw[this]
    rcases c2 with c2|c2
    ·have:hd (o++rest)=45:=UInt8.toNat_inj.1 (by rw[c2];rfl)
     rw[this];decide
    ·exact (tok_of _).2.1 c2
 rw[if_neg c2] at h
 have B:∀ m:List UInt8,V m→Good 4 m:=fun m hm=>by
  have I:valid m=true:=V_valid hm _ (QM _)
  refine ⟨fun x hx=>?_,?_,?_,fun _=>I⟩
  ·show token (quote m++x)=_
   exact token_quote m x I (gap_of hx).2.2.2.2.2
  ·show stopB 34=true
   decide
  ·show quote m≠[]
   unfold quote
   simp
 by_cases c3:quotes3 l=true
 ·rw[if_pos c3] at h
  cases hb:block [] (l.drop 3) with
  | none=>rw[hb] at h;cases h
  | some p =>
   rw[hb] at h
   simp only[Option.map_some,Option.some.injEq,Prod.mk.injEq] at h
   obtain ⟨rfl,rfl,rfl⟩:=h
   exact B _ (V_dedent (V_block _ _ _ _ _ (QM _) .nil hb))
 rw[if_neg c3] at h
 by_cases c4:(hd l).toNat=34
 ·rw[if_pos c4] at h
  cases hb:text [] (l.drop 1) with
  | none=>rw[hb] at h;cases h
  | some p =>
   rw[hb] at h
   simp only[Option.map_some,Option.some.injEq,Prod.mk.injEq] at h
   obtain ⟨rfl,rfl,rfl⟩:=h
   exact B _ (V_text _ _ _ _ _ (QM _) .nil hb)
 rw[if_neg c4] at h
 by_cases c5:dots3 l=true
 ·rw[if_pos c5] at h
  simp only[Option.some.injEq,Prod.mk.injEq] at h
  obtain ⟨rfl,rfl,rfl⟩:=h
  have e:l.take 3=[46,46,46]:=by simpa [dots3] using c5
  rw[e]
  refine ⟨fun x hx=>?_,by decide,by decide,fun e=>by cases e⟩
  show token (46::46::46::x)=_
  unfold token
  rw[if_neg (by rw[hd_cons];decide),if_neg (by rw[hd_cons];decide),if_neg (by simp[quotes3]),if_neg (by rw[hd_cons];decide),if_pos (by simp[dots3])]
  rfl
 rw[if_neg c5] at h
 by_cases c6:(hd l).toNat≠0∧signs.contains (hd l)=true
 ·rw[if_pos c6] at h
  simp only[Option.some.injEq,Prod.mk.injEq] at h
  obtain ⟨rfl,rfl,rfl⟩:=h
  obtain ⟨c,t,rfl⟩:∃ c t,l=c::t:=by
   cases l with
   | nil=>exact absurd rfl c6.1
   | cons c t=>exact ⟨c,t,rfl⟩
  rw[hd_cons] at c6
  obtain ⟨N,R,K,M,H,Q,P⟩:=(tok_of c).2.2 c6.2
  show Good 5 [c]
  refine ⟨fun x hx=>?_,by rw[word_not4 (by decide)];exact N,by rw[word_not4 (by decide)];simp,fun e=>by cases e⟩
  rw[word_not4 (by decide)]
  show token (c::x)=_
  unfold token
  rw[hd_cons,if_neg (by rw[R];simp),if_neg (by rw[K];simp[M]),if_neg,if_neg H,if_neg,if_pos ⟨P,c6.2⟩]
  ·rfl
  ·unfold dots3
   rw[decide_eq_true_eq]
   intro e
   simp at e
   exact Q (by rw[e.1];rfl)
  ·unfold quotes3
   rw[decide_eq_true_eq]
   intro e
   simp at e
   exact H (by rw[e.1];rfl)
 ·rw[if_neg c6] at h;cases h
end Lx
namespace Lx
theorem gap_le:∀ (n:Nat) (f:Bool) (l:List UInt8),l.length≤n→(gap f l).1.length≤l.length
 | _,f,[],_=>by rw[gap_nil];exact Nat.zero_le _
 | 0,f,c::t,h=>by simp at h
 | n+1,f,c::t,h=>by
  have o:t.length≤n:=by simpa using h
  cases hb:isBlank c
  ·by_cases hbo:f=true∧bom (c::t)=true
   ·rw[hbo.1,gap_bom hb hbo.2]
    have:=gap_le n false ((c::t).drop 3) (by rw[ZB];simp;omega)
    rw[ZB] at this
    omega
   ·by_cases h35:c.toNat=35
    ·rw[gap_rem h35]
     have A:=remark_le t
     have:=gap_le n false (remark t).1 (by omega)
     rw[QO]
     split
     ·omega
     ·simp only[];omega
    ·rw[gap_stop hb hbo h35]
     exact QM _
  ·rw[gap_blank hb]
   have:=gap_le n false t o
   rw[QO]
   omega
theorem text_len:∀ (n:Nat) (l out m r:List UInt8),l.length≤n→text out l=some (m,r)→m.length≤out.length+4*l.length∧r.length≤l.length
 | _,[],out,m,r,_,h=>by rw[text_nil] at h;cases h
 | 0,c::t,_,_,_,h,_=>by simp at h
 | n+1,c::t,out,m,r,hn,h=>by
  rw[QO] at hn ⊢
  by_cases h0:ctl (c::t)
  ·rw[text_bad h0] at h;cases h
  have A:(rune (c::t)).2≠0:=fun e=>h0 (.inl e)
  by_cases h1:(rune (c::t)).1=34
  ·rw[text_quote h0 h1] at h
   simp at h
   rw[← h.1,← h.2]
   omega
  by_cases h2:(rune (c::t)).1=92
  ·cases he:esc (hd t) with
   | some e =>
    rw[text_esc h0 h2 he] at h
    have:=text_len n _ _ m r (by rw[ZB];omega) h
    rw[QT,List.length_singleton,ZB] at this
    omega
   | none =>
    by_cases hu:(hd t).toNat=117
    ·cases hx:hex (t.drop 1) with
     | none=>rw[text_nohex h0 h2 he hu hx] at h;cases h
     | some v =>
      by_cases hs:55296≤v∧v<57344
      ·rw[text_sur h0 h2 he hu hx hs] at h;cases h
      ·rw[text_uni h0 h2 he hu hx hs] at h
       have:=text_len n _ _ m r (by rw[ZB];omega) h
       have o:=enc_len v
       rw[QT,ZB] at this
       omega
    ·rw[text_noesc h0 h2 he hu] at h;cases h
  ·rw[text_plain h0 h1 h2] at h
   have:=text_len n _ _ m r (by rw[ZB,QO];omega) h
   have o:=rune_le4 (c::t)
   rw[QT,ZB,ZK,QO] at this
   omega
theorem block_len:∀ (n:Nat) (l out m r:List UInt8),l.length≤n→block out l=some (m,r)→m.length≤out.length+l.length∧r.length≤l.length
 | _,[],out,m,r,_,h=>by rw[block_nil] at h;cases h
 | 0,c::t,_,_,_,h,_=>by simp at h
 | n+1,c::t,out,m,r,hn,h=>by
  rw[QO] at hn ⊢
  cases hq:quotes3 (c::t)
  ·by_cases he:c.toNat=92∧quotes3 t=true
   ·rw[block_esc hq he] at h
    have C:3≤t.length:=by
     have o:=congrArg List.length (of_decide_eq_true he.2)
     rw[ZK] at o
     simp at o;omega
    have:=block_len n _ _ m r (by rw[ZB];omega) h
    rw[QT,ZB] at this
    simp only[QO,QS] at this
    omega
   ·by_cases hc:ctlB (c::t)
    ·rw[block_bad hq he hc] at h;cases h
    ·rw[block_go hq he hc] at h
     have B:(rune (c::t)).2≠0:=fun e=>hc (.inl e)
     have:=block_len n _ _ m r (by rw[ZB,QO];omega) h
     have A:=rune_len (c::t)
     rw[QT,ZB,ZK,QO] at this
     rw[QO] at A
     omega
  ·rw[block_end hq] at h
   simp at h
   rw[← h.1,← h.2]
   simp
   omega
theorem token_len {l:List UInt8} {k:Nat} {T r:List UInt8} (h:token l=some (k,T,r)) (hl:l.length≤4096):T.length≤1000000000∧r.length≤l.length:=by
 have o:∀ j,(l.take j).length≤4096:=fun j=>by rw[ZK];omega
 unfold token at h
 split at h
 ·simp only[Option.some.injEq,Prod.mk.injEq] at h
  obtain ⟨rfl,rfl,rfl⟩:=h
  have:=o (l.length-(l.dropWhile isWord).length)
  exact ⟨by omega,dropWhile_le _ _⟩
 split at h
 ·obtain ⟨p,B,A⟩:=Option.map_eq_some_iff.1 h
  simp only[Prod.mk.injEq] at A
  obtain ⟨rfl,rfl,rfl⟩:=A
  have:=o (l.length-p.2.length)
  obtain ⟨C,e,_⟩:=number_pre (k':=p.1) (rest:=p.2) B
  have D:=congrArg List.length e
  rw[QT] at D
  exact ⟨by omega,by omega⟩
 split at h
 ·obtain ⟨p,B,A⟩:=Option.map_eq_some_iff.1 h
  simp only[Prod.mk.injEq] at A
  obtain ⟨rfl,rfl,rfl⟩:=A
  have:=block_len _ _ _ p.1 p.2 (QM _) B
  rw[ZB,QS] at this
  exact ⟨dedent_len _ (by omega),by omega⟩
 split at h
 ·obtain ⟨p,B,A⟩:=Option.map_eq_some_iff.1 h
  simp only[Prod.mk.injEq] at A
  obtain ⟨rfl,rfl,rfl⟩:=A
  have:=text_len _ _ _ p.1 p.2 (QM _) B
  rw[ZB,QS] at this
  exact ⟨by omega,by omega⟩
 split at h
 ·simp only[Option.some.injEq,Prod.mk.injEq] at h
  obtain ⟨rfl,rfl,rfl⟩:=h
  have:=o 3
  exact ⟨by omega,by rw[ZB];omega⟩
 split at h
 ·simp only[Option.some.injEq,Prod.mk.injEq] at h
  obtain ⟨rfl,rfl,rfl⟩:=h
  have:=o 1
  exact ⟨by omega,by rw[ZB];omega⟩
 ·cases h
theorem lexGo_good:∀ (n size:Nat) (l:List UInt8) (out ts:List Tok),l.length≤4096→lexGo size n l out=.ok ts→∃ pre,ts=out++pre++[⟨0,[],size⟩]∧∀ t∈pre,Good t.kind t.text∧t.text.length≤1000000000
 | 0,size,l,out,ts,_,h=>by simp[lexGo] at h
 | n+1,size,l,out,ts,hl,h=>by
  have C:=gap_le l.length (decide (l.length=size)) l (QM _)
  rw[lexGo] at h
  split at h
  ·cases h
  split at h
  ·refine ⟨[],?_,by simp⟩
   rw[ZP]
   exact (Res.ok.inj h).symm
  split at h
  ·cases h
  rename_i k T rest htok
  split at h
  ·cases h
  obtain ⟨o,D⟩:=token_len htok (by omega)
  obtain ⟨pre,A,B⟩:=lexGo_good n size rest _ ts (by omega) h
  refine ⟨⟨k,T,size-(gap (decide (l.length=size)) l).1.length⟩::pre,by rw[A];simp,fun t ht=>?_⟩
  rcases List.mem_cons.1 ht with rfl|ht
  ·exact ⟨good_of htok,o⟩
  ·exact B t ht
end Lx
namespace Lx
structure Wd where
 g:List UInt8
 k:Nat
 T:List UInt8
 w:List UInt8
structure StandsW (x:Wd) (l:List UInt8):Prop where
 blank:∀ c∈x.g,isBlank c=true
 stop:stopB (hd x.w)=true
 ne:x.w≠[]
 tok:token (x.w++l)=some (x.k,x.T,l)
end Lx
namespace Lx
theorem hdx {β:Type} (p:UInt8→β) (h:p 0=p 10) (l t:List UInt8):p (hd (l++10::t))=p (hd l):=by
 cases l with
 | nil=>exact h.symm
 | cons c l=>rfl
end Lx
namespace Lx
structure Neu (x:List UInt8):Prop where
 l:isLetter (hd x)=false
 d:isDigit (hd x)=false
 n46:(hd x).toNat≠46
 n45:(hd x).toNat≠45
 n43:(hd x).toNat≠43
 n34:(hd x).toNat≠34
theorem Neu.w {x:List UInt8} (h:Neu x):isWord (hd x)=false:=by unfold isWord;rw[h.l,h.d];rfl
theorem Neu.e {x:List UInt8} (h:Neu x):(hd x ||| 32).toNat≠101:=fun e=>by
 have:=h.l
 unfold isLetter at this
 rw[e] at this
 simp at this
theorem hdn {β:Type} (p:UInt8→β) {x:List UInt8} (h:p (hd x)=p 0) (l:List UInt8):p (hd (l++x))=p (hd l):=by
 cases l with
 | nil=>exact h
 | cons c l=>rfl
end Lx
namespace Qr
open Lx
end Qr
end Go.Proofs.YtefjgpkpplkkgaaGreatDoor
namespace Go.Proofs.YtefjgpkpplkkgaaGreatDoor
set_option linter.unusedSimpArgs false
set_option linter.unusedVariables false
open Go Go.RowKit
namespace Rd
open Lx (Tok)
abbrev Pl:=Nat×Option (List UInt8)
def Fits (p:Pl) (t:Tok):Prop:=p.1=t.at_∧∀ x,p.2=some x→t.kind≠4∧t.text=x
def Match:List Pl→List Tok→Prop
 | [],_=>True
 | _::_,[]=>False
 | p::ps,t::ts=>(Fits p t∧Match ps ts)∨Match (p::ps) ts
theorem match_nil (ts:List Tok):Match [] ts:=by unfold Match;trivial
theorem match_weak {t:Tok} {ts:List Tok}:∀ {ps:List Pl},Match ps ts→Match ps (t::ts)
 | [],_=>match_nil _
 | p::ps,h=>by unfold Match;exact .inr h
theorem match_pre {ps:List Pl} {ts:List Tok} (h:Match ps ts):∀ l:List Tok,Match ps (l++ts)
 | []=>h
 | t::l=>match_weak (match_pre h l)
theorem match_app {qs:List Pl} {r:List Tok} (k:Match qs r):∀ {ts:List Tok} {ps:List Pl},Match ps ts→Match (ps++qs) (ts++r)
 | ts,[],_=>match_pre k ts
 | [],p::ps,h=>by unfold Match at h;exact h.elim
 | t::ts,p::ps,h=>by
  unfold Match at h
  show Match (p::(ps++qs)) (t::(ts++r))
  unfold Match
  rcases h with ⟨h1,h2⟩|h
  ·exact .inl ⟨h1,match_app k h2⟩
  ·exact .inr (match_app k h)
theorem match_drop {ts:List Tok} {p:Pl}:∀ {ps:List Pl},Match (p::ps) ts→Match ps ts:=by
 induction ts with
 | nil=>intro ps h;unfold Match at h;exact h.elim
 | cons t ts ih =>
  intro ps h
  unfold Match at h
  rcases h with ⟨_,h⟩|h
  ·exact match_weak h
  ·exact match_weak (ih h)
theorem match_sub {ps qs:List Pl} (h:List.Sublist ps qs):∀ {ts:List Tok},Match qs ts→Match ps ts:=by
 induction h with
 | slnil=>exact fun h=>h
 | cons a _ ih=>exact fun h=>ih (match_drop h)
 | cons_cons a hs ih =>
  intro ts
  induction ts with
  | nil=>intro h;unfold Match at h;exact h.elim
  | cons t ts it =>
   intro h
   unfold Match at h ⊢
   rcases h with ⟨h1,h2⟩|h
   ·exact .inl ⟨h1,ih h2⟩
   ·exact .inr (it h)
def Eats (s s':St) (ps:List Pl):Prop:=s'.err=0→s.err=0∧∃ pre,s.rest=pre++s'.rest∧(∀ t∈pre,t.kind≠0)∧Match ps pre
section
variable {s s' a b c : St} {p q : List Pl}
theorem Eats.refl (s:St):Eats s s []:=fun h=>⟨h,[],rfl,fun t ht=>absurd ht (by simp),match_nil _⟩
theorem Eats.trans (h:Eats a b p) (k:Eats b c q):Eats a c (p++q):=fun he=>by
 obtain ⟨B,x,D,E,F⟩:=k he
 obtain ⟨k1,y,C,A,o⟩:=h B
 refine ⟨k1,y++x,by rw[C,D,ZH],fun t ht=>?_,match_app F o⟩
 rcases List.mem_append.1 ht with ht|ht
 ·exact A t ht
 ·exact E t ht
theorem Eats.bad (h:s'.err≠0):Eats s s' p:=fun he=>absurd he h
theorem Eats.sub (h:Eats a b p) (k:List.Sublist q p):Eats a b q:=fun he=>by
 obtain ⟨o,x,A,B,C⟩:=h he
 exact ⟨o,x,A,B,match_sub k C⟩
theorem Eats.to (h:Eats a b p) (e:b=c):Eats a c p:=e▸h
def NE (s:St):Prop:=∀ t∈s.rest,t.kind=1→t.text≠[]
theorem Eats.ne (h:Eats a b p) (he:b.err=0) (k:NE a):NE b:=fun t ht=>by
 obtain ⟨_,x,o,_⟩:=h he
 exact k t (by rw[o];exact List.mem_append_right _ ht)
theorem Eats.err (h:Eats a b p) (he:b.err=0):a.err=0:=(h he).1
theorem isS_parts {c:List UInt8} (h:isS s c=true):s.err=0∧(peek s).kind=5∧(peek s).text=c:=by
 unfold isS at h
 simpa [and_assoc] using h
theorem isN_parts (h:isN s=true):s.err=0∧(peek s).kind=1:=by
 unfold isN at h
 simpa using h
end
structure Rds {α:Type} (f:St→St×α) (pl:St→α→List Pl) (q:α→Prop):Prop where
 eats:∀ s,Eats s (f s).1 (pl s (f s).2)
 good:∀ s,NE s→(f s).1.err=0→q (f s).2
section
variable {α : Type} {f : St → St × α} {pl : α → List Pl} {q : α → Prop}
end
end Rd
namespace Sd
open Rd
def In.pl (x:In):List Pl:=[(x.at_,some x.name)]
def In.ok (x:In):Prop:=x.type≠[]∧x.has=decide (x.dflt.kind≠0)
def Fd.pl (x:Fd):List Pl:=(x.at_,some x.name)::x.args.flatMap In.pl
def Fd.ok (x:Fd):Prop:=x.type≠[]∧∀ a∈x.args,a.ok
def Td.pl (x:Td):List Pl:=(x.at_,some (words.getD (x.kind-1) []))::(x.fields.flatMap Fd.pl++x.inputs.flatMap In.pl)
structure Td.ok (x:Td):Prop where
 k1:1≤x.kind
 k6:x.kind≤6
 name:x.name≠[]
 fields:∀ f∈x.fields,f.ok
 inputs:∀ a∈x.inputs,a.ok
end Sd
end Go.Proofs.YtefjgpkpplkkgaaGreatDoor
namespace Go.Proofs.YtefjgpkpplkkgaaGreatDoor
set_option linter.unusedSimpArgs false
set_option linter.unusedVariables false
namespace Rd
open Lx (Tok)
def ktx (t:Tok):Nat×List UInt8:=(t.kind,t.text)
def HdOk (us:List Tok):Prop:=∃ h r,us=h::r∧h.kind≠5∧(h.kind=1→h.text≠Sd.sImpl)
def J (e:Tok) (us:List Tok) (m:Nat) (s1 s2:St):Prop :=
 ∃ a a':List Tok,a.length=m∧a.map ktx=a'.map ktx∧s1.rest=a++[e]∧s2.rest=a'++us∧s1.deep=s2.deep∧s1.err=0∧s2.err=0∧∀ t∈a,t.kind≠0
section
variable {e : Tok} {us : List Tok} {m : Nat} {s1 s2 : St}
theorem J.e1 (h:J e us m s1 s2):s1.err=0:=by obtain ⟨a,a',h1,h2,h3,h4,h5,h6,h7,h8⟩:=h;exact h6
theorem J.e2 (h:J e us m s1 s2):s2.err=0:=by obtain ⟨a,a',h1,h2,h3,h4,h5,h6,h7,h8⟩:=h;exact h7
theorem J.deep (h:J e us m s1 s2):s1.deep=s2.deep:=by obtain ⟨a,a',h1,h2,h3,h4,h5,h6,h7,h8⟩:=h;exact h5
theorem J.len (h:J e us m s1 s2):s1.rest.length=m+1∧m≤s2.rest.length:=by
 obtain ⟨a,D,o,A,B,C,-⟩:=h
 have:=congrArg List.length A
 rw[QX,QX] at this
 rw[B,C,QT,QT]
 exact ⟨by simp;exact o,by omega⟩
theorem J.setDeep (h:J e us m s1 s2) {d1 d2:Int} (hd:d1=d2):J e us m { s1 with deep:=d1 } { s2 with deep:=d2 }:=by
 obtain ⟨a,C,A,B,E,F,H,o,G,D⟩:=h
 exact ⟨a,C,A,B,E,F,hd,o,G,D⟩
theorem J.zero (h:J e us 0 s1 s2) (hu:HdOk us):peek s1=e∧∃ x r,us=x::r∧x.kind≠5∧(x.kind=1→x.text≠Sd.sImpl)∧peek s2=x:=by
 obtain ⟨a,A,B,C,D,E,-⟩:=h
 obtain rfl:=ZZ B
 have:A=[]:=by cases A with
  | nil=>rfl
  | cons _ _=>simp at C
 subst this
 obtain ⟨x,r,rfl,o⟩:=hu
 refine ⟨by unfold peek;rw[D];rfl,x,r,rfl,o.1,o.2,by unfold peek;rw[E];rfl⟩
theorem J.peek (h:J e us (m+1) s1 s2):(peek s1).kind=(peek s2).kind∧(peek s1).text=(peek s2).text:=by
 obtain ⟨a,A,B,o,C,D,-⟩:=h
 cases a with
 | nil=>simp at B
 | cons x a=>cases A with
  | nil=>simp at o
  | cons y A =>
   simp only[ZS,List.cons.injEq,ktx,Prod.mk.injEq] at o
   unfold Rd.peek
   rw[C,D]
   exact o.1
theorem J.next (h:J e us (m+1) s1 s2) (hk:(Rd.peek s1).kind≠0):J e us m (next s1) (next s2):=by
 have F:=h.peek
 obtain ⟨a,A,C,o,H,I,E,B,D,G⟩:=h
 unfold Rd.next
 rw[if_pos ⟨B,hk⟩,if_pos ⟨D,by rw[← F.1];exact hk⟩]
 cases a with
 | nil=>simp at C
 | cons x a=>cases A with
  | nil=>simp at o
  | cons y A =>
   simp only[ZS,List.cons.injEq] at o
   exact ⟨a,A,by simpa using C,o.2,by show s1.rest.drop 1=_;rw[H];rfl,by show s2.rest.drop 1=_;rw[I];rfl,E,B,D,fun t ht=>G t (List.mem_cons_of_mem _ ht)⟩
theorem J.isS (h:J e us m s1 s2) (he:e.kind=0) (hu:HdOk us) (c:List UInt8):Rd.isS s1 c=Rd.isS s2 c:=by
 cases m with
 | zero =>
  obtain ⟨o,x,r,-,B,-,A⟩:=h.zero hu
  unfold Rd.isS
  rw[o,A,he]
  simp[B]
 | succ m =>
  unfold Rd.isS
  rw[h.e1,h.e2,h.peek.1,h.peek.2]
theorem J.isW (h:J e us (m+1) s1 s2) (ws:List (List UInt8)):Rd.isW s1 ws=Rd.isW s2 ws:=by
 unfold Rd.isW Rd.isN
 rw[h.e1,h.e2,h.peek.1,h.peek.2]
theorem J.isN (h:J e us (m+1) s1 s2):Rd.isN s1=Rd.isN s2:=by
 unfold Rd.isN
 rw[h.e1,h.e2,h.peek.1]
theorem J.sign (h:J e us m s1 s2) (he:e.kind=0) (hu:HdOk us) {c:List UInt8} (hs:Rd.isS s1 c=true):∃ k,m=k+1∧J e us k (Rd.next s1) (Rd.next s2):=by
 cases m with
 | zero =>
  obtain ⟨o,-⟩:=h.zero hu
  have:=isS_parts hs
  rw[o,he] at this
  omega
 | succ m =>
  have:=isS_parts hs
  exact ⟨m,rfl,h.next (by omega)⟩
theorem J.name (h:J e us m s1 s2) (he:e.kind=0) (hu:HdOk us) (hz:(Rd.name s1).1.err=0):∃ k,m=k+1∧J e us k (Rd.name s1).1 (Rd.name s2).1∧(Rd.name s1).2=(Rd.name s2).2:=by
 cases m with
 | zero =>
  obtain ⟨o,-⟩:=h.zero hu
  unfold Rd.name Rd.isN at hz
  rw[o,he] at hz
  simp at hz
  exact absurd hz wrong_bad
 | succ m =>
  unfold Rd.name at hz ⊢
  rw[← h.isN]
  split
  ·rename_i hn
   have:=isN_parts hn
   exact ⟨m,rfl,h.next (by omega),h.peek.2⟩
  ·rename_i hn
   rw[if_neg hn] at hz
   exact absurd hz wrong_bad
theorem J.want (h:J e us m s1 s2) (he:e.kind=0) (hu:HdOk us) {c:List UInt8} (hz:(Rd.want c s1).err=0):∃ k,m=k+1∧J e us k (Rd.want c s1) (Rd.want c s2):=by
 unfold Rd.want at hz ⊢
 rw[← h.isS he hu]
 split
 ·rename_i hs;exact h.sign he hu hs
 ·rename_i hs;rw[if_neg hs] at hz;exact absurd hz wrong_bad
theorem J.take (h:J e us m s1 s2) (he:e.kind=0) (hu:HdOk us) (c:List UInt8):∃ k,k≤m∧J e us k (Rd.take c s1) (Rd.take c s2):=by
 unfold Rd.take
 rw[← h.isS he hu]
 split
 ·rename_i hs
  obtain ⟨k,A,o⟩:=h.sign he hu hs
  exact ⟨k,by omega,o⟩
 ·exact ⟨m,QM _,h⟩
theorem J.down (h:J e us m s1 s2) (he:e.kind=0) (hu:HdOk us) {c:List UInt8} (hz:(Rd.down c s1).err=0):∃ k,m=k+1∧J e us k (Rd.down c s1) (Rd.down c s2):=by
 unfold Rd.down at hz ⊢
 dsimp only at hz ⊢
 rw[← h.isS he hu,← h.deep]
 by_cases hd:Rd.isS s1 c=true∧s1.deep=16
 ·rw[if_pos hd] at hz
  have A:(fail 42 s1).err≠0:=by unfold fail;rw[if_pos h.e1];simp
  have:=(ok_want c (fail 42 s1)).err A
  rw[this] at hz
  exact absurd hz A
 ·rw[if_neg hd,if_neg hd] at *
  obtain ⟨k,B,o⟩:=h.want he hu hz
  exact ⟨k,B,o.setDeep (by rw[o.deep])⟩
theorem J.up (h:J e us m s1 s2) (he:e.kind=0) (hu:HdOk us) {c:List UInt8} (hz:(Rd.up c s1).err=0):∃ k,m=k+1∧J e us k (Rd.up c s1) (Rd.up c s2):=by
 obtain ⟨k,A,o⟩:=h.want he hu (c:=c) hz
 exact ⟨k,A,o.setDeep (by rw[o.deep])⟩
end
section
variable {e : Tok} {us : List Tok}
end
end Rd
namespace Sd
open Rd
open Lx (Tok)
section
variable {e : Tok} {us : List Tok}
end
end Sd
namespace Vl
def many (k:Int):Prop:=k=8∨k=9
instance (k : Int) : Decidable (many k) := by unfold many; infer_instance
-- Has a value a text?
mutual
def Z.good:Nat→Z→Bool
 | deep,.mk k t i f _=>parts k i.length f.length&&(if 1≤k∧k≤7 then (leaf k t).1 else if many k then (decide (t=[])&&decide (deep<16))&&(Z.goods (deep+1) i&&ZA.goods (deep+1) f) else false)
def Z.goods:Nat→List Z→Bool
 | _,[]=>true
 | deep,x::r=>Z.good deep x&&Z.goods deep r
def ZA.good:Nat→ZA→Bool
 | deep,.mk n v _=>Lx.isName n&&Z.good deep v
def ZA.goods:Nat→List ZA→Bool
 | _,[]=>true
 | deep,x::r=>ZA.good deep x&&ZA.goods deep r
end
-- Its text.
def gp (b:Bool):List UInt8:=if b then [] else [44,32]
mutual
def Z.str:Z→List UInt8
 | .mk k t i f _=>if many k then opn k++(Z.strs true i++(ZA.strs true f++shut k)) else (leaf k t).2
def Z.strs:Bool→List Z→List UInt8
 | _,[]=>[]
 | b,x::r=>gp b++(Z.str x++Z.strs false r)
def ZA.str:ZA→List UInt8
 | .mk n v _=>n++([58,32]++Z.str v)
def ZA.strs:Bool→List ZA→List UInt8
 | _,[]=>[]
 | b,x::r=>gp b++(ZA.str x++ZA.strs false r)
end
theorem Z.good_eq (deep:Nat) (z:Z):z.good deep=(parts z.kind z.items.length z.fields.length&&(if 1≤z.kind∧z.kind≤7 then (leaf z.kind z.text).1 else if many z.kind then (decide (z.text=[])&&decide (deep<16))&&(Z.goods (deep+1) z.items&&ZA.goods (deep+1) z.fields) else false)):=by
 cases z;rw[Z.good];rfl
theorem sep_put (b:Bool) (s:Sh):sep b s=put (gp b) s:=by
 unfold sep gp put
 cases b<;>simp
def Does (f:Sh→Sh) (g:Bool) (t:List UInt8):Prop:=(∀ s,s.bad=true→(f s).bad=true)∧∀ s,s.bad=false→(g=true→f s=⟨s.out++t,false⟩)∧(g=false→(f s).bad=true)
theorem does_put (t:List UInt8):Does (put t) true t:=⟨fun s h=>h,fun s h=>⟨fun _=>by unfold put;rw[h],fun e=>by cases e⟩⟩
theorem does_need (b:Bool):Does (need b) b []:=⟨fun s h=>by unfold need;rw[h];rfl,fun s h=>⟨fun e=>by unfold need;rw[h,e];simp,fun e=>by unfold need;rw[h,e];rfl⟩⟩
theorem does_id:Does (fun s=>s) true []:=⟨fun s h=>h,fun s h=>⟨fun _=>by cases s;simp at h ⊢;exact h,fun e=>by cases e⟩⟩
theorem Does.comp {f f2:Sh→Sh} {g g2:Bool} {t t2:List UInt8} (h:Does f g t) (h2:Does f2 g2 t2):Does (fun s=>f2 (f s)) (g&&g2) (t++t2):=by
 refine ⟨fun s hs=>h2.1 _ (h.1 _ hs),fun s hs=>⟨fun hg=>?_,fun hg=>?_⟩⟩
 ·rw[ZD] at hg
  show f2 (f s)=_
  rw[(h.2 s hs).1 hg.1,(h2.2 _ rfl).1 hg.2,ZH]
 ·show (f2 (f s)).bad=true
  cases g with
  | false=>exact h2.1 _ ((h.2 s hs).2 rfl)
  | true =>
   rw[(h.2 s hs).1 rfl]
   exact (h2.2 _ rfl).2 (by simpa using hg)
theorem Does.to {f:Sh→Sh} {g g2:Bool} {t t2:List UInt8} (h:Does f g t) (e:g=g2) (e2:t=t2):Does f g2 t2:=by subst e e2;exact h
mutual
theorem show_does:∀ (z:Z) (deep:Nat),Does (z.show deep) (z.good deep) z.str
 | .mk k t i f a,deep=>by
  by_cases h1:1≤k∧k≤7
  ·have E:¬ many k:=by unfold many;omega
   have e:(Z.mk k t i f a).show deep=fun s=>put (leaf k t).2 (need (leaf k t).1 (need (parts k i.length f.length) s)):=by
    funext s
    exact Z.show_leaf (x:=Z.mk k t i f a) h1
   rw[e]
   exact (((does_need (parts k i.length f.length)).comp (does_need (leaf k t).1)).comp (does_put (leaf k t).2)).to (by rw[Z.good,if_pos h1,Bool.and_true]) (by rw[Z.str,if_neg E];rfl)
  by_cases h2:many k
  ·have e:(Z.mk k t i f a).show deep=fun s=>if (need (decide (t=[])&&decide (deep<16)) (need (parts k i.length f.length) s)).bad=true then need (decide (t=[])&&decide (deep<16)) (need (parts k i.length f.length) s)
     else put (shut k) (ZA.shows (deep+1) true f (Z.shows (deep+1) true i (put (opn k) (need (decide (t=[])&&decide (deep<16)) (need (parts k i.length f.length) s))))):=by
    funext s
    exact Z.show_many (x:=Z.mk k t i f a) h2
   have C:=((((does_put (opn k)).comp (shows_does i (deep+1) true)).comp (showas_does f (deep+1) true)).comp (does_put (shut k)))
   have o:=(does_need (parts k i.length f.length)).comp (does_need (decide (t=[])&&decide (deep<16)))
   have A:(Z.mk k t i f a).good deep=((parts k i.length f.length&&(decide (t=[])&&decide (deep<16)))&&(((true&&Z.goods (deep+1) i)&&ZA.goods (deep+1) f)&&true)):=by
    rw[Z.good,if_neg h1,if_pos h2,Bool.true_and,Bool.and_true,Bool.and_assoc (parts k i.length f.length)]
   have F:(Z.mk k t i f a).str=([]++[])++(((opn k++Z.strs true i)++ZA.strs true f)++shut k):=by
    rw[Z.str,if_pos h2];simp
   rw[e,A,F]
   have D:=o.comp C
   refine ⟨fun s hs=>?_,fun s hs=>⟨fun A=>?_,fun A=>?_⟩⟩
   ·show (if _ then _ else _:Sh).bad=true
    rw[if_pos (o.1 s hs)]
    exact o.1 s hs
   ·have B:=(D.2 s hs).1 A
    rw[ZD] at A
    have G:=(o.2 s hs).1 A.1
    show (if _ then _ else _:Sh)=_
    rw[if_neg (by show ¬ (need _ (need _ s)).bad=true;rw[show need (decide (t=[])&&decide (deep<16)) (need (parts k i.length f.length) s)=_ from G];simp)]
    exact B
   ·have B:=(D.2 s hs).2 A
    show (if _ then _ else _:Sh).bad=true
    split
    ·assumption
    ·exact B
  ·have e:(Z.mk k t i f a).show deep=fun s=>need false (need (parts k i.length f.length) s):=by
    funext s
    exact Z.show_else (x:=Z.mk k t i f a) h1 h2
   have A:(Z.mk k t i f a).good deep=(parts k i.length f.length&&false):=by rw[Z.good,if_neg h1,if_neg h2]
   rw[e,A]
   have:=(does_need (parts k i.length f.length)).comp (does_need false)
   refine ⟨this.1,fun s hs=>⟨fun h=>by simp at h,(this.2 s hs).2⟩⟩
theorem shows_does:∀ (l:List Z) (deep:Nat) (b:Bool),Does (Z.shows deep b l) (Z.goods deep l) (Z.strs b l)
 | [],deep,b=>by
  have e:Z.shows deep b []=fun s=>s:=by funext s;exact Z.shows_nil _ _ _
  rw[e,Z.goods,Z.strs];exact does_id
 | x::r,deep,b=>by
  have e:Z.shows deep b (x::r)=fun s=>Z.shows deep false r (Z.show deep x (put (gp b) s)):=by funext s;rw[Z.shows_cons,sep_put]
  rw[e,Z.goods,Z.strs]
  exact (((does_put (gp b)).comp (show_does x deep)).comp (shows_does r deep false)).to (by rw[Bool.true_and]) (by rw[ZH])
theorem showa_does:∀ (x:ZA) (deep:Nat),Does (ZA.show deep x) (ZA.good deep x) x.str
 | .mk n v a,deep=>by
  have e:ZA.show deep (.mk n v a)=fun s=>Z.show deep v (put (n++[58,32]) (need (Lx.isName n) s)):=by funext s;rw[ZA.show]
  rw[e,ZA.good,ZA.str]
  exact (((does_need (Lx.isName n)).comp (does_put (n++[58,32]))).comp (show_does v deep)).to (by rw[Bool.and_true]) (by simp)
theorem showas_does:∀ (l:List ZA) (deep:Nat) (b:Bool),Does (ZA.shows deep b l) (ZA.goods deep l) (ZA.strs b l)
 | [],deep,b=>by
  have e:ZA.shows deep b []=fun s=>s:=by funext s;exact ZA.shows_nil _ _ _
  rw[e,ZA.goods,ZA.strs];exact does_id
 | x::r,deep,b=>by
  have e:ZA.shows deep b (x::r)=fun s=>ZA.shows deep false r (ZA.show deep x (put (gp b) s)):=by funext s;rw[ZA.shows_cons,sep_put]
  rw[e,ZA.goods,ZA.strs]
  exact (((does_put (gp b)).comp (showa_does x deep)).comp (showas_does r deep false)).to (by rw[Bool.true_and]) (by rw[ZH])
end
theorem shown_good {z:Z} (h:z.good 0=true):z.show 0 ⟨[],false⟩=⟨z.str,false⟩:=((show_does z 0).2 ⟨[],false⟩ rfl).1 h
theorem shown_bad {z:Z} (h:z.good 0=false):(z.show 0 ⟨[],false⟩).bad=true:=((show_does z 0).2 ⟨[],false⟩ rfl).2 h
-- The same but for places: the same text, good likewise.
-- Its words.
end Vl
namespace Vl
theorem gp_le (b:Bool):(gp b).length≤2:=by cases b<;>decide
mutual
theorem str_le:∀ z:Z,z.str.length≤z.cost
 | .mk k t i f a=>by
  have o:=strs_le true i
  have A:=strsA_le true f
  have B:=opn_le k
  have D:=shut_le k
  have C:=leaf_le k t
  rw[Z.str,Z.cost]
  split
  ·simp only[QT];omega
  ·omega
theorem strs_le:∀ (b:Bool) (l:List Z),(Z.strs b l).length≤Z.costs l
 | _,[]=>by rw[Z.strs];exact Nat.zero_le _
 | b,x::r=>by
  have o:=str_le x
  have A:=strs_le false r
  have B:=gp_le b
  rw[Z.strs,Z.costs]
  simp only[QT];omega
theorem strA_le:∀ z:ZA,z.str.length≤z.cost
 | .mk n v a=>by
  have o:=str_le v
  rw[ZA.str,ZA.cost]
  simp only[QT,QO,QS];omega
theorem strsA_le:∀ (b:Bool) (l:List ZA),(ZA.strs b l).length≤ZA.costs l
 | _,[]=>by rw[ZA.strs];exact Nat.zero_le _
 | b,x::r=>by
  have o:=strA_le x
  have A:=strsA_le false r
  have B:=gp_le b
  rw[ZA.strs,ZA.costs]
  simp only[QT];omega
end
end Vl
namespace Vl
structure Eff (s:Sh) (g:Bool) (t:List UInt8) (c:Nat) (s':Sh):Prop where
 bad:s.bad=true→s'.bad=true
 ok:s.bad=false→g=true→s'=⟨s.out++t,false⟩
 no:s.bad=false→g=false→s'.bad=true
 len:s'.out.length≤s.out.length+c
theorem Eff.refl (s:Sh):Eff s true [] 0 s:=⟨fun h=>h,fun h _=>(by cases s;simp at h ⊢;exact h),fun _ h=>(by cases h),by omega⟩
theorem Eff.put (t:List UInt8) (s:Sh):Eff s true t t.length (put t s) :=
 ⟨fun h=>h,fun h _=>(by unfold Vl.put;rw[h]),fun _ h=>(by cases h),by rw[put_out,QT];omega⟩
theorem Eff.need (b:Bool) (s:Sh):Eff s b [] 0 (need b s):=by
 refine ⟨fun h=>?_,fun h e=>?_,fun h e=>?_,by rw[need_out];omega⟩
 ·unfold Vl.need;rw[h];rfl
 ·unfold Vl.need;rw[h,e];simp
 ·unfold Vl.need;rw[h,e];rfl
theorem Eff.skip {s:Sh} (h:s.bad=true) (g:Bool) (t:List UInt8):Eff s g t 0 s:=⟨fun h=>h,fun h2=>(by rw[h] at h2;cases h2),fun h2=>(by rw[h] at h2;cases h2),by omega⟩
theorem Eff.comp {s s1 s2:Sh} {g g2:Bool} {t t2:List UInt8} {c c2:Nat} (h:Eff s g t c s1) (k:Eff s1 g2 t2 c2 s2):Eff s (g&&g2) (t++t2) (c+c2) s2:=by
 refine ⟨fun hb=>k.bad (h.bad hb),fun hb hg=>?_,fun hb hg=>?_,by have:=h.len;have:=k.len;omega⟩
 ·rw[ZD] at hg
  have e:=h.ok hb hg.1
  have o:=k.ok (by rw[e]) hg.2
  rw[o,e,ZH]
 ·cases g with
  | false=>exact k.bad (h.no hb rfl)
  | true =>
   have e:=h.ok hb rfl
   exact k.no (by rw[e]) (by simpa using hg)
theorem Eff.to {s s':Sh} {g g2:Bool} {t t2:List UInt8} {c c2:Nat} (h:Eff s g t c s') (e:g=g2) (e2:g2=true→t=t2) (hc:c≤c2):Eff s g2 t2 c2 s':=by
 subst e
 exact ⟨h.bad,fun hb hg=>by rw[h.ok hb hg,e2 hg],h.no,by have:=h.len;omega⟩
theorem Eff.done {t:List UInt8} {g:Bool} {c:Nat} {s':Sh} (h:Eff ⟨[],false⟩ g t c s'):s'.bad=!g∧(g=true→s'.out=t):=by
 cases g with
 | true=>have e:=h.ok rfl rfl;rw[e];exact ⟨rfl,fun _=>rfl⟩
 | false=>exact ⟨h.no rfl rfl,fun e=>by cases e⟩
-- Many, with something between.
def gds (g:Nat→Bool):Nat→Bool
 | 0=>true
 | n+1=>gds g n&&g n
def tds (t:Nat→List UInt8) (m:List UInt8):Nat→List UInt8
 | 0=>[]
 | n+1=>tds t m n++((if n=0 then [] else m)++t n)
def cds (c:Nat→Nat) (m:Nat):Nat→Nat
 | 0=>0
 | n+1=>cds c m n+(m+c n)
theorem cds_le (c:Nat→Nat) (m:Nat):∀ {i n:Nat},i<n→cds c m i+(m+c i)≤cds c m n
 | i,n+1,h=>by
  by_cases e:i=n
  ·subst e;exact QM _
  ·have:=cds_le c m (i:=i) (n:=n) (by omega)
   rw[cds];omega
theorem cds_mono (c:Nat→Nat) (m:Nat):∀ {i n:Nat},i≤n→cds c m i≤cds c m n
 | i,0,h=>by
   obtain rfl:i=0:=by omega
   exact QM _
 | i,n+1,h=>by
  by_cases e:i=n+1
  ·subst e;exact QM _
  ·have:=cds_mono c m (i:=i) (n:=n) (by omega)
   rw[cds];omega
-- Over a list.
def ats {α β:Type} (l:List α) (f:α→β) (d:β) (i:Nat):β:=match l[i]? with|some x=>f x|none=>d
def joinT {α:Type} (f:α→List UInt8) (m:List UInt8):Bool→List α→List UInt8
 | _,[]=>[]
 | b,x::r=>(if b then [] else m)++(f x++joinT f m false r)
def sumC {α:Type} (f:α→Nat) (m:Nat):List α→Nat
 | []=>0
 | x::r=>(m+f x)+sumC f m r
theorem ats_some {α β:Type} {l:List α} {f:α→β} {d:β} {i:Nat} {x:α} (h:l[i]?=some x):ats l f d i=f x:=by unfold ats;rw[h]
theorem joinT_snoc {α:Type} (f:α→List UInt8) (m:List UInt8):∀ (b:Bool) (l:List α) (x:α),joinT f m b (l++[x])=joinT f m b l++((if (b&&l.isEmpty)=true then [] else m)++f x)
 | b,[],x=>by rw[ZQ,joinT,joinT,joinT];cases b<;>simp
 | b,y::r,x=>by
  rw[ZR,joinT,joinT,joinT_snoc f m false r x]
  simp
theorem gds_all {α:Type} (l:List α) (f:α→Bool):∀ n,n≤l.length→gds (ats l f true) n=(l.take n).all f
 | 0,_=>by rw[gds];rfl
 | n+1,h=>by
  rw[gds,gds_all l f n (by omega),ats_some (ZJ (by omega:n<l.length)),List.take_succ_eq_append_getElem (by omega),List.all_append]
  simp
theorem tds_join {α:Type} (l:List α) (f:α→List UInt8) (m:List UInt8):∀ n,n≤l.length→tds (ats l f []) m n=joinT f m true (l.take n)
 | 0,_=>by rw[tds];rfl
 | n+1,h=>by
  rw[tds,tds_join l f m n (by omega),ats_some (ZJ (by omega:n<l.length)),List.take_succ_eq_append_getElem (by omega),joinT_snoc]
  cases n with
  | zero=>rfl
  | succ n=>cases l with
   | nil=>simp at h
   | cons y r=>simp
theorem sumC_app {α:Type} (f:α→Nat) (m:Nat):∀ a b:List α,sumC f m (a++b)=sumC f m a+sumC f m b
 | [],b=>by rw[ZQ,sumC];omega
 | x::a,b=>by rw[ZR,sumC,sumC,sumC_app f m a b];omega
theorem cds_sum {α:Type} (l:List α) (f:α→Nat) (m:Nat):∀ n,n≤l.length→cds (ats l f 0) m n=sumC f m (l.take n)
 | 0,_=>by rw[cds];rfl
 | n+1,h=>by
  rw[cds,cds_sum l f m n (by omega),ats_some (ZJ (by omega:n<l.length)),List.take_succ_eq_append_getElem (by omega),sumC_app,sumC,sumC]
  omega
theorem sumC_mem {α:Type} (f:α→Nat) (m:Nat):∀ {l:List α} {x:α},x∈l→m+f x≤sumC f m l
 | y::r,x,h=>by
  rw[sumC]
  rcases List.mem_cons.1 h with rfl|h
  ·omega
  ·have:=sumC_mem f m h;omega
end Vl
namespace Vl
open Rd Lx
def parse (l:List UInt8) (fixed:Bool):St×V :=
 let s:=begin_ l
 let r:=value fixed (s.rest.length+1) s
 (fin r.1,r.2)
def parseType (l:List UInt8):St×List UInt8 :=
 let s:=begin_ l
 let r:=type (s.rest.length+1) s
 (fin r.1,r.2)
def opT (ob:Bool):Nat→List UInt8
 | 0=>[]
 | n+1=>opT ob n++(if ob=true∧n % 2=1 then [123,97,58] else [91])
end Vl
namespace Vl
-- No variable in it.
mutual
def Z.nov:Z→Bool
 | .mk k _ i f _=>decide (k≠1)&&(Z.novs i&&ZA.novs f)
def Z.novs:List Z→Bool
 | []=>true
 | x::r=>Z.nov x&&Z.novs r
def ZA.nov:ZA→Bool
 | .mk _ v _=>Z.nov v
def ZA.novs:List ZA→Bool
 | []=>true
 | x::r=>ZA.nov x&&ZA.novs r
end
structure At (s:Rd.St) (ks:List (Nat×List UInt8)) (rest:List Lx.Tok):Prop where
 err:s.err=0
 is:∃ a,s.rest=a++rest∧a.map Rd.ktx=ks
section
variable {s : Rd.St} {k : Nat} {T : List UInt8} {ks : List (Nat × List UInt8)} {rest : List Lx.Tok}
theorem At.peek (h:At s ((k,T)::ks) rest):(Rd.peek s).kind=k∧(Rd.peek s).text=T:=by
 obtain ⟨a,A,o⟩:=h.is
 cases a with
 | nil=>cases o
 | cons x a =>
  simp only[ZS,List.cons.injEq,Rd.ktx,Prod.mk.injEq] at o
  unfold Rd.peek
  rw[A]
  exact o.1
theorem At.next (h:At s ((k,T)::ks) rest) (hk:k≠0):At (Rd.next s) ks rest:=by
 have C:=h.peek
 obtain ⟨a,A,o⟩:=h.is
 have B:Rd.next s={ s with rest:=s.rest.drop 1 }:=by unfold Rd.next;rw[if_pos ⟨h.err,by rw[C.1];exact hk⟩]
 rw[B]
 cases a with
 | nil=>cases o
 | cons x a =>
  simp only[ZS,List.cons.injEq] at o
  exact ⟨h.err,a,by show s.rest.drop 1=_;rw[A];rfl,o.2⟩
theorem At.isS (h:At s ((k,T)::ks) rest) (c:List UInt8):Rd.isS s c=(decide (k=5)&&decide (T=c)):=by
 unfold Rd.isS
 rw[h.err,h.peek.1,h.peek.2]
 simp
theorem At.isN (h:At s ((k,T)::ks) rest):Rd.isN s=decide (k=1):=by
 unfold Rd.isN
 rw[h.err,h.peek.1]
 simp
theorem At.isW (h:At s ((k,T)::ks) rest) (ws:List (List UInt8)):Rd.isW s ws=(decide (k=1)&&(ws.any (fun w=>decide (T=w))||ws.isEmpty)):=by
 unfold Rd.isW
 rw[h.isN,h.peek.2]
theorem At.setDeep (h:At s ks rest) (d:Int):At { s with deep:=d } ks rest:=⟨h.err,h.is⟩
theorem At.down (h:At s ((5,T)::ks) rest) (hd:s.deep≠16):At (Rd.down T s) ks rest:=by
 unfold Rd.down Rd.want
 dsimp only
 have e:(if Rd.isS s T=true∧s.deep=16 then Rd.fail 42 s else s)=s:=if_neg (fun e=>hd e.2)
 rw[e,if_pos (by rw[h.isS];simp)]
 exact (h.next (by decide)).setDeep _
theorem At.up (h:At s ((5,T)::ks) rest):At (Rd.up T s) ks rest:=by
 unfold Rd.up Rd.want
 dsimp only
 rw[if_pos (by rw[h.isS];simp)]
 exact (h.next (by decide)).setDeep _
theorem At.name (h:At s ((1,T)::ks) rest):At (Rd.name s).1 ks rest∧(Rd.name s).2=T:=by
 unfold Rd.name
 rw[if_pos (by rw[h.isN];rfl)]
 exact ⟨h.next (by decide),h.peek.2⟩
theorem At.want (h:At s ((5,T)::ks) rest):At (Rd.want T s) ks rest:=by
 unfold Rd.want
 rw[if_pos (by rw[h.isS];simp)]
 exact h.next (by decide)
end
theorem down_deep (c:List UInt8) (s:Rd.St):(Rd.down c s).deep=s.deep+1:=Rd.down_deep c s
theorem At.len {s:Rd.St} {ks:List (Nat×List UInt8)} {rest:List Lx.Tok} (h:At s ks rest):ks.length≤s.rest.length:=by
 obtain ⟨a,A,o⟩:=h.is
 rw[A,← o,QX,QT];omega
end Vl
end Go.Proofs.YtefjgpkpplkkgaaGreatDoor
