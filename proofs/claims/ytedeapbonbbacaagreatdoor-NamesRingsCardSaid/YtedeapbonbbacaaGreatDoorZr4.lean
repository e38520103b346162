/-
  The reader of types, as plain functions (no program in sight). The reader of types, plain: what its functions leave alone, how they go on (no program in sight). The reader of documents, as plain functions (no program in sight). The reader of documents, plain: what its functions leave alone, how they go on (no program in sight). The reader of documents, plain: operations, fragments, the rounds (no program in sight). The two texts of 'awake' of the documents' law, read plain.
-/
import Derived.Test.YtedeapbonbbacaaGreatDoorZr3
namespace Go.Proofs.YtedeapbonbbacaaGreatDoor
set_option linter.unusedSimpArgs false
set_option linter.unusedVariables false
namespace Sd
open Rd
structure In where
 name:List UInt8
 type:List UInt8
 has:Bool
 dflt:V
 at_:Nat
structure Fd where
 name:List UInt8
 args:List In
 type:List UInt8
 at_:Nat
structure Td where
 kind:Nat
 name:List UInt8
 impl:List (List UInt8)
 fields:List Fd
 members:List (List UInt8)
 inputs:List In
 at_:Nat
def eq_:List UInt8:=[61]
def amp:List UInt8:=[38]
def bar:List UInt8:=[124]
def words:List (List UInt8):=[[115,99,97,108,97,114],[116,121,112,101],[105,110,116,101,114,102,97,99,101],[117,110,105,111,110],[101,110,117,109],[105,110,112,117,116]]
def LU:List UInt8:=[105,109,112,108,101,109,101,110,116,115]
def told (s:St):St:=if (peek s).kind=4 then next s else s
def Hr (c:List UInt8):Nat→St→List (List UInt8)→St×List (List UInt8)
 | 0,s,out=>(s,out)
 | n+1,s,out=>if isS s c then Hr c n (name (next s)).1 (out++[(name (next s)).2]) else (s,out)
def names (c:List UInt8) (s:St):St×List (List UInt8):=Hr c ((name (take c s)).1.rest.length+1) (name (take c s)).1 [(name (take c s)).2]
def dflt (n:Nat) (s:St):St×V:=if isS s eq_ then value true n (next s) else (s,V.none)
def input (n:Nat) (s:St):St×In :=
 let r:=name (told s)
 let t:=type n (want colon r.1)
 ((dflt n t.1).1,⟨r.2,t.2,isS t.1 eq_,(dflt n t.1).2,(peek (told s)).at_⟩)
def Ca {α:Type} (c e:List UInt8) (f:St→St×α) (n:Nat) (s:St):St×List α :=
 if isS s c then (want e (loop1 e f n (next s)).1,(loop1 e f n (next s)).2) else (s,[])
def field (n:Nat) (s:St):St×Fd :=
 let r:=name (told s)
 let q:=Ca lpar rpar (input n) n r.1
 let t:=type n (want colon q.1)
 (t.1,⟨r.2,q.2,t.2,(peek (told s)).at_⟩)
def Kt (s:St):St×List UInt8:=name (if isW (told s) [sTrue,sFalse,sNull] then wrong (told s) else told s)
def kindOf (t:List UInt8):Nat:=match words.findIdx? (λw=>decide (w=t)) with
 | some i=>i+1
 | none=>0
def impl (s:St):St×List (List UInt8):=if isW s [LU] then names amp (next s) else (s,[])
def body (n:Nat) (k:Nat) (nm:List UInt8) (a:Nat) (s:St):St×Td :=
 if k=2∨k=3 then
  let i:=impl s
  let f:=Ca lbrc rbrc (field n) n i.1
  (f.1,⟨k,nm,i.2,f.2,[],[],a⟩)
 else if k=4 then
  if isS s eq_ then
   let m:=names bar (next s)
   (m.1,⟨k,nm,[],[],m.2,[],a⟩)
  else (s,⟨k,nm,[],[],[],[],a⟩)
 else if k=5 then
  let m:=Ca lbrc rbrc Kt n s
  (m.1,⟨k,nm,[],[],m.2,[],a⟩)
 else if k=6 then
  let m:=Ca lbrc rbrc (input n) n s
  (m.1,⟨k,nm,[],[],[],m.2,a⟩)
 else (s,⟨k,nm,[],[],[],[],a⟩)
def J5 (n:Nat) (s:St):St×Td :=
 let s1:=told s
 let s2:=if isW s1 words then s1 else wrong s1
 let t:=peek s2
 let r:=name (next s2)
 body n (kindOf t.text) r.2 t.at_ r.1
def LL (n:Nat):Nat→St→List Td→St×List Td
 | 0,s,out=>(s,out)
 | k+1,s,out=>if s.err=0∧(peek s).kind≠0 then LL n k (J5 n s).1 (out++[(J5 n s).2]) else (s,out)
def parse (l:List UInt8):St×List Td :=
 let s:=begin_ l
 let n:=s.rest.length+1
 if s.err=0 then LL n n (J5 n s).1 [(J5 n s).2] else (s,[])
end Sd
namespace Sd
open Rd
theorem FT (n:Nat) (s:St):Ok s (dflt n s).1:=by
 unfold dflt;split
 ·exact (ok_next s).trans (ok_value true n _)
 ·exact Ok.refl s
theorem Ez (n:Nat) (s:St):(dflt n s).1.deep=s.deep:=by
 unfold dflt;split
 ·rw[value_deep,next_deep]
 ·rfl
end Sd
namespace Qr
open Rd
structure Dir where
 name:List UInt8
 args:List A
 at_:Nat
inductive Sel where
 | mk (kind:Nat) (alias name:List UInt8) (args:List A) (dirs:List Dir) (sels:List Sel) (at_:Nat)
namespace Sel
def kind:Sel→Nat|.mk k _ _ _ _ _ _=>k
def alias:Sel→List UInt8|.mk _ x _ _ _ _ _=>x
def name:Sel→List UInt8|.mk _ _ x _ _ _ _=>x
def args:Sel→List A|.mk _ _ _ x _ _ _=>x
def dirs:Sel→List Dir|.mk _ _ _ _ x _ _=>x
def sels:Sel→List Sel|.mk _ _ _ _ _ x _=>x
def at_:Sel→Nat|.mk _ _ _ _ _ _ x=>x
end Sel
structure Vd where
 name:List UInt8
 type:List UInt8
 has:Bool
 dflt:V
 at_:Nat
structure Op where
 kind:Nat
 name:List UInt8
 vars:List Vd
 dirs:List Dir
 sels:List Sel
 at_:Nat
structure Fr where
 name:List UInt8
 on:List UInt8
 dirs:List Dir
 sels:List Sel
 at_:Nat
def sAt:List UInt8:=[64]
def sDots:List UInt8:=[46,46,46]
def sOn:List UInt8:=[111,110]
def sEq:List UInt8:=[61]
def sFrag:List UInt8:=[102,114,97,103,109,101,110,116]
def kinds:List (List UInt8):=[[113,117,101,114,121],[109,117,116,97,116,105,111,110],[115,117,98,115,99,114,105,112,116,105,111,110]]
def dir (n:Nat) (s:St):St×Dir :=
 let r:=name (next s)
 let q:=args false n r.1
 (q.1,⟨r.2,q.2,(peek s).at_⟩)
def dirsGo (n:Nat):Nat→St→List Dir→St×List Dir
 | 0,s,out=>(s,out)
 | k+1,s,out=>if isS s sAt then dirsGo n k (dir n s).1 (out++[(dir n s).2]) else (s,out)
def dirs (n:Nat) (s:St):St×List Dir:=dirsGo n (s.rest.length+1) s []
def but (s:St):St×List UInt8:=name (if isW s [sOn] then wrong s else s)
def selsOf (f:St→St×Sel) (s:St):St×List Sel :=
 let r:=loop1 rbrc f ((down lbrc s).rest.length+1) (down lbrc s)
 (up rbrc r.1,r.2)
def aliasOf (s:St):St×(List UInt8×List UInt8):=if isS (name s).1 colon then ((name (next (name s).1)).1,((name s).2,(name (next (name s).1)).2)) else ((name s).1,([],(name s).2))
def setIf (f:St→St×Sel) (s:St):St×List Sel:=if isS s lbrc then selsOf f s else (s,[])
def fieldOf (f:St→St×Sel) (n a:Nat) (s:St):St×Sel :=
 let q:=aliasOf s
 let g:=args false n q.1
 let d:=dirs n g.1
 let z:=setIf f d.1
 (z.1,.mk 1 q.2.1 q.2.2 g.2 d.2 z.2 a)
def onOf (s:St):St×List UInt8:=if isW s [sOn] then name (next s) else (s,[])
def spreadOf (n a:Nat) (s:St):St×Sel :=
 let r:=name s
 let d:=dirs n r.1
 (d.1,.mk 2 [] r.2 [] d.2 [] a)
def inlineOf (f:St→St×Sel) (n a:Nat) (s:St):St×Sel :=
 let r:=onOf s
 let d:=dirs n r.1
 let z:=selsOf f d.1
 (z.1,.mk 3 [] r.2 [] d.2 z.2 a)
def selOf (f:St→St×Sel) (n:Nat) (s:St):St×Sel :=
 if isS s sDots then
  if isW (next s) []&&!isW (next s) [sOn] then spreadOf n (peek s).at_ (next s)
  else inlineOf f n (peek s).at_ (next s)
 else fieldOf f n (peek s).at_ s
def sel (n:Nat):Nat→St→St×Sel
 | 0,s=>(s,.mk 0 [] [] [] [] [] 0)
 | k+1,s=>selOf (sel n k) n s
def sels (n k:Nat) (s:St):St×List Sel:=selsOf (sel n k) s
def dflt (n:Nat) (s:St):St×V:=if isS s sEq then value true n (next s) else (s,V.none)
def variable_ (n:Nat) (s:St):St×Vd :=
 let r:=name (want dollar s)
 let t:=type n (want colon r.1)
 ((dflt n t.1).1,⟨r.2,t.2,isS t.1 sEq,(dflt n t.1).2,(peek s).at_⟩)
def kindOf (t:List UInt8):Nat:=match kinds.findIdx? (λw=>decide (w=t)) with
 | some i=>i+1
 | none=>0
def vars (n:Nat) (s:St):St×List Vd:=if isS s lpar then (want rpar (loop1 rpar (variable_ n) n (next s)).1,(loop1 rpar (variable_ n) n (next s)).2) else (s,[])
def op (n:Nat) (s:St):St×Op :=
 if isS s lbrc then
  let z:=sels n n s
  (z.1,⟨1,[],[],[],z.2,(peek s).at_⟩)
 else
  let s1:=next s
  let r:=if isW s1 [] then name s1 else (s1,[])
  let v:=vars n r.1
  let d:=dirs n v.1
  let z:=sels n n d.1
  (z.1,⟨kindOf (peek s).text,r.2,v.2,d.2,z.2,(peek s).at_⟩)
def frag (n:Nat) (s:St):St×Fr :=
 let b:=but (next s)
 let s2:=next (if isW b.1 [sOn] then b.1 else wrong b.1)
 let o:=name s2
 let d:=dirs n o.1
 let z:=sels n n d.1
 (z.1,⟨b.2,o.2,d.2,z.2,(peek s).at_⟩)
def step (n:Nat) (s:St) (d:List Op×List Fr):St×(List Op×List Fr) :=
 if isW s [sFrag] then ((frag n s).1,(d.1,d.2++[(frag n s).2]))
 else if isS s lbrc||isW s kinds then ((op n s).1,(d.1++[(op n s).2],d.2))
 else (wrong s,d)
def go (n:Nat):Bool→Nat→St→List Op×List Fr→St×(List Op×List Fr)
 | _,0,s,d=>(s,d)
 | ff,k+1,s,d=>if s.err=0∧(ff=true∨(peek s).kind≠0) then go n false k (step n s d).1 (step n s d).2 else (s,d)
def parse (l:List UInt8):St×(List Op×List Fr) :=
 let s:=begin_ l
 go (s.rest.length+1) true (s.rest.length+2) s ([],[])
end Qr
namespace Qr
open Rd
theorem ok_dir (n:Nat) (s:Rd.St):Ok s (dir n s).1:=((ok_next s).trans (ok_name _)).trans (ok_args false n _)
theorem dir_deep (n:Nat) (s:Rd.St):(dir n s).1.deep=s.deep:=by
 show (args false n _).1.deep=_;rw[args_deep,name_deep,next_deep]
theorem E0 (n:Nat):∀(k:Nat) (s:Rd.St) (out:List Dir),Ok s (dirsGo n k s out).1
 | 0,s,out=>Ok.refl s
 | k+1,s,out=>by
  unfold dirsGo;split
  ·exact (ok_dir n s).trans (E0 n k _ _)
  ·exact Ok.refl s
theorem Dj (n:Nat):∀(k:Nat) (s:Rd.St) (out:List Dir),(dirsGo n k s out).1.deep=s.deep
 | 0,s,out=>rfl
 | k+1,s,out=>by
  unfold dirsGo;split
  ·rw[Dj n k,dir_deep]
  ·rfl
theorem ok_dirs (n:Nat) (s:Rd.St):Ok s (dirs n s).1:=E0 n _ s []
theorem dirs_deep (n:Nat) (s:Rd.St):(dirs n s).1.deep=s.deep:=Dj n _ s []
theorem ok_but (s:Rd.St):Ok s (but s).1:=by
 unfold but;split
 ·exact (ok_wrong s).trans (ok_name _)
 ·exact ok_name s
theorem but_deep (s:Rd.St):(but s).1.deep=s.deep:=by
 unfold but;rw[name_deep];split
 ·exact wrong_deep s
 ·rfl
theorem ok_selsOf (f:Rd.St→Rd.St×Sel) (hf:∀s,Ok s (f s).1) (s:Rd.St):Ok s (selsOf f s).1:=((ok_down lbrc s).trans (Cr rbrc f hf _ _)).trans (EF rbrc _)
theorem selsOf_deep (f:Rd.St→Rd.St×Sel) (hf:∀s,(f s).1.deep=s.deep) (s:Rd.St):(selsOf f s).1.deep=s.deep:=by
 show (up rbrc _).deep=_;rw[Dv,Ch rbrc f hf,down_deep];omega
theorem ok_aliasOf (s:Rd.St):Ok s (aliasOf s).1:=by
 unfold aliasOf;split
 ·exact ((ok_name s).trans (ok_next _)).trans (ok_name _)
 ·exact ok_name s
theorem aliasOf_deep (s:Rd.St):(aliasOf s).1.deep=s.deep:=by
 unfold aliasOf;split
 ·show (name _).1.deep=_;rw[name_deep,next_deep,name_deep]
 ·exact name_deep s
theorem Fy (f:Rd.St→Rd.St×Sel) (hf:∀s,Ok s (f s).1) (s:Rd.St):Ok s (setIf f s).1:=by
 unfold setIf;split
 ·exact ok_selsOf f hf s
 ·exact Ok.refl s
theorem Gw (f:Rd.St→Rd.St×Sel) (hf:∀s,(f s).1.deep=s.deep) (s:Rd.St):(setIf f s).1.deep=s.deep:=by
 unfold setIf;split
 ·exact selsOf_deep f hf s
 ·rfl
theorem ok_onOf (s:Rd.St):Ok s (onOf s).1:=by
 unfold onOf;split
 ·exact (ok_next s).trans (ok_name _)
 ·exact Ok.refl s
theorem Ia (s:Rd.St):(onOf s).1.deep=s.deep:=by
 unfold onOf;split
 ·rw[name_deep,next_deep]
 ·rfl
theorem G3 (f:Rd.St→Rd.St×Sel) (hf:∀s,Ok s (f s).1) (n a:Nat) (s:Rd.St):Ok s (fieldOf f n a s).1 :=
 (((ok_aliasOf s).trans (ok_args false n _)).trans (ok_dirs n _)).trans (Fy f hf _)
theorem FD (f:Rd.St→Rd.St×Sel) (hf:∀s,(f s).1.deep=s.deep) (n a:Nat) (s:Rd.St):(fieldOf f n a s).1.deep=s.deep:=by
 show (setIf f _).1.deep=_;rw[Gw f hf,dirs_deep,args_deep,aliasOf_deep]
theorem Db (n a:Nat) (s:Rd.St):Ok s (spreadOf n a s).1:=(ok_name s).trans (ok_dirs n _)
theorem EY (n a:Nat) (s:Rd.St):(spreadOf n a s).1.deep=s.deep:=by
 show (dirs n _).1.deep=_;rw[dirs_deep,name_deep]
theorem Dm (f:Rd.St→Rd.St×Sel) (hf:∀s,Ok s (f s).1) (n a:Nat) (s:Rd.St):Ok s (inlineOf f n a s).1 :=
 ((ok_onOf s).trans (ok_dirs n _)).trans (ok_selsOf f hf _)
theorem Ec (f:Rd.St→Rd.St×Sel) (hf:∀s,(f s).1.deep=s.deep) (n a:Nat) (s:Rd.St):(inlineOf f n a s).1.deep=s.deep:=by
 show (selsOf f _).1.deep=_;rw[selsOf_deep f hf,dirs_deep,Ia]
theorem I4 (f:Rd.St→Rd.St×Sel) (hf:∀s,Ok s (f s).1) (n:Nat) (s:Rd.St):Ok s (selOf f n s).1:=by
 unfold selOf;split
 ·split
  ·exact (ok_next s).trans (Db n _ _)
  ·exact (ok_next s).trans (Dm f hf n _ _)
 ·exact G3 f hf n _ s
theorem Gt (f:Rd.St→Rd.St×Sel) (hf:∀s,(f s).1.deep=s.deep) (n:Nat) (s:Rd.St):(selOf f n s).1.deep=s.deep:=by
 unfold selOf;split
 ·split
  ·rw[EY,next_deep]
  ·rw[Ec f hf,next_deep]
 ·exact FD f hf n _ s
theorem ok_sel (n:Nat):∀(k:Nat) (s:Rd.St),Ok s (sel n k s).1
 | 0,s=>Ok.refl s
 | k+1,s=>I4 _ (ok_sel n k) n s
theorem sel_deep (n:Nat):∀(k:Nat) (s:Rd.St),(sel n k s).1.deep=s.deep
 | 0,s=>rfl
 | k+1,s=>Gt _ (sel_deep n k) n s
theorem aliasOf_goes {s:Rd.St} (h:s.err=0):(aliasOf s).1.err≠0∨(aliasOf s).1.rest.length<s.rest.length:=by
 have o:=E7 h;have k:Ok (name s).1 (aliasOf s).1:=by
  unfold aliasOf;split
  ·exact (ok_next _).trans (ok_name _)
  ·exact Ok.refl _
 rcases o with hb|hb
 ·left;rw[k.err hb];exact hb
 ·right;exact Nat.lt_of_le_of_lt k.len hb
theorem Gq (f:Rd.St→Rd.St×Sel) (hf:∀s,Ok s (f s).1) (n:Nat) (s:Rd.St) (h:s.err=0):(selOf f n s).1.err≠0∨(selOf f n s).1.rest.length<s.rest.length:=by
 have o:∀{b c:Rd.St},Ok b c→(b.err≠0∨b.rest.length<s.rest.length)→(c.err≠0∨c.rest.length<s.rest.length):=λ{b c} k hb=>by
  rcases hb with hb|hb
  ·left;rw[k.err hb];exact hb
  ·right;exact Nat.lt_of_le_of_lt k.len hb
 unfold selOf;split
 ·rename_i hs;have A:(next s).err≠0∨(next s).rest.length<s.rest.length:=.inr (next_sign hs).1;split
  ·exact o (Db n _ _) A
  ·exact o (Dm f hf n _ _) A
 ·exact o (((ok_args false n _).trans (ok_dirs n _)).trans (Fy f hf _)) (aliasOf_goes h)
theorem sel_goes (n k:Nat) (s:Rd.St) (h:s.err=0):(sel n (k+1) s).1.err≠0∨(sel n (k+1) s).1.rest.length<s.rest.length:=Gq _ (ok_sel n k) n s h
theorem down_less (c:List UInt8) (s:Rd.St):(down c s).err≠0∨(down c s).rest.length<s.rest.length:=by
 by_cases hs:isS s c=true
 ·exact down_goes hs
 ·left
  unfold down want
  dsimp only
  rw[if_neg (show ¬(isS s c=true∧s.deep=16) from λx=>hs x.1),if_neg hs];exact Bg
def nameIf (s:Rd.St):Rd.St×List UInt8:=if isW s [] then name s else (s,[])
def opRest (n kd a:Nat) (s:Rd.St):Rd.St×Op :=
 let r:=nameIf s
 let v:=vars n r.1
 let d:=dirs n v.1
 let z:=sels n n d.1
 (z.1,⟨kd,r.2,v.2,d.2,z.2,a⟩)
theorem op_rest {n:Nat} {s:Rd.St} (h:isS s lbrc=false):op n s=opRest n (kindOf (peek s).text) (peek s).at_ (next s):=by
 unfold op;rw[if_neg (by rw[h];simp)];rfl
theorem Ik (s:Rd.St):Ok s (nameIf s).1:=by
 unfold nameIf;split
 ·exact ok_name s
 ·exact Ok.refl s
theorem GZ (s:Rd.St):(nameIf s).1.deep=s.deep:=by
 unfold nameIf;split
 ·exact name_deep s
 ·rfl
theorem FT (n:Nat) (s:Rd.St):Ok s (dflt n s).1:=by
 unfold dflt;split
 ·exact (ok_next s).trans (ok_value true n _)
 ·exact Ok.refl s
theorem Ez (n:Nat) (s:Rd.St):(dflt n s).1.deep=s.deep:=by
 unfold dflt;split
 ·rw[value_deep,next_deep]
 ·rfl
theorem ok_variable (n:Nat) (s:Rd.St):Ok s (variable_ n s).1 :=
 ((((ok_want dollar s).trans (ok_name _)).trans (ok_want colon _)).trans (ok_type n _)).trans (FT n _)
theorem variable_deep (n:Nat) (s:Rd.St):(variable_ n s).1.deep=s.deep:=by
 show (dflt n _).1.deep=_;rw[Ez,type_deep,want_deep,name_deep,want_deep]
theorem variable_goes (n:Nat) (s:Rd.St) (h:s.err=0):(variable_ n s).1.err≠0∨(variable_ n s).1.rest.length<s.rest.length:=by
 have k:Ok (want dollar s) (variable_ n s).1:=(((ok_name _).trans (ok_want colon _)).trans (ok_type n _)).trans (FT n _);have o:(want dollar s).err≠0∨(want dollar s).rest.length<s.rest.length:=by
  unfold want;split
  ·rename_i hs;exact .inr (next_sign hs).1
  ·exact .inl Bg
 rcases o with hb|hb
 ·left;rw[k.err hb];exact hb
 ·right;exact Nat.lt_of_le_of_lt k.len hb
theorem ok_vars (n:Nat) (s:Rd.St):Ok s (vars n s).1:=by
 unfold vars;split
 ·exact ((ok_next s).trans (Cr rpar (variable_ n) (ok_variable n) n _)).trans (ok_want rpar _)
 ·exact Ok.refl s
theorem vars_deep (n:Nat) (s:Rd.St):(vars n s).1.deep=s.deep:=by
 unfold vars;split
 ·show (want rpar _).deep=_;rw[want_deep,Ch rpar (variable_ n) (variable_deep n),next_deep]
 ·rfl
end Qr
namespace Qr
open Rd
theorem FL (n k:Nat) (s:Rd.St):Ok s (sels n k s).1:=ok_selsOf _ (ok_sel n k) s
theorem C9 (n k:Nat) (s:Rd.St):(sels n k s).1.deep=s.deep:=selsOf_deep _ (sel_deep n k) s
theorem Ey (n kd a:Nat) (s:Rd.St):Ok s (opRest n kd a s).1:=(((Ik s).trans (ok_vars n _)).trans (ok_dirs n _)).trans (FL n n _)
theorem F6 (n kd a:Nat) (s:Rd.St):(opRest n kd a s).1.deep=s.deep:=by
 show (sels n n _).1.deep=_;rw[C9,dirs_deep,vars_deep,GZ]
theorem Gr {n:Nat} {s:Rd.St} (h:isS s lbrc=true):op n s=((sels n n s).1,⟨1,[],[],[],(sels n n s).2,(peek s).at_⟩):=by
 unfold op;rw[if_pos h]
theorem LR (n:Nat) (s:Rd.St):Ok s (op n s).1:=by
 by_cases h:isS s lbrc=true
 ·rw[Gr h];exact FL n n s
 ·rw[op_rest (by simpa using h)];exact (ok_next s).trans (Ey n _ _ _)
theorem J8 (n:Nat) (s:Rd.St):(op n s).1.deep=s.deep:=by
 by_cases h:isS s lbrc=true
 ·rw[Gr h];exact C9 n n s
 ·rw[op_rest (by simpa using h),F6,next_deep]
theorem FZ {s b c:Rd.St} (k:Ok b c) (hb:b.err≠0∨b.rest.length<s.rest.length):c.err≠0∨c.rest.length<s.rest.length:=by
 rcases hb with hb|hb
 ·left;rw[k.err hb];exact hb
 ·right;exact Nat.lt_of_le_of_lt k.len hb
theorem F5 {s:Rd.St} {ws:List (List UInt8)} (h:isW s ws=true):(next s).err≠0∨(next s).rest.length<s.rest.length:=by
 unfold isW isN at h;simp only[Bool.and_eq_true,decide_eq_true_eq]at h;exact .inr (DK h.1.1 (by omega)).1
theorem Js (n:Nat) (s:Rd.St) (h:isS s lbrc=true∨isW s kinds=true):(op n s).1.err≠0∨(op n s).1.rest.length<s.rest.length:=by
 by_cases hs:isS s lbrc=true
 ·rw[Gr hs];exact FZ ((Cr rbrc _ (ok_sel n n) _ _).trans (EF rbrc _)) (down_less lbrc s)
 ·rw[op_rest (by simpa using hs)];exact FZ (Ey n _ _ _) (F5 (h.resolve_left hs))
theorem De (n:Nat) (s:Rd.St):Ok (next s) (frag n s).1:=by
 unfold frag
 dsimp only
 have o:Ok (next s) (if isW (but (next s)).1 [sOn]=true then (but (next s)).1 else wrong (but (next s)).1):=by
  split
  ·exact ok_but _
  ·exact (ok_but _).trans (ok_wrong _)
 exact (((o.trans (ok_next _)).trans (ok_name _)).trans (ok_dirs n _)).trans (FL n n _)
theorem KL (n:Nat) (s:Rd.St):Ok s (frag n s).1:=(ok_next s).trans (De n s)
theorem IJ (n:Nat) (s:Rd.St):(frag n s).1.deep=s.deep:=by
 have o:(if isW (but (next s)).1 [sOn]=true then (but (next s)).1 else wrong (but (next s)).1).deep=s.deep:=by
  split
  ·rw[but_deep,next_deep]
  ·rw[wrong_deep,but_deep,next_deep]
 show (sels n n _).1.deep=_;rw[C9,dirs_deep,name_deep,next_deep,o]
theorem IH (n:Nat) (s:Rd.St) (h:isW s [sFrag]=true):(frag n s).1.err≠0∨(frag n s).1.rest.length<s.rest.length:=FZ (De n s) (F5 h)
theorem ok_step (n:Nat) (s:Rd.St) (d:List Op×List Fr):Ok s (step n s d).1:=by
 unfold step;split
 ·exact KL n s
 split
 ·exact LR n s
 ·exact ok_wrong s
theorem step_deep (n:Nat) (s:Rd.St) (d:List Op×List Fr):(step n s d).1.deep=s.deep:=by
 unfold step;split
 ·exact IJ n s
 split
 ·exact J8 n s
 ·exact wrong_deep s
theorem step_goes (n:Nat) (s:Rd.St) (d:List Op×List Fr):(step n s d).1.err≠0∨(step n s d).1.rest.length<s.rest.length:=by
 unfold step;split
 ·rename_i h;exact IH n s h
 split
 ·rename_i h;exact Js n s (by simpa using h)
 ·exact .inl Bg
theorem go_err (n:Nat) (ff:Bool):∀(k:Nat) (s:Rd.St) (d:List Op×List Fr),s.err≠0→go n ff k s d=(s,d)
 | 0,s,d,_=>by unfold go;rfl
 | k+1,s,d,h=>by unfold go;rw[if_neg (λx=>h x.1)]
end Qr
end Go.Proofs.YtedeapbonbbacaaGreatDoor
