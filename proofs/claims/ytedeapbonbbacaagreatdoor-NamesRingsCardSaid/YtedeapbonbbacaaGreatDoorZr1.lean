/-
  Problems, in order and each once: plainly. Names: operations, fragments and spreads, plainly.
-/
open List renaming mem_cons_self → QP, mem_cons_of_mem → QT, mem_append → ZJ, mem_cons → ZY
namespace Go.Proofs.YtedeapbonbbacaaGreatDoor
set_option linter.unusedSimpArgs false
set_option linter.unusedVariables false
namespace Cp
abbrev Pb:=Int×Int
def lt (p q:Pb):Bool:=decide (p.2<q.2)||(decide (p.2=q.2)&&decide (p.1<q.1))
theorem lt_iff (p q:Pb):lt p q=true↔p.2<q.2∨(p.2=q.2∧p.1<q.1):=by simp[lt]
theorem lt_irrefl (p:Pb):lt p p=false:=by
 rw[← Bool.not_eq_true,lt_iff];omega
theorem lt_trans {p q r:Pb} (h:lt p q=true) (h':lt q r=true):lt p r=true:=by
 rw[lt_iff]at *;omega
theorem lt_total (p q:Pb):lt p q=true∨p=q∨lt q p=true:=by
 rw[lt_iff,lt_iff,Prod.ext_iff];omega
theorem lt_asymm {p q:Pb} (h:lt p q=true):lt q p=false:=by
 rw[← Bool.not_eq_true];intro h';have:=lt_trans h h';rw[lt_irrefl]at this;cases this
def ins (p:Pb):List Pb→List Pb
 | []=>[p]
 | x::r=>if lt p x then p::x::r else x::ins p r
def put (l:List Pb) (p:Pb):List Pb:=if p∈l then l else ins p l
def sorted (l:List Pb):List Pb:=l.foldl put []
def comp:List Pb→List Pb
 | []=>[]
 | [x]=>[x]
 | x::y::r=>if x=y then comp (y::r) else x::comp (y::r)
def Str (l:List Pb):Prop:=l.Pairwise λx y=>lt x y=true
theorem Fh (p x:Pb):∀l,x∈ins p l↔x=p∨x∈l
 | []=>by simp[ins]
 | y::r=>by
  unfold ins;split
  ·simp
  ·simp[Fh p x r];grind
theorem Hi (p:Pb):∀l,Str l→p ∉ l→Str (ins p l)
 | [],_,_=>by simp[ins,Str]
 | y::r,h,hn=>by
  have o:=List.pairwise_cons.1 h;unfold ins;split
  ·rename_i hl;exact List.pairwise_cons.2 ⟨λz hz=>by
    rcases ZY.1 hz with rfl|hz
    ·exact hl
    ·exact lt_trans hl (o.1 z hz),h⟩
  ·rename_i hl;refine List.pairwise_cons.2 ⟨λz hz=>?_,Hi p r o.2 (λhm=>hn (QT _ hm))⟩;rcases (Fh p z r).1 hz with rfl|hz
   ·rcases lt_total y z with h1|h1|h1
    ·exact h1
    ·exact absurd (h1▸QP) hn
    ·exact absurd h1 hl
   ·exact o.1 z hz
theorem KU (l:List Pb) (p x:Pb):x∈put l p↔x∈l∨x=p:=by
 unfold put;split
 ·rename_i h;exact⟨.inl,λh'=>h'.elim id (λe=>e▸h)⟩
 ·rw[Fh];exact or_comm
theorem Jw (l:List Pb) (p:Pb) (h:Str l):Str (put l p):=by
 unfold put;split
 ·exact h
 ·rename_i hn;exact Hi p l h hn
theorem Eg (l:List Pb):∀acc,Str acc→Str (l.foldl put acc)∧∀x,x∈l.foldl put acc↔x∈acc∨x∈l:=by
 induction l with
 | nil=>intro acc h;exact⟨h,λx=>by simp⟩
 | cons y r ih =>
  intro acc h;have:=ih (put acc y) (Jw acc y h);refine⟨this.1,λx=>?_⟩;rw[List.foldl_cons,this.2,KU,ZY,or_assoc]
theorem Ge (l:List Pb):Str (sorted l):=(Eg l [] List.Pairwise.nil).1
theorem mem_sorted (l:List Pb) (x:Pb):x∈sorted l↔x∈l:=by
 rw[sorted,(Eg l [] List.Pairwise.nil).2];simp
theorem EW:∀(l:List Pb) (x:Pb),x∈comp l↔x∈l
 | [],_=>by simp[comp]
 | [y],_=>by simp[comp]
 | y::z::r,x=>by
  unfold comp;have o:=EW (z::r) x;split
  ·rename_i e;rw[o,e];simp
  ·rw[ZY,o,ZY (a:=x) (b:=y)]
theorem GV:∀l:List Pb,(l.Pairwise λx y=>lt y x=false)→Str (comp l)
 | [],_=>by simp[comp,Str]
 | [y],_=>by simp[comp,Str]
 | y::z::r,h=>by
  have A:=List.pairwise_cons.1 h;have B:=GV (z::r) A.2;unfold comp;split
  ·exact B
  ·rename_i hn;have C:=List.pairwise_cons.1 A.2;have o:lt y z=true:=by
    rcases lt_total y z with h1|h1|h1
    ·exact h1
    ·exact absurd h1 hn
    ·rw[A.1 z QP]at h1;cases h1
   refine List.pairwise_cons.2 ⟨λx hx=>?_,B⟩;have hx:=(EW _ _).1 hx;rcases ZY.1 hx with rfl|hx
   ·exact o
   ·rcases lt_total z x with h1|h1|h1
    ·exact lt_trans o h1
    ·exact h1▸o
    ·rw[C.1 x hx]at h1;cases h1
theorem D7:∀a b:List Pb,Str a→Str b→(∀x,x∈a↔x∈b)→a=b
 | [],[],_,_,_=>rfl
 | [],y::r,_,_,h=>by have:=(h y).2 QP;cases this
 | y::r,[],_,_,h=>by have:=(h y).1 QP;cases this
 | x::r,y::s,ha,hb,h=>by
  have A:=List.pairwise_cons.1 ha;have o:=List.pairwise_cons.1 hb;have B:x=y:=by
   rcases ZY.1 ((h x).1 QP) with e|hx
   ·exact e
   ·rcases ZY.1 ((h y).2 QP) with e|hy
    ·exact e.symm
    ·have D:=A.1 y hy;have C:=o.1 x hx;rw[lt_asymm D]at C;cases C
  subst B;rw[D7 r s A.2 o.2 λz=>?_];constructor
  ·intro hz;rcases ZY.1 ((h z).1 (QT _ hz)) with e|hz'
   ·have:=A.1 z hz;rw[e,lt_irrefl]at this;cases this
   ·exact hz'
  ·intro hz;rcases ZY.1 ((h z).2 (QT _ hz)) with e|hz'
   ·have:=o.1 z hz;rw[e,lt_irrefl]at this;cases this
   ·exact hz'
theorem comp_sorted (l d:List Pb) (hm:∀x,x∈d↔x∈l) (hs:d.Pairwise λx y=>lt y x=false):comp d=sorted l :=
 D7 _ _ (GV d hs) (Ge l) λx=>by rw[EW,hm,mem_sorted]
theorem Cb:∀(l:List Pb) (x:Pb),comp (l++[x])=if l.getLast?=some x then comp l else comp l++[x]
 | [],x=>by simp[comp]
 | [y],x=>by
  by_cases e:y=x
  ·simp[comp,e]
  ·simp[comp,e]
 | y::z::r,x=>by
  have B:=Cb (z::r) x;have A:(y::z::r).getLast?=(z::r).getLast?:=by simp[List.getLast?_cons]
  rw[A,List.cons_append];show comp (y::(z::r++[x]))=_;have C:comp (y::(z::r++[x]))=if y=z then comp (z::r++[x]) else y::comp (z::r++[x]):=rfl
  have o:comp (y::z::r)=if y=z then comp (z::r) else y::comp (z::r):=rfl
  rw[C,o,B];by_cases e:y=z
  ·simp only[if_pos e]
  ·simp only[if_neg e];split
   ·rfl
   ·rfl
theorem comp_same:∀l:List Pb,(∀(i:Nat) x y,l[i]?=some x→l[i+1]?=some y→x≠y)→comp l=l
 | [],_=>rfl
 | [y],_=>rfl
 | y::z::r,h=>by
  unfold comp;rw[if_neg (h 0 y z rfl rfl),comp_same (z::r) λi a b ha hb=>h (i+1) a b (by simpa using ha) (by simpa using hb)]
end Cp
namespace Nq
abbrev Sp:=List UInt8×Int
structure It where
 name:List UInt8
 at_:Int
 sp:List Sp
def idx (fs:List It) (n:List UInt8):Option Nat:=fs.findIdx? (λf=>decide (f.name=n))
def frag (fs:List It) (n:List UInt8):Option It:=fs.find? (λf=>decide (f.name=n))
def DD (seen:List (List UInt8)):List It→Nat
 | []=>0
 | f::r=>(if f.name∈seen then 0 else f.sp.length)+DD seen r
def go (fs:List It):Nat→List (List UInt8)→List (List UInt8)→List (List UInt8)
 | 0,seen,_=>seen
 | _+1,seen,[]=>seen
 | k+1,seen,n::r=>match frag fs n with
  | none=>go fs k seen r
  | some f=>if n∈seen then go fs k seen r else go fs k (seen++[n]) (r++f.sp.map Prod.fst)
def fuel (fs:List It) (seen next:List (List UInt8)):Nat:=next.length+DD seen fs
def reach (fs:List It) (l:List Sp):List (List UInt8):=go fs (fuel fs [] (l.map Prod.fst)) [] (l.map Prod.fst)
theorem IV {fs:List It} {n:List UInt8} {f:It} (h:frag fs n=some f):f.name=n:=by
 have:=List.find?_some h;exact of_decide_eq_true this
theorem JQ {fs:List It} {n:List UInt8} {f:It} (h:frag fs n=some f):f∈fs:=List.mem_of_find?_eq_some h
theorem E8 (seen:List (List UInt8)) (n:List UInt8):∀fs:List It,DD (seen++[n]) fs≤DD seen fs
 | []=>Nat.le_refl _
 | f::r=>by
  have:=E8 seen n r;rw[DD,DD];by_cases h:f.name∈seen
  ·rw[if_pos h,if_pos (ZJ.2 (.inl h))];omega
  ·rw[if_neg h];by_cases h2:f.name∈seen++[n]
   ·rw[if_pos h2];omega
   ·rw[if_neg h2];omega
theorem GA {seen:List (List UInt8)} {n:List UInt8} (hn:n ∉ seen) {f:It} (hf:f.name=n):∀{fs:List It},f∈fs→DD (seen++[n]) fs+f.sp.length≤DD seen fs
 | g::r,h=>by
  rw[DD,DD];rcases ZY.1 h with rfl|h
  ·have:=E8 seen n r;rw[if_pos (ZJ.2 (.inr (by rw[hf];exact List.mem_singleton.2 rfl))),if_neg (by rw[hf];exact hn)];omega
  ·have:=GA hn hf h;by_cases h1:g.name∈seen
   ·rw[if_pos h1,if_pos (ZJ.2 (.inl h1))];omega
   ·rw[if_neg h1];by_cases h2:g.name∈seen++[n]
    ·rw[if_pos h2];omega
    ·rw[if_neg h2];omega
theorem fuel_skip (fs:List It) (seen:List (List UInt8)) (n:List UInt8) (r:List (List UInt8)):fuel fs seen (n::r)=fuel fs seen r+1:=by
 unfold fuel;rw[List.length_cons];omega
theorem fuel_new {fs:List It} {seen r:List (List UInt8)} {n:List UInt8} {f:It} (h:frag fs n=some f) (hn:n ∉ seen) :
  fuel fs (seen++[n]) (r++f.sp.map Prod.fst)+1≤fuel fs seen (n::r):=by
 have:=GA hn (IV h) (JQ h);unfold fuel;rw[List.length_append,List.length_map,List.length_cons];omega
theorem go_more (fs:List It):∀(k:Nat) (seen next:List (List UInt8)) (j:Nat),fuel fs seen next≤k→k≤j→go fs j seen next=go fs k seen next
 | 0,seen,next,j,h,_=>by
  obtain rfl:next=[]:=List.eq_nil_of_length_eq_zero (by unfold fuel at h;omega);cases j with
  | zero=>rfl
  | succ j=>rw[go,go]
 | k+1,seen,[],j,_,h2=>by
  cases j with
  | zero=>omega
  | succ j=>rw[go,go]
 | k+1,seen,n::r,j,h,h2=>by
  cases j with
  | zero=>omega
  | succ j =>
   rw[go,go];have o:=fuel_skip fs seen n r;cases hf:frag fs n with
   | none=>exact go_more fs k seen r j (by omega) (by omega)
   | some f =>
    show (if n∈seen then _ else _)=(if n∈seen then _ else _);by_cases hn:n∈seen
    ·rw[if_pos hn,if_pos hn];exact go_more fs k seen r j (by omega) (by omega)
    ·have:=fuel_new (r:=r) hf hn;rw[if_neg hn,if_neg hn];exact go_more fs k _ _ j (by omega) (by omega)
def unk (fs:List It) (l:List Sp):List Cp.Pb:=l.flatMap λs=>if (idx fs s.1).isSome then [] else [(157,s.2)]
def opP (ops fs:List It) (i:Nat) (o:It):List Cp.Pb :=
 (if o.name=[]∨idx ops o.name=some i then [] else [(152,o.at_)])++((if o.name≠[]∨ops.length=1 then [] else [(153,o.at_)])++unk fs o.sp)
def used (fs ops:List It):List (List UInt8):=ops.flatMap λo=>reach fs o.sp
def frP (us:List (List UInt8)) (fs:List It) (i:Nat) (f:It):List Cp.Pb :=
 (if idx fs f.name=some i then [] else [(154,f.at_)])++((if idx fs f.name=some i∧f.name∈us then [] else [(155,f.at_)]) ++
  ((if idx fs f.name=some i→f.name ∉ reach fs f.sp then [] else [(156,f.at_)])++unk fs f.sp))
def opsP (ops fs:List It):Nat→List It→List Cp.Pb
 | _,[]=>[]
 | i,o::r=>opP ops fs i o++opsP ops fs (i+1) r
def frsP (us:List (List UInt8)) (fs:List It):Nat→List It→List Cp.Pb
 | _,[]=>[]
 | i,f::r=>frP us fs i f++frsP us fs (i+1) r
def problems (ops fs:List It):List Cp.Pb :=
 (if 0<ops.length then [] else [(151,0)])++(opsP ops fs 0 ops++frsP (used fs ops) fs 0 fs)
end Nq
end Go.Proofs.YtedeapbonbbacaaGreatDoor
