/-
  Types' texts, what is asked of them, how much is put at most; their words (plain). The words of types' texts: what they are as a text, as tokens, and read (plain). The words of documents: what they are as a text (plain). Documents of one text are the same, and the same ones have one text (plain).
-/
import Derived.Test.YtefjgpkpplkkgaaGreatDoorZo25
import Derived.Test.YtefjgpkpplkkgaaGreatDoorZo5
open Bool renaming and_eq_true → ZF
open List renaming length_cons → QO, append_assoc → ZJ, all_eq_true → ZP, append_nil → ZR, nil_append → ZS, eq_nil_of_length_eq_zero → JB
namespace Go.Proofs.YtefjgpkpplkkgaaGreatDoor
set_option linter.unusedSimpArgs false
set_option linter.unusedVariables false
namespace Ts
structure Fd where
 name:List UInt8
 args:List Dq.Var
 type:List UInt8
 at_:Int
structure Td where
 kind:Int
 name:List UInt8
 impl:List (List UInt8)
 fields:List Fd
 members:List (List UInt8)
 inputs:List Dq.Var
 at_:Int
def Fd.d (x:Fd):D:=.obj [.str x.name,.seq 9 (x.args.map Dq.Var.d),.str x.type,.int x.at_]
def Td.d (x:Td):D:=.obj [.int x.kind,.str x.name,.seq 1 (x.impl.map D.str),.seq 4 (x.fields.map Fd.d),.seq 1 (x.members.map D.str),.seq 9 (x.inputs.map Dq.Var.d),.int x.at_]
def inT (x:Dq.Var):List UInt8:=x.name++([58,32]++(x.type++Dq.gvT x.has x.dflt))
def Lt (l:List Dq.Var):List UInt8:=if l.length=0 then [] else [40]++(Vl.joinT inT [44,32] true l++[41])
def fdG (x:Fd):Bool:=Lx.isName x.name&&(x.args.all Dq.varG&&Dq.kindOk x.type)
def fdT (x:Fd):List UInt8:=x.name++(Lt x.args++([58,32]++x.type))
def idT (n:List UInt8):List UInt8:=n
def Io (m:List UInt8) (l:List (List UInt8)):List UInt8:=Vl.joinT idT m true l
def word (k:Int):List UInt8:=if k=1 then [115,99,97,108,97,114,32] else if k=2 then [116,121,112,101,32] else if k=3 then [105,110,116,101,114,102,97,99,101,32] else if k=4 then [117,110,105,111,110,32] else if k=5 then [101,110,117,109,32] else [105,110,112,117,116,32]
def sImpl:List UInt8:=[32,105,109,112,108,101,109,101,110,116,115,32]
def N3 (x:Td):Bool:=((decide (x.kind=2)||decide (x.kind=3))||(decide (x.impl.length=0)&&decide (x.fields.length=0)))&&(((decide (x.kind=4)||decide (x.kind=5))||decide (x.members.length=0))&&(decide (x.kind=6)||decide (x.inputs.length=0)))
def Og (s:List UInt8):Bool:=decide (s≠Rd.sTrue)&&(decide (s≠Rd.sFalse)&&decide (s≠Rd.sNull))
def P9 (k:Int) (l:List (List UInt8)):Bool:=l.all Lx.isName&&(if k=4 then true else l.all Og)
def Pi (l:List (List UInt8)):List UInt8:=if l.length=0 then [] else sImpl++Io [32,38,32] l
def Jr (l:List Fd):List UInt8:=if l.length=0 then [] else [32,123]++(Vl.joinT fdT [32] true l++[125])
def Qg (k:Int) (l:List (List UInt8)):List UInt8:=if l.length=0 then [] else if k=4 then [32,61,32]++Io [32,124,32] l else [32,123]++(Io [32] l++[125])
def Ju (l:List Dq.Var):List UInt8:=if l.length=0 then [] else [32,123]++(Vl.joinT inT [32] true l++[125])
def tdG (x:Td):Bool:=((decide (1≤x.kind)&&decide (x.kind≤6))&&N3 x)&&(Lx.isName x.name&&(x.impl.all Lx.isName&&(x.fields.all fdG&&(P9 x.kind x.members&&x.inputs.all Dq.varG))))
def tdT (x:Td):List UInt8:=word x.kind++(x.name++(Pi x.impl++(Jr x.fields++(Qg x.kind x.members++(Ju x.inputs++[10])))))
def goods (l:List Td):Bool:=decide (0<l.length)&&l.all tdG
def txt (l:List Td):List UInt8:=l.flatMap tdT
-- The same, but for places.
def E7 (x y:Dq.Var):Bool:=(decide (x.name=y.name)&&decide (x.type=y.type))&&(decide (x.has=y.has)&&x.dflt.same y.dflt)
def sameL {α:Type} (f:α→α→Bool):List α→List α→Bool
 | [],[]=>true
 | x::r,y::q=>f x y&&sameL f r q
 | [],_::_=>false
 | _::_,[]=>false
def Ha (x y:Fd):Bool:=(decide (x.name=y.name)&&decide (x.type=y.type))&&sameL E7 x.args y.args
def Jl (x y:Td):Bool:=(decide (x.kind=y.kind)&&decide (x.name=y.name))&&((decide (x.impl=y.impl)&&decide (x.members=y.members))&&(sameL E7 x.inputs y.inputs&&sameL Ha x.fields y.fields))
theorem BP {α:Type} {f:α→α→Bool}:∀{a b:List α},sameL f a b=true→a.length=b.length
 | [],[],_=>rfl
 | x::r,y::q,h=>by
  rw[sameL,ZF]at h;rw[QO,QO,BP h.2]
 | [],_::_,h=>by cases h
 | _::_,[],h=>by cases h
theorem Cu {α:Type} {f:α→α→Bool} {t:α→List UInt8} (m:List UInt8):∀{a b:List α} (c:Bool),(∀x y,f x y=true→t x=t y)→sameL f a b=true→Vl.joinT t m c a=Vl.joinT t m c b
 | [],[],_,_,_=>rfl
 | x::r,y::q,c,hf,h=>by
  rw[sameL,ZF]at h;rw[Vl.joinT,Vl.joinT,hf x y h.1,Cu m false hf h.2]
 | [],_::_,_,_,h=>by cases h
 | _::_,[],_,_,h=>by cases h
theorem LA {x y:Dq.Var} (h:E7 x y=true):x.name=y.name∧x.type=y.type∧x.has=y.has∧x.dflt.same y.dflt=true:=by
 unfold E7 at h;simp only[ZF,decide_eq_true_eq]at h;exact⟨h.1.1,h.1.2,h.2.1,h.2.2⟩
theorem IK (x y:Dq.Var) (h:E7 x y=true):inT x=inT y:=by
 obtain⟨B,A,C,o⟩:=LA h;unfold inT Dq.gvT;rw[B,A,C,(Vl.same_str _ _ o).1]
theorem Kc {x y:Fd} (h:Ha x y=true):x.name=y.name∧x.type=y.type∧sameL E7 x.args y.args=true:=by
 unfold Ha at h;simp only[ZF,decide_eq_true_eq]at h;exact⟨h.1.1,h.1.2,h.2⟩
theorem Lo (x y:Fd) (h:Ha x y=true):fdT x=fdT y:=by
 obtain⟨B,A,o⟩:=Kc h;unfold fdT Lt;rw[B,A,Cu _ true IK o,BP o]
theorem Kp {x y:Td} (h:Jl x y=true):x.kind=y.kind∧x.name=y.name∧x.impl=y.impl∧x.members=y.members∧sameL E7 x.inputs y.inputs=true∧sameL Ha x.fields y.fields=true:=by
 unfold Jl at h;simp only[ZF,decide_eq_true_eq]at h;exact⟨h.1.1,h.1.2,h.2.1.1,h.2.1.2,h.2.2.1,h.2.2.2⟩
theorem Ma (x y:Td) (h:Jl x y=true):tdT x=tdT y:=by
 obtain⟨B,D,E,C,A,o⟩:=Kp h;unfold tdT Jr Ju;rw[B,D,E,C,Cu _ true IK A,Cu _ true Lo o,BP A,BP o]
theorem txt_same:∀{a b:List Td},sameL Jl a b=true→txt a=txt b
 | [],[],_=>rfl
 | x::r,y::q,h=>by
  rw[sameL,ZF]at h;have:=txt_same h.2;unfold txt at this ⊢;rw[List.flatMap_cons,List.flatMap_cons,Ma x y h.1,this]
 | [],_::_,h=>by cases h
 | _::_,[],h=>by cases h
end Ts
namespace Vl
def AQ {α:Type} (f:List UInt8→α→List Lx.Wd) (m:List UInt8):Bool→List α→List Lx.Wd
 | _,[]=>[]
 | b,x::r=>f (if b then [] else m) x++AQ f m false r
theorem flat_joinW {α:Type} {f:List UInt8→α→List Lx.Wd} {t:α→List UInt8} {m:List UInt8}:∀(b:Bool) (l:List α),(∀x∈l,∀g,Lx.flat (f g x)=g++t x)→Lx.flat (AQ f m b l)=joinT t m b l
 | _,[],_=>rfl
 | b,x::r,h=>by
  rw[AQ,joinT,Lx.flat_app,h x (by simp),flat_joinW false r (λy hy=>h y (by simp[hy])),ZJ]
def Bl (g:List UInt8):Prop:=∀c∈g,Lx.isBlank c=true
theorem stand_joinW {α:Type} {f:List UInt8→α→List Lx.Wd} {t:α→List UInt8} {c0:UInt8} {m:List UInt8} (hm:Bl (c0::m)) (hc:Lx.neuB c0=true):∀(b:Bool) (l:List α) (e:List UInt8),(∀x∈l,∀g,Lx.flat (f g x)=g++t x)→(∀x∈l,∀g e',Bl g→Lx.Neu e'→Lx.StandAll (f g x) e')→Lx.Neu e→Lx.StandAll (AQ f (c0::m) b l) e
 | _,[],_,_,_,_=>trivial
 | b,x::r,e,h,hs,he=>by
  rw[AQ];refine Lx.standAll_app (hs x (by simp) _ _ ?_ ?_) (stand_joinW hm hc false r e (λy hy=>h y (by simp[hy])) (λy hy=>hs y (by simp[hy])) he)
  ·cases b
   ·exact hm
   ·intro c hc';simp at hc'
  ·cases r with
   | nil=>exact he
   | cons y q =>
    rw[AQ,Lx.flat_app,h y (by simp),ZJ,ZJ];exact Lx.neu_cons _ _ hc
def Rel {α β:Type} (R:β→α→Prop):List β→List α→Prop
 | [],[]=>True
 | v::vs,x::l=>R v x∧Rel R vs l
 | [],_::_=>False
 | _::_,[]=>False
noncomputable def CZ (t:List UInt8):Ty:=open Classical in if h:∃ty:Ty,ty.ok 0∧ty.str=t then h.choose else .nm t false
theorem tyOf_ok {t:List UInt8} (h:tyOk t=true):(CZ t).ok 0∧(CZ t).str=t:=by
 have h:=Pq h;unfold CZ;rw[dif_pos h];exact h.choose_spec
end Vl
namespace Ts
open Vl (AQ Bl At kts Rel Dw CZ)
def nw (g t:List UInt8):Lx.Wd:=⟨g,1,t,t⟩
def sw (g t:List UInt8):Lx.Wd:=⟨g,5,t,t⟩
def dfW (has:Bool) (v:Vl.Z):List Lx.Wd:=if has then sw [32] [61]::v.wds [32] else []
section
variable {x : Dq.Var} {g e : List UInt8}
theorem varG_out (h:Dq.varG x=true):Lx.isName x.name=true∧Vl.tyOk x.type=true∧(x.has=true→x.dflt.good 0=true∧x.dflt.nov=true)∧(x.has=false→x.dflt.same Dq.zero=true):=by
 unfold Dq.varG Dq.gvG at h;simp only[ZF]at h;refine⟨h.1,h.2.1,λe=>?_,λe=>?_⟩
 ·have:=h.2.2;rw[e]at this;simpa using this
 ·have:=h.2.2;rw[e]at this;simpa using this
theorem flat_df (has:Bool) (v:Vl.Z):Lx.flat (dfW has v)=Dq.gvT has v:=by
 unfold dfW Dq.gvT;cases has
 ·rfl
 ·show [32]++([61]++Lx.flat (v.wds [32]))=_;rw[Vl.flat_wds];rfl
theorem bl1 (c:UInt8) (h:Lx.isBlank c=true):Bl [c]:=λd hd=>by obtain rfl:=List.mem_singleton.1 hd;exact h
theorem C7:Bl [32]:=bl1 32 (by decide)
theorem bl0:Bl []:=λd hd=>by cases hd
theorem Oh:Bl [44,32]:=λd hd=>by
 rcases List.mem_cons.1 hd with rfl|hd
 ·decide
 ·obtain rfl:=List.mem_singleton.1 hd;decide
theorem Bv {t:List UInt8} (hg:Bl g) (h:Lx.isName t=true) (he:Lx.Neu e):Lx.StandsW (nw g t) e:=Vl.st_name hg h he
theorem Bu {c:UInt8} (hg:Bl g) (h:Lx.signs.contains c=true):Lx.StandsW (sw g [c]) e:=Lx.stands_sign g hg h e
theorem stand_df {has:Bool} {v:Vl.Z} (h:has=true→v.good 0=true) (he:Lx.Neu e):Lx.StandAll (dfW has v) e:=by
 unfold dfW;cases has
 ·trivial
 ·exact⟨Bu C7 (by decide),Vl.stand_wds v [32] e 0 C7 (h rfl) he⟩
end
theorem bl10:Bl [10]:=bl1 10 (by decide)
end Ts
namespace Dq
open Vl (AQ Bl kts CZ)
open Ts (nw sw dfW Bv Bu bl0 C7 Oh bl10)
def A9 (l:List Vl.ZA):List Lx.Wd:=if l.length=0 then [] else sw [] [40]::(AQ Vl.ZA.wds [44,32] true l++[sw [] [41]])
def JW (x:Dir):List Lx.Wd:=sw [32] [64]::nw [] x.name::A9 x.args
def AP (l:List Dir):List Lx.Wd:=l.flatMap JW
def DV:List UInt8:=[46,46,46]
def on_:List UInt8:=[111,110]
mutual
def Sel.wds:List UInt8→Sel→List Lx.Wd
 | g,.mk k al n a d s _ =>
  if k=1 then (if al=[] then [nw g n] else [nw g al,sw [] [58],nw [32] n])++(A9 a++(AP d++(if s.length=0 then [] else sw [32] [123]::(Sel.wdss true s++[sw [] [125]]))))
  else if k=2 then sw g DV::nw [] n::AP d
  else if k=3 then sw g DV::((if n=[] then [] else [nw [32] on_,nw [32] n])++(AP d++(if s.length=0 then [] else sw [32] [123]::(Sel.wdss true s++[sw [] [125]]))))
  else []
def Sel.wdss:Bool→List Sel→List Lx.Wd
 | _,[]=>[]
 | b,x::r=>Sel.wds (if b then [] else [32]) x++Sel.wdss false r
end
def AY (s:List Sel):List Lx.Wd:=if s.length=0 then [] else sw [32] [123]::(Sel.wdss true s++[sw [] [125]])
theorem Sel.wds_eq (g:List UInt8) (x:Sel):x.wds g=if x.kind=1 then (if x.nick=[] then [nw g x.name] else [nw g x.nick,sw [] [58],nw [32] x.name])++(A9 x.args++(AP x.dirs++AY x.sels))
  else if x.kind=2 then sw g DV::nw [] x.name::AP x.dirs
  else if x.kind=3 then sw g DV::((if x.name=[] then [] else [nw [32] on_,nw [32] x.name])++(AP x.dirs++AY x.sels))
  else []:=by cases x;rw[Sel.wds];rfl
noncomputable def C6 (g:List UInt8) (x:Var):List Lx.Wd:=sw g [36]::nw [] x.name::sw [] [58]::((CZ x.type).wds [32]++dfW x.has x.dflt)
noncomputable def Bt (l:List Var):List Lx.Wd:=if l.length=0 then [] else sw [] [40]::(AQ C6 [44,32] true l++[sw [] [41]])
def nmW (n:List UInt8):List Lx.Wd:=if n=[] then [] else [nw [32] n]
noncomputable def opW (g:List UInt8) (x:Op):List Lx.Wd:=nw g (word x.kind)::(nmW x.name++(Bt x.vars++(AP x.dirs++AY x.sels)))
def sFr:List UInt8:=[102,114,97,103,109,101,110,116]
def frW (g:List UInt8) (x:Fr):List Lx.Wd:=nw g sFr::nw [32] x.name::nw [32] on_::nw [32] x.on::(AP x.dirs++AY x.sels)
-- As texts.
theorem GC (l:List Vl.ZA):Lx.flat (A9 l)=argsT l:=by
 unfold A9 argsT;split
 ·rfl
 ·rw[Lx.flat,Lx.flat_app,Vl.flat_joinW (f:=Vl.ZA.wds) (t:=Vl.ZA.str) true l (λx _ g=>Vl.flat_wda x g)];rfl
theorem B7:∀l:List Dir,Lx.flat (AP l)=dirsT l
 | []=>rfl
 | x::r=>by
  have:=B7 r;unfold AP dirsT at this ⊢;rw[List.flatMap_cons,List.flatMap_cons,Lx.flat_app,this];unfold JW dirT;rw[Lx.flat,Lx.flat,GC];simp[sw,nw]
mutual
theorem Lu:∀(x:Sel) (g:List UInt8) (at_:Nat),x.good at_=true→Lx.flat (x.wds g)=g++x.txt
 | .mk k al n a d s p,g,at_,h=>by
  rw[Sel.good]at h;rw[Sel.wds,Sel.txt];by_cases h1:k=1
  ·rw[if_pos h1]at h;rw[if_pos h1,if_pos h1,Lx.flat_app,Lx.flat_app,Lx.flat_app,GC,B7];have A:Lx.flat (if s.length=0 then [] else sw [32] [123]::(Sel.wdss true s++[sw [] [125]]))=if s.length=0 then [] else [32]++([123]++(Sel.txts true s++[125])):=by
    by_cases o:s.length=0
    ·rw[if_pos o,if_pos o];rfl
    ·rw[if_neg o,if_neg o,Lx.flat,Lx.flat_app,C0 s true (at_+1) (by simp only[ZF,Bool.or_eq_true,decide_eq_true_eq]at h;rcases h.2.2.2.2 with h'|h';exact absurd h' o;exact h'.2)];rfl
   rw[A];unfold nmT;by_cases o:al=[]
   ·rw[if_pos o,if_pos o];simp[Lx.flat,nw]
   ·rw[if_neg o,if_neg o];simp[Lx.flat,nw,sw]
  rw[if_neg h1]at h;rw[if_neg h1,if_neg h1];by_cases h2:k=2
  ·rw[if_pos h2,if_pos h2,Lx.flat,Lx.flat,B7];simp[nw,sw,DV]
  rw[if_neg h2]at h;rw[if_neg h2,if_neg h2];by_cases h3:k=3
  ·rw[if_pos h3]at h;simp only[ZF,decide_eq_true_eq]at h;rw[if_pos h3,if_pos h3,Lx.flat,Lx.flat_app,Lx.flat_app,B7];have o:¬s.length=0:=by have:=h.1.2.2.1.1;omega
   rw[if_neg o,Lx.flat,Lx.flat_app,C0 s true (at_+1) h.1.2.2.2];unfold nmT;by_cases hn:n=[]
   ·rw[if_pos hn,if_pos hn];simp[Lx.flat,nw,sw,DV]
   ·rw[if_neg hn,if_neg hn];simp[Lx.flat,nw,sw,DV,on_]
  ·rw[if_neg h3]at h;cases h
theorem C0:∀(l:List Sel) (b:Bool) (at_:Nat),Sel.goods at_ l=true→Lx.flat (Sel.wdss b l)=Sel.txts b l
 | [],b,at_,h=>by rw[Sel.wdss,Sel.txts];rfl
 | x::r,b,at_,h=>by
  rw[Sel.goods,ZF]at h;rw[Sel.wdss,Sel.txts,Lx.flat_app,Lu x _ at_ h.1,C0 r false at_ h.2,ZJ]
end
theorem Hx {l:List Sel} {at_:Nat} (h:Sel.goods at_ l=true) (h0:l.length≠0):Lx.flat (AY l)=[32]++selsT l:=by
 unfold AY selsT;rw[if_neg h0,Lx.flat,Lx.flat_app,C0 l true at_ h];rfl
theorem IX {x:Var} (h:varG x=true) (g:List UInt8):Lx.flat (C6 g x)=g++varT x:=by
 have o:=(Vl.tyOf_ok (Ts.varG_out h).2.1).2;unfold C6 varT nw sw;rw[Lx.flat,Lx.flat,Lx.flat,Lx.flat_app,Vl.flat_tyw,Ts.flat_df,o];simp
theorem Kj {l:List Var} (h:l.all varG=true):Lx.flat (Bt l)=varsT l:=by
 unfold Bt varsT;split
 ·rfl
 ·rw[Lx.flat,Lx.flat_app,Vl.flat_joinW (f:=C6) (t:=varT) true l (λx hx g=>IX (ZP.1 h x hx) g)];rfl
theorem BC {at_:Nat} {l:List Sel} (h:selsG at_ l=true):l.length≠0∧at_<16∧Sel.goods (at_+1) l=true:=by
 unfold selsG at h;simp only[ZF,decide_eq_true_eq]at h;exact⟨by omega,h.1.2,h.2⟩
theorem Ei {x:Op} (h:opG x=true):(1≤x.kind∧x.kind≤3)∧nmG x.name=true∧x.vars.all varG=true∧dirsG 0 x.dirs=true∧selsG 0 x.sels=true:=by
 unfold opG at h;simp only[ZF,decide_eq_true_eq]at h;exact⟨h.1,h.2.1,h.2.2.1,h.2.2.2.1,h.2.2.2.2⟩
theorem Ej {x:Fr} (h:frG x=true):(Lx.isName x.name=true∧x.name≠on_)∧Lx.isName x.on=true∧dirsG 0 x.dirs=true∧selsG 0 x.sels=true:=by
 unfold frG at h;simp only[ZF,decide_eq_true_eq]at h;exact⟨h.1,h.2.1,h.2.2.1,h.2.2.2⟩
def opL (x:Op):List UInt8:=word x.kind++(nmT x.name [32] []++(varsT x.vars++(dirsT x.dirs++([32]++selsT x.sels))))
def frL (x:Fr):List UInt8:=sFr++([32]++(x.name++([32,111,110,32]++(x.on++(dirsT x.dirs++([32]++selsT x.sels))))))
theorem NR (x:Op):opT x=opL x++[10]:=by unfold opT opL;simp
theorem NH (x:Fr):frT x=frL x++[10]:=by unfold frT frL sFr;simp
theorem KH {x:Op} (h:opG x=true) (g:List UInt8):Lx.flat (opW g x)=g++opL x:=by
 obtain⟨D,F,C,E,B⟩:=Ei h;obtain⟨o,-,A⟩:=BC B;unfold opW opL nmW nmT;rw[Lx.flat,Lx.flat_app,Lx.flat_app,Lx.flat_app,Kj C,B7,Hx A o];by_cases hn:x.name=[]
 ·rw[if_pos hn,if_pos hn];simp[Lx.flat,nw]
 ·rw[if_neg hn,if_neg hn];simp[Lx.flat,nw]
theorem Gt {x:Fr} (h:frG x=true) (g:List UInt8):Lx.flat (frW g x)=g++frL x:=by
 obtain⟨C,D,E,B⟩:=Ej h;obtain⟨o,-,A⟩:=BC B;unfold frW frL;rw[Lx.flat,Lx.flat,Lx.flat,Lx.flat,Lx.flat_app,B7,Hx A o];simp[nw,on_]
-- They are tokens.
theorem ER {g:List UInt8} (hg:Bl g) (l:List UInt8):Lx.StandsW (sw g DV) l:=by
 refine⟨hg,by show Lx.stopB 46=true;decide,by simp[sw,DV],?_⟩;show Lx.token (46::46::46::l)=_;unfold Lx.token;rw[if_neg (by show ¬Lx.isLetter 46=true;decide),if_neg (by show ¬((46:UInt8).toNat=45∨Lx.isDigit 46=true);decide),if_neg (by simp[Lx.quotes3]),if_neg (by show ¬(46:UInt8).toNat=34;decide),if_pos (by simp[Lx.dots3])];rfl
theorem Eu {l:List Vl.ZA} {at_:Nat} {e:List UInt8} (h:argsG at_ l=true) (he:Lx.Neu e):Lx.StandAll (A9 l) e:=by
 unfold A9;split
 ·trivial
 ·refine⟨Bu bl0 (by decide),Lx.standAll_app (Vl.stand_joinW (f:=Vl.ZA.wds) (t:=Vl.ZA.str) Oh (by decide) true l _ (λx _ g=>Vl.flat_wda x g) (λx hx g e' hg he'=>Vl.stand_wda x g e' 0 hg ?_ he') (Lx.neu_cons 41 _ (by decide))) ⟨Bu bl0 (by decide),trivial⟩⟩;have:=ZP.1 h x hx;unfold argG at this;simp only[ZF]at this;cases x with
  | mk n v p=>rw[Vl.ZA.good,ZF];exact this.1
theorem Hy {l:List Vl.ZA} {e:List UInt8} (he:Lx.Neu e):Lx.Neu (Lx.flat (A9 l)++e):=by
 unfold A9;split
 ·exact he
 ·exact Lx.neu_cons 40 _ (by decide)
theorem CO {l:List Dir} {e:List UInt8} (he:Lx.Neu e):Lx.Neu (Lx.flat (AP l)++e):=by
 cases l with
 | nil=>exact he
 | cons x r=>exact Lx.neu_cons 32 _ (by decide)
theorem Bn {e:List UInt8} (he:Lx.Neu e) {at_:Nat}:∀{l:List Dir},dirsG at_ l=true→Lx.StandAll (AP l) e
 | [],_=>trivial
 | x::r,h=>by
  unfold dirsG at h;rw[List.all_cons,ZF]at h;have o:=h.1;unfold dirG at o;rw[ZF]at o;have B:Lx.StandAll (AP r) e:=Bn he (show dirsG at_ r=true from h.2);have A:Lx.Neu (Lx.flat (AP r)++e):=CO he;show Lx.StandAll (JW x++AP r) e;exact Lx.standAll_app ⟨Bu C7 (by decide),Bv bl0 o.1 (Hy A),Eu o.2 A⟩ B
theorem Ef {l:List Sel} {e:List UInt8} (he:Lx.Neu e):Lx.Neu (Lx.flat (AY l)++e):=by
 unfold AY;split
 ·exact he
 ·exact Lx.neu_cons 32 _ (by decide)
theorem IA {x:Sel} {r:List Sel} {e:List UInt8}:Lx.Neu (Lx.flat (Sel.wdss false (x::r))++e)∨Sel.wds [32] x=[]:=by
 rw[Sel.wdss,Lx.flat_app,Sel.wds_eq];by_cases h1:x.kind=1
 ·left
  rw[if_pos h1];by_cases h0:x.nick=[]
  ·rw[if_pos h0];exact Lx.neu_cons 32 _ (by decide)
  ·rw[if_neg h0];exact Lx.neu_cons 32 _ (by decide)
 rw[if_neg h1];by_cases h2:x.kind=2
 ·left;rw[if_pos h2];exact Lx.neu_cons 32 _ (by decide)
 rw[if_neg h2];by_cases h3:x.kind=3
 ·left;rw[if_pos h3];exact Lx.neu_cons 32 _ (by decide)
 ·right;rw[Sel.wds_eq,if_neg h1,if_neg h2,if_neg h3]
theorem Ga {n:List UInt8} (h:nmG n=true) (h0:n≠[]):Lx.isName n=true:=by
 unfold nmG at h
 simpa [h0] using h
mutual
theorem Kt:∀(x:Sel) (g e:List UInt8) (at_:Nat),x.good at_=true→Bl g→Lx.Neu e→Lx.StandAll (x.wds g) e
 | .mk k al n a d s p,g,e,at_,h,hg,he=>by
  rw[Sel.good]at h;rw[Sel.wds];by_cases h1:k=1
  ·rw[if_pos h1]at h ⊢;simp only[ZF]at h;obtain⟨g1,g2,F,D,G⟩:=h;have E:Lx.StandAll (AY s) e:=by
    unfold AY;by_cases h0:s.length=0
    ·rw[if_pos h0];trivial
    ·rw[if_neg h0];have C:Sel.goods (at_+1) s=true:=by simp only[ZF,Bool.or_eq_true,decide_eq_true_eq]at G;rcases G with h'|h';exact absurd h' h0;exact h'.2
     exact⟨Bu C7 (by decide),Lx.standAll_app (Ca s _ true (at_+1) C (Lx.neu_cons 125 _ (by decide))) ⟨Bu bl0 (by decide),trivial⟩⟩
   have A:Lx.Neu (Lx.flat (AY s)++e):=Ef he;have H:Lx.Neu (Lx.flat (AP d)++(Lx.flat (AY s)++e)):=CO A;have I:Lx.Neu (Lx.flat (A9 a)++(Lx.flat (AP d)++(Lx.flat (AY s)++e))):=Hy H;have o:Lx.StandAll (A9 a++(AP d++AY s)) e:=by
    refine Lx.standAll_app ?_ (Lx.standAll_app (Bn A D) E);rw[Lx.flat_app,ZJ];exact Eu F H
   have B:Lx.Neu (Lx.flat (A9 a++(AP d++AY s))++e):=by
    rw[Lx.flat_app,Lx.flat_app,ZJ,ZJ];exact I
   by_cases h0:al=[]
   ·rw[if_pos h0];exact Lx.standAll_app ⟨Bv hg g2 B,trivial⟩ o
   ·rw[if_neg h0];exact Lx.standAll_app ⟨Bv hg (Ga g1 h0) (Lx.neu_cons 58 _ (by decide)),Bu bl0 (by decide),Bv C7 g2 B,trivial⟩ o
  rw[if_neg h1]at h ⊢;by_cases h2:k=2
  ·rw[if_pos h2]at h ⊢;simp only[ZF,decide_eq_true_eq]at h;exact⟨ER hg _,Bv bl0 h.1.1 (CO he),Bn he h.1.2.2⟩
  rw[if_neg h2]at h ⊢;by_cases h3:k=3
  ·rw[if_pos h3]at h ⊢;simp only[ZF,decide_eq_true_eq]at h;obtain⟨⟨g1,g2,F,D⟩,-⟩:=h;have E:Lx.StandAll (AY s) e:=by
    unfold AY;by_cases h0:s.length=0
    ·rw[if_pos h0];trivial
    ·rw[if_neg h0];exact⟨Bu C7 (by decide),Lx.standAll_app (Ca s _ true (at_+1) D (Lx.neu_cons 125 _ (by decide))) ⟨Bu bl0 (by decide),trivial⟩⟩
   have A:Lx.Neu (Lx.flat (AY s)++e):=Ef he;have o:Lx.StandAll (AP d++AY s) e:=Lx.standAll_app (Bn A g2) E;have B:Lx.Neu (Lx.flat (AP d++AY s)++e):=by rw[Lx.flat_app,ZJ];exact CO A
   refine⟨ER hg _,?_⟩;by_cases h0:n=[]
   ·rw[if_pos h0];exact o
   ·rw[if_neg h0];exact Lx.standAll_app ⟨Bv C7 (by decide) (Lx.neu_cons 32 _ (by decide)),Bv C7 (Ga g1 h0) B,trivial⟩ o
  ·rw[if_neg h3]at h;cases h
theorem Ca:∀(l:List Sel) (e:List UInt8) (b:Bool) (at_:Nat),Sel.goods at_ l=true→Lx.Neu e→Lx.StandAll (Sel.wdss b l) e
 | [],e,b,at_,h,he=>by rw[Sel.wdss];trivial
 | x::r,e,b,at_,h,he=>by
  rw[Sel.goods,ZF]at h;rw[Sel.wdss];refine Lx.standAll_app (Kt x _ _ at_ h.1 (by cases b;exact C7;exact bl0) ?_) (Ca r e false at_ h.2 he);cases r with
  | nil=>rw[Sel.wdss];exact he
  | cons y q =>
   rw[Sel.goods,ZF]at h;rcases IA (x:=y) (r:=q) (e:=e) with h'|h'
   ·exact h'
   ·exfalso;have hg:=h.2.1;rw[Sel.good_eq]at hg;rw[Sel.wds_eq]at h';by_cases k1:y.kind=1
    ·rw[if_pos k1]at h';split at h'<;>simp at h'
    rw[if_neg k1]at h' hg;by_cases k2:y.kind=2
    ·rw[if_pos k2]at h';cases h'
    rw[if_neg k2]at h' hg;by_cases k3:y.kind=3
    ·rw[if_pos k3]at h';cases h'
    rw[if_neg k3]at hg;cases hg
end
theorem Fy {l:List Sel} {at_:Nat} (h:Sel.goods at_ l=true) (e:List UInt8):Lx.StandAll (AY l) e:=by
 unfold AY;split
 ·trivial
 ·exact⟨Bu C7 (by decide),Lx.standAll_app (Ca l _ true at_ h (Lx.neu_cons 125 _ (by decide))) ⟨Bu bl0 (by decide),trivial⟩⟩
theorem LC {x:Var} {g e:List UInt8} (h:varG x=true) (hg:Bl g) (he:Lx.Neu e):Lx.StandAll (C6 g x) e:=by
 obtain⟨A,o,B,-⟩:=Ts.varG_out h;unfold C6;refine⟨Bu hg (by decide),Bv bl0 A (Lx.neu_cons 58 _ (by decide)),Bu bl0 (by decide),Lx.standAll_app (Vl.stand_tyw _ [32] _ 0 C7 (Vl.tyOf_ok o).1 ?_) (Ts.stand_df (λe=>(B e).1) he)⟩;rw[Ts.flat_df];unfold gvT;cases x.has
 ·exact he.w
 ·show Lx.isWord 32=false;decide
theorem I9 {l:List Var} {e:List UInt8} (h:l.all varG=true):Lx.StandAll (Bt l) e:=by
 unfold Bt;split
 ·trivial
 ·exact⟨Bu bl0 (by decide),Lx.standAll_app (Vl.stand_joinW (f:=C6) (t:=varT) Oh (by decide) true l _ (λx hx g=>IX (ZP.1 h x hx) g) (λx hx g e' hg he'=>LC (ZP.1 h x hx) hg he') (Lx.neu_cons 41 _ (by decide))) ⟨Bu bl0 (by decide),trivial⟩⟩
theorem GH (k:Int):Lx.isName (word k)=true:=by
 unfold word
 repeat' split
 all_goals decide
theorem Ms {x:Op} {g e:List UInt8} (h:opG x=true) (hg:Bl g) (he:Lx.Neu e):Lx.StandAll (opW g x) e:=by
 obtain⟨J,F,H,E,D⟩:=Ei h;obtain⟨I,-,C⟩:=BC D;have o:Lx.Neu (Lx.flat (AY x.sels)++e):=Ef he;have G:Lx.Neu (Lx.flat (AP x.dirs++AY x.sels)++e):=by rw[Lx.flat_app,ZJ];exact CO o
 have B:Lx.Neu (Lx.flat (Bt x.vars++(AP x.dirs++AY x.sels))++e):=by
  rw[Lx.flat_app,ZJ];unfold Bt;split
  ·exact G
  ·exact Lx.neu_cons 40 _ (by decide)
 have A:Lx.StandAll (Bt x.vars++(AP x.dirs++AY x.sels)) e:=Lx.standAll_app (I9 H) (Lx.standAll_app (Bn o E) (Fy C e));unfold opW nmW;by_cases hn:x.name=[]
 ·rw[if_pos hn];exact⟨Bv hg (GH _) B,A⟩
 ·rw[if_neg hn];exact⟨Bv hg (GH _) (Lx.neu_cons 32 _ (by decide)),Bv C7 (Ga F hn) B,A⟩
theorem MC {x:Fr} {g e:List UInt8} (h:frG x=true) (hg:Bl g) (he:Lx.Neu e):Lx.StandAll (frW g x) e:=by
 obtain⟨A,D,F,C⟩:=Ej h;obtain⟨G,-,B⟩:=BC C;have o:Lx.Neu (Lx.flat (AY x.sels)++e):=Ef he;have E:Lx.Neu (Lx.flat (AP x.dirs++AY x.sels)++e):=by rw[Lx.flat_app,ZJ];exact CO o
 exact⟨Bv hg (by decide) (Lx.neu_cons 32 _ (by decide)),Bv C7 A.1 (Lx.neu_cons 32 _ (by decide)),Bv C7 (by decide) (Lx.neu_cons 32 _ (by decide)),Bv C7 D E,Lx.standAll_app (Bn o F) (Fy B e)⟩
end Dq
namespace Dq
open Vl (AQ Bl kts CZ At Dw)
open Ts (nw sw dfW)
abbrev K:=List (Nat×List UInt8)
def NS (S:List (List UInt8)) (u:K):Prop:=∀T r,u=(5,T)::r→T ∉ S
theorem ns5 {S:List (List UInt8)} {T:List UInt8} {r:K} (h:T ∉ S):NS S ((5,T)::r):=λT' r' e=>by
 simp only[List.cons.injEq,Prod.mk.injEq,true_and]at e;rw[← e.1];exact h
theorem ns1 {S:List (List UInt8)} {T:List UInt8} {r:K}:NS S ((1,T)::r):=λT' r' e=>by simp at e
theorem CE {S:List (List UInt8)} {u:K} (h:NS S u) {T:List UInt8} (hT:T∈S) (r:K):u≠(5,T)::r:=λe=>h T r e hT
theorem CC {S S':List (List UInt8)} {u:K} (h:NS S u) (hs:∀T∈S',T∈S):NS S' u:=λT r e hT=>h T r e (hs T hT)
theorem kn (g t:List UInt8) (r:List Lx.Wd):kts (nw g t::r)=(1,t)::kts r:=rfl
theorem ks (g t:List UInt8) (r:List Lx.Wd):kts (sw g t::r)=(5,t)::kts r:=rfl
def mk (u:K):List Lx.Tok:=u.map λp=>⟨p.1,p.2,0⟩
theorem OL (u:K):(mk u).map Rd.ktx=u:=by
 unfold mk;rw[List.map_map];have:(Rd.ktx∘λp:Nat×List UInt8=>(⟨p.1,p.2,0⟩:Lx.Tok))=id:=rfl;rw[this,List.map_id]
theorem L0 {s:Rd.St} {u v:K} (h1:At s u []) (h2:At s v []):u=v:=by
 obtain⟨a,o,k1⟩:=h1.is;obtain⟨b,A,B⟩:=h2.is;rw[ZR]at o A;rw[← k1,← B,← o,← A]
theorem Hp {v x y:Vl.Z} (h1:v.same x=true) (h2:v.same y=true):x.same y=true:=by rw[← Vl.same_cong v x y h1];exact h2
theorem OI {x y:Vl.Z} {g g':List UInt8} {u v:K} (hx:x.good 0=true) (hy:y.good 0=true) (e:kts (x.wds g)++u=kts (y.wds g')++v):x.same y=true∧u=v:=by
 have o:At ⟨mk (kts (x.wds g)++u),0,0,0⟩ (kts (x.wds g)++u) []:=⟨rfl,_,(ZR _).symm,OL _⟩
 have A:=o;rw[e]at A;obtain⟨B,C⟩:=Vl.value_at x 0 g false ((kts (x.wds g)).length+(kts (y.wds g')).length+1) _ u [] hx (λh=>by cases h) o rfl (by omega);rw[← e]at A;obtain⟨D,b2⟩:=Vl.value_at y 0 g' false ((kts (x.wds g)).length+(kts (y.wds g')).length+1) ⟨mk (kts (x.wds g)++u),0,0,0⟩ v [] hy (λh=>by cases h) (by rw[e]at o;rw[← e]at o;exact (e▸o)) rfl (by omega);exact⟨Hp C b2,L0 B D⟩
theorem Qc {s t:List UInt8} {g g':List UInt8} {u v:K} (hs:Vl.tyOk s=true) (ht:Vl.tyOk t=true) (hu:NS [[33]] u) (hv:NS [[33]] v) (e:kts ((CZ s).wds g)++u=kts ((CZ t).wds g')++v):s=t∧u=v:=by
 have A:∀{w:K},NS [[33]] w→Dw w []:=λ{w} hw s' hs'=>by
  cases w with
  | nil =>
   obtain⟨a,G,H⟩:=hs'.is;obtain rfl:a=[]:=by simpa using H
   unfold Rd.isS Rd.peek;rw[G];simp
  | cons p r =>
   obtain⟨k,T⟩:=p;rw[hs'.isS];by_cases hk:k=5
   ·subst hk;have:T≠[33]:=λe=>hw T r rfl (by rw[e];simp)
    have:T≠Rd.bang:=this;simp[this]
   ·simp[hk]
 have o:At ⟨mk (kts ((CZ s).wds g)++u),0,0,0⟩ (kts ((CZ s).wds g)++u) []:=⟨rfl,_,(ZR _).symm,OL _⟩
 obtain⟨E,C⟩:=Vl.tyOf_ok hs;obtain⟨D,F⟩:=Vl.tyOf_ok ht;obtain⟨B,I⟩:=Vl.type_at (CZ s) 0 g ((kts ((CZ s).wds g)).length+(kts ((CZ t).wds g')).length+1) _ u [] E o rfl (by omega) (A hu);obtain⟨J,b2⟩:=Vl.type_at (CZ t) 0 g' ((kts ((CZ s).wds g)).length+(kts ((CZ t).wds g')).length+1) ⟨mk (kts ((CZ s).wds g)++u),0,0,0⟩ v [] D (e▸o) rfl (by omega) (A hv);exact⟨by rw[← C,← F,← I,← b2],L0 B J⟩
theorem Iy {α:Type} {f:List UInt8→α→List Lx.Wd} {R:α→α→Bool} {G:α→Prop} {m c:List UInt8} (hp:∀x y,G x→G y→∀g g' u v,(∃z,u=(5,c)::z∨∃w h k,u=kts (f h w)++k∧G w)→(∃z,v=(5,c)::z∨∃w h k,v=kts (f h w)++k∧G w)→kts (f g x)++u=kts (f g' y)++v→R x y=true∧u=v)
  (hnc:∀x,G x→∀g u v,kts (f g x)++u≠(5,c)::v):∀(l1 l2:List α) (b b':Bool) (u v:K),(∀x∈l1,G x)→(∀y∈l2,G y)→kts (AQ f m b l1)++(5,c)::u=kts (AQ f m b' l2)++(5,c)::v→sameL R l1 l2=true∧u=v
 | [],[],b,b',u,v,h1,h2,e=>by
  have e:(5,c)::u=(5,c)::v:=e;exact⟨rfl,by simpa using e⟩
 | [],y::q,b,b',u,v,h1,h2,e=>by
  rw[AQ,AQ,Vl.kts_app,ZJ]at e;exact absurd e.symm (hnc y (h2 y (by simp)) _ _ _)
 | x::r,[],b,b',u,v,h1,h2,e=>by
  rw[AQ,AQ,Vl.kts_app,ZJ]at e;exact absurd e (hnc x (h1 x (by simp)) _ _ _)
 | x::r,y::q,b,b',u,v,h1,h2,e=>by
  rw[AQ,AQ,Vl.kts_app,Vl.kts_app,ZJ,ZJ]at e;have F:∀(l:List α) (k:K),(∀z∈l,G z)→∃z,kts (AQ f m false l)++(5,c)::k=(5,c)::z∨∃w h k',kts (AQ f m false l)++(5,c)::k=kts (f h w)++k'∧G w:=by
   intro l k hl;cases l with
   | nil=>exact⟨k,.inl rfl⟩
   | cons z l'=>exact⟨[],.inr ⟨z,m,_,by rw[AQ,Vl.kts_app,ZJ];rfl,hl z (by simp)⟩⟩
  obtain⟨C,A⟩:=hp x y (h1 x (by simp)) (h2 y (by simp)) _ _ _ _ (F r u (λz hz=>h1 z (by simp[hz]))) (F q v (λz hz=>h2 z (by simp[hz]))) e;obtain⟨o,B⟩:=Iy hp hnc r q false false u v (λz hz=>h1 z (by simp[hz])) (λz hz=>h2 z (by simp[hz])) A;exact⟨by rw[sameL,C,o];rfl,B⟩
theorem Fx {at_:Nat} {x:Vl.ZA} (h:argG at_ x=true):Lx.isName x.name=true∧x.v.good 0=true:=by
 unfold argG at h;simp only[ZF]at h;exact h.1
theorem JN {at_ at2:Nat} {l1 l2:List Vl.ZA} {u v:K} (h1:argsG at_ l1=true) (h2:argsG at2 l2=true) (hu:NS [[40]] u) (hv:NS [[40]] v) (e:kts (A9 l1)++u=kts (A9 l2)++v):sameL Vl.ZA.same l1 l2=true∧u=v:=by
 have o:∀b b' u v,kts (AQ Vl.ZA.wds [44,32] b l1)++(5,[41])::u=kts (AQ Vl.ZA.wds [44,32] b' l2)++(5,[41])::v→sameL Vl.ZA.same l1 l2=true∧u=v:=by
  intro b b' u v e;refine Iy (G:=λx=>x.v.good 0=true) (λx y hx hy g g' u v _ _ e=>?_) (λx hx g u v e=>?_) l1 l2 b b' u v (λx hx=>(Fx (ZP.1 h1 x hx)).2) (λx hx=>(Fx (ZP.1 h2 x hx)).2) e
  ·cases x with
   | mk n z p =>
    cases y with
    | mk n' z' p' =>
     rw[Vl.ZA.wds,Vl.ZA.wds]at e;have e:(1,n)::(5,[58])::(kts (z.wds [32])++u)=(1,n')::(5,[58])::(kts (z'.wds [32])++v):=e;simp only[List.cons.injEq,Prod.mk.injEq,true_and]at e;obtain⟨s,k⟩:=OI hx hy e.2;have s:z.same z'=true:=s;exact⟨by rw[Vl.ZA.same,s,e.1];simp,k⟩
  ·cases x with
   | mk n z p =>
    rw[Vl.ZA.wds]at e;have e:(1,n)::(5,[58])::(kts (z.wds [32])++u)=(5,[41])::v:=e;simp at e
 have A:∀(l:List Vl.ZA) (w:K),kts (sw [] [40]::(AQ Vl.ZA.wds [44,32] true l++[sw [] [41]]))++w=(5,[40])::(kts (AQ Vl.ZA.wds [44,32] true l)++(5,[41])::w):=λl w=>by
  rw[ks,Vl.kts_app];simp[kts,sw]
 unfold A9 at e;by_cases z1:l1.length=0
 ·rw[if_pos z1]at e;by_cases z2:l2.length=0
  ·rw[if_pos z2]at e;rw[JB z1,JB z2];exact⟨rfl,e⟩
  ·rw[if_neg z2,A]at e;exact absurd e (CE hu (by simp) _)
 ·rw[if_neg z1,A]at e;by_cases z2:l2.length=0
  ·rw[if_pos z2]at e;exact absurd e.symm (CE hv (by simp) _)
  ·rw[if_neg z2,A]at e;exact o true true u v (by simpa using e)
theorem Ng {S:List (List UInt8)} (hS:[40] ∉ S) {l:List Vl.ZA} {u:K} (hu:NS S u):NS S (kts (A9 l)++u):=by
 unfold A9;split
 ·exact hu
 ·exact ns5 hS
theorem Eb {S:List (List UInt8)} (hS:[64] ∉ S) {l:List Dir} {u:K} (hu:NS S u):NS S (kts (AP l)++u):=by
 cases l with
 | nil=>exact hu
 | cons x r=>exact ns5 hS
theorem Gf {S:List (List UInt8)} (hS:[123] ∉ S) {l:List Sel} {u:K} (hu:NS S u):NS S (kts (AY l)++u):=by
 unfold AY;split
 ·exact hu
 ·exact ns5 hS
theorem Ge {at_ at2:Nat}:∀{l1 l2:List Dir} {u v:K},dirsG at_ l1=true→dirsG at2 l2=true→NS [[40],[64]] u→NS [[40],[64]] v→kts (AP l1)++u=kts (AP l2)++v→sameL Dir.same l1 l2=true∧u=v
 | [],[],u,v,h1,h2,hu,hv,e=>⟨rfl,e⟩
 | [],y::q,u,v,h1,h2,hu,hv,e=>absurd e (CE hu (T:=[64]) (by simp) _)
 | x::r,[],u,v,h1,h2,hu,hv,e=>absurd e.symm (CE hv (T:=[64]) (by simp) _)
 | x::r,y::q,u,v,h1,h2,hu,hv,e=>by
  unfold dirsG at h1 h2;rw[List.all_cons,ZF]at h1 h2;have g1:=h1.1;have g2:=h2.1;unfold dirG at g1 g2;rw[ZF]at g1 g2;have A:∀(x:Dir) (r:List Dir) (w:K),kts (AP (x::r))++w=(5,[64])::(1,x.name)::(kts (A9 x.args)++(kts (AP r)++w)):=λx r w=>by
   unfold AP;rw[List.flatMap_cons,Vl.kts_app];unfold JW;rw[ks,kn];simp
  rw[A,A]at e;simp only[List.cons.injEq,Prod.mk.injEq,true_and]at e;have o:∀{l:List Dir} {w:K},NS [[40],[64]] w→NS [[40]] (kts (AP l)++w):=λhw=>Eb (by decide) (CC hw (by simp))
  obtain⟨E,C⟩:=JN g1.2 g2.2 (o hu) (o hv) e.2;obtain⟨B,D⟩:=Ge (l1:=r) (l2:=q) (show dirsG at_ r=true from h1.2) (show dirsG at2 q=true from h2.2) hu hv C;refine⟨?_,D⟩;rw[sameL,B];unfold Dir.same;rw[E,e.1];simp
abbrev FS:List (List UInt8):=[[58],[40],[64],[123]]
theorem Fb (s:List Sel) (h:s.length≠0) (w:K):kts (AY s)++w=(5,[123])::(kts (Sel.wdss true s)++(5,[125])::w):=by
 unfold AY;rw[if_neg h,ks,Vl.kts_app];simp[kts,sw]
theorem Oi {x:Sel} {g:List UInt8} (w:K):kts (x.wds g)++w=if x.kind=1 then (if x.nick=[] then (1,x.name)::(kts (A9 x.args)++(kts (AP x.dirs)++(kts (AY x.sels)++w))) else (1,x.nick)::(5,[58])::(1,x.name)::(kts (A9 x.args)++(kts (AP x.dirs)++(kts (AY x.sels)++w))))
  else if x.kind=2 then (5,DV)::(1,x.name)::(kts (AP x.dirs)++w)
  else if x.kind=3 then (if x.name=[] then (5,DV)::(kts (AP x.dirs)++(kts (AY x.sels)++w)) else (5,DV)::(1,on_)::(1,x.name)::(kts (AP x.dirs)++(kts (AY x.sels)++w)))
  else w:=by
 rw[Sel.wds_eq];by_cases h1:x.kind=1
 ·rw[if_pos h1,if_pos h1,Vl.kts_app,Vl.kts_app,Vl.kts_app];by_cases h0:x.nick=[]
  ·rw[if_pos h0,if_pos h0,kn];simp[kts]
  ·rw[if_neg h0,if_neg h0,kn,ks,kn];simp[kts]
 rw[if_neg h1,if_neg h1];by_cases h2:x.kind=2
 ·rw[if_pos h2,if_pos h2,ks,kn];rfl
 rw[if_neg h2,if_neg h2];by_cases h3:x.kind=3
 ·rw[if_pos h3,if_pos h3];by_cases h0:x.name=[]
  ·rw[if_pos h0,if_pos h0,ks,ZS,Vl.kts_app];simp
  ·rw[if_neg h0,if_neg h0,ks,Vl.kts_app,Vl.kts_app,kn,kn];simp[kts]
 ·rw[if_neg h3,if_neg h3];rfl
theorem Jd {x:Sel} {at_:Nat} (h:x.good at_=true) (g:List UInt8) (w:K):NS ([125]::FS) (kts (x.wds g)++w):=by
 rw[Sel.good_eq]at h;rw[Oi];by_cases h1:x.kind=1
 ·rw[if_pos h1];split
  ·exact ns1
  ·exact ns1
 rw[if_neg h1]at h ⊢;by_cases h2:x.kind=2
 ·rw[if_pos h2];exact ns5 (by decide)
 rw[if_neg h2]at h ⊢;by_cases h3:x.kind=3
 ·rw[if_pos h3];split
  ·exact ns5 (by decide)
  ·exact ns5 (by decide)
 ·rw[if_neg h3]at h;cases h
theorem OT {s t:List Sel} {u v:K} (hs:∀(b b':Bool) (u v:K),kts (Sel.wdss b s)++(5,[125])::u=kts (Sel.wdss b' t)++(5,[125])::v→sameL Sel.same s t=true∧u=v) (hu:s.length=0→t.length≠0→NS [[123]] u) (hv:t.length=0→s.length≠0→NS [[123]] v) (e:kts (AY s)++u=kts (AY t)++v):sameL Sel.same s t=true∧u=v:=by
 by_cases z1:s.length=0
 ·by_cases z2:t.length=0
  ·rw[JB z1,JB z2]at e ⊢;exact⟨rfl,e⟩
  ·rw[Fb t z2,JB z1]at e;exact absurd (show u=_ from e) (CE (hu z1 z2) (by simp) _)
 ·by_cases z2:t.length=0
  ·rw[Fb s z1,JB z2]at e;exact absurd (show v=_ from e.symm) (CE (hv z2 z1) (by simp) _)
  ·rw[Fb s z1,Fb t z2]at e;exact hs true true u v (by simpa using e)
theorem Gv {at_ at2:Nat} {d d':List Dir} {s t:List Sel} {u v:K} (hs:∀(b b':Bool) (u v:K),kts (Sel.wdss b s)++(5,[125])::u=kts (Sel.wdss b' t)++(5,[125])::v→sameL Sel.same s t=true∧u=v) (h1:dirsG at_ d=true) (h2:dirsG at2 d'=true) (hu:NS FS u) (hv:NS FS v)
  (e:kts (AP d)++(kts (AY s)++u)=kts (AP d')++(kts (AY t)++v)):sameL Dir.same d d'=true∧sameL Sel.same s t=true∧u=v:=by
 obtain⟨C,o⟩:=Ge h1 h2 (Gf (by decide) (CC hu (by simp))) (Gf (by decide) (CC hv (by simp))) e;obtain⟨B,A⟩:=OT hs (λ_ _=>CC hu (by simp)) (λ_ _=>CC hv (by simp)) o;exact⟨C,B,A⟩
theorem DD {at_:Nat} {s:List Sel} (h:(decide (s.length=0)||(decide (at_<16)&&Sel.goods (at_+1) s))=true):Sel.goods (at_+1) s=true:=by
 simp only[ZF,Bool.or_eq_true,decide_eq_true_eq]at h;rcases h with h|h
 ·rw[JB h,Sel.goods]
 ·exact h.2
mutual
theorem P6:∀(x y:Sel) (at_ at2:Nat) (g g':List UInt8) (u v:K),x.good at_=true→y.good at2=true→NS FS u→NS FS v→kts (x.wds g)++u=kts (y.wds g')++v→x.same y=true∧u=v
 | .mk k al n a d s p,y,at_,at2,g,g',u,v,hx,hy,hu,hv,e=>by
  rw[Sel.good]at hx;rw[Sel.good_eq]at hy;rw[Oi,Oi]at e;rw[Sel.same_eq];have D:∀at3 at4,Sel.goods at3 s=true→Sel.goods at4 y.sels=true→∀(b b':Bool) (u v:K),kts (Sel.wdss b s)++(5,[125])::u=kts (Sel.wdss b' y.sels)++(5,[125])::v→sameL Sel.same s y.sels=true∧u=v:=λat3 at4 g3 g4 b b' u v e=>by
   have:=Ix s y.sels at3 at4 b b' u v g3 g4 e;rw[Sel.sames_l]at this;exact this
  change (if k=1 then (if al=[] then (1,n)::(kts (A9 a)++(kts (AP d)++(kts (AY s)++u))) else (1,al)::(5,[58])::(1,n)::(kts (A9 a)++(kts (AP d)++(kts (AY s)++u)))) else if k=2 then (5,DV)::(1,n)::(kts (AP d)++u) else if k=3 then (if n=[] then (5,DV)::(kts (AP d)++(kts (AY s)++u)) else (5,DV)::(1,on_)::(1,n)::(kts (AP d)++(kts (AY s)++u))) else u)=_ at e;show (decide (k=y.kind)&&(decide (al=y.nick)&&(decide (n=y.name)&&(sameL Vl.ZA.same a y.args&&(sameL Dir.same d y.dirs&&sameL Sel.same s y.sels)))))=true∧u=v;have O:∀(l:List Vl.ZA) (dd:List Dir) (ss:List Sel) (w:K),NS FS w→NS [[58]] (kts (A9 l)++(kts (AP dd)++(kts (AY ss)++w))):=λl dd ss w hw=>Ng (by decide) (Eb (by decide) (Gf (by decide) (CC hw (by simp))))
  have C:∀(dd:List Dir) (ss:List Sel) (w:K),NS FS w→NS [[40]] (kts (AP dd)++(kts (AY ss)++w)):=λdd ss w hw=>Eb (by decide) (Gf (by decide) (CC hw (by simp)))
  by_cases k1:k=1
  ·rw[if_pos k1]at hx e;simp only[ZF]at hx;obtain⟨W,M,J,Q,B⟩:=hx;have B:=DD (by simpa using B);by_cases j1:y.kind=1
   ·rw[if_pos j1]at hy e;simp only[ZF]at hy;obtain⟨Z,S,L,R,A⟩:=hy;have A:=DD (by simpa using A);by_cases a1:al=[]
    ·rw[if_pos a1]at e;by_cases b1:y.nick=[]
     ·rw[if_pos b1]at e;simp only[List.cons.injEq,Prod.mk.injEq,true_and]at e;obtain⟨G,H⟩:=JN J L (C _ _ _ hu) (C _ _ _ hv) e.2;obtain⟨E,I,o⟩:=Gv (D _ _ B A) Q R hu hv H;refine⟨?_,o⟩;rw[G,E,I,k1,j1,a1,b1,e.1];simp
     ·rw[if_neg b1]at e;simp only[List.cons.injEq,Prod.mk.injEq,true_and]at e;exact absurd e.2 (CE (O _ _ _ _ hu) (by simp) _)
    ·rw[if_neg a1]at e;by_cases b1:y.nick=[]
     ·rw[if_pos b1]at e;simp only[List.cons.injEq,Prod.mk.injEq,true_and]at e;exact absurd e.2.symm (CE (O _ _ _ _ hv) (by simp) _)
     ·rw[if_neg b1]at e;simp only[List.cons.injEq,Prod.mk.injEq,true_and]at e;obtain⟨G,H⟩:=JN J L (C _ _ _ hu) (C _ _ _ hv) e.2.2;obtain⟨E,I,o⟩:=Gv (D _ _ B A) Q R hu hv H;refine⟨?_,o⟩;rw[G,E,I,k1,j1,e.1,e.2.1];simp
   ·rw[if_neg j1]at hy e;exfalso;have V:∀T (r:K),(if al=[] then (1,n)::(kts (A9 a)++(kts (AP d)++(kts (AY s)++u))) else (1,al)::(5,[58])::(1,n)::(kts (A9 a)++(kts (AP d)++(kts (AY s)++u))))≠(5,T)::r:=λT r=>by split<;>simp
    by_cases j2:y.kind=2
    ·rw[if_pos j2]at e;exact V _ _ e
    rw[if_neg j2]at hy e;by_cases j3:y.kind=3
    ·rw[if_pos j3]at e;by_cases cn:y.name=[]
     ·rw[if_pos cn]at e;exact V _ _ e
     ·rw[if_neg cn]at e;exact V _ _ e
    ·rw[if_neg j3]at hy;cases hy
  rw[if_neg k1]at hx e;by_cases k2:k=2
  ·rw[if_pos k2]at hx e;simp only[ZF,decide_eq_true_eq]at hx;obtain⟨⟨W,⟨M,J⟩,Q⟩,B,U⟩:=hx;by_cases j1:y.kind=1
   ·rw[if_pos j1]at e;split at e<;>simp at e
   rw[if_neg j1]at hy e;by_cases j2:y.kind=2
   ·rw[if_pos j2]at hy e;simp only[ZF,decide_eq_true_eq]at hy;obtain⟨⟨Z,⟨S,L⟩,R⟩,A,P⟩:=hy;simp only[List.cons.injEq,Prod.mk.injEq,true_and]at e;obtain⟨G,H⟩:=Ge Q R (CC hu (by simp)) (CC hv (by simp)) e.2;refine⟨?_,H⟩;rw[G,k2,j2,B,A,e.1,JB U,JB P,JB J,JB L];simp[sameL]
   rw[if_neg j2]at hy e;by_cases j3:y.kind=3
   ·rw[if_pos j3]at e;exfalso;split at e
    ·simp only[List.cons.injEq,Prod.mk.injEq,true_and]at e;rw[if_pos j3]at hy;simp only[ZF,decide_eq_true_eq]at hy;have hg:=BC hy.1.2.2;have N:∀(l:List Dir) (ss:List Sel),ss.length≠0→∀(w r:K) (t:List UInt8),kts (AP l)++(kts (AY ss)++w)≠(1,t)::r:=λl ss h0 w r t e=>by
      cases l with
      | nil =>
       have e:kts (AY ss)++w=(1,t)::r:=e;rw[Fb ss h0]at e;simp at e
      | cons z q =>
       unfold AP at e;rw[List.flatMap_cons,Vl.kts_app]at e;unfold JW at e;rw[ks]at e;simp at e
     exact N _ _ hg.1 _ _ _ e.symm
    ·simp only[List.cons.injEq,Prod.mk.injEq,true_and]at e;exact M e.1
   ·rw[if_neg j3]at hy;cases hy
  rw[if_neg k2]at hx e;by_cases k3:k=3
  ·rw[if_pos k3]at hx e;simp only[ZF,decide_eq_true_eq]at hx;obtain⟨⟨W,M,J⟩,B,U⟩:=hx;have x7:s.length≠0:=by have:=J.1.1;omega
   have Y:=J.2;have N:∀(l:List Dir) (ss:List Sel),ss.length≠0→∀(w r:K) (t:List UInt8),kts (AP l)++(kts (AY ss)++w)≠(1,t)::r:=λl ss h0 w r t e=>by
    cases l with
    | nil =>
     have e:kts (AY ss)++w=(1,t)::r:=e;rw[Fb ss h0]at e;simp at e
    | cons z q =>
     unfold AP at e;rw[List.flatMap_cons,Vl.kts_app]at e;unfold JW at e;rw[ks]at e;simp at e
   by_cases j1:y.kind=1
   ·rw[if_pos j1]at e;split at e<;>split at e<;>simp at e
   rw[if_neg j1]at hy e;by_cases j2:y.kind=2
   ·rw[if_pos j2]at hy e;simp only[ZF,decide_eq_true_eq]at hy;exfalso;split at e
    ·simp only[List.cons.injEq,Prod.mk.injEq,true_and]at e;exact N _ _ x7 _ _ _ e
    ·simp only[List.cons.injEq,Prod.mk.injEq,true_and]at e;exact hy.1.2.1.1 e.1.symm
   rw[if_neg j2]at hy e;by_cases j3:y.kind=3
   ·rw[if_pos j3]at hy e;simp only[ZF,decide_eq_true_eq]at hy;obtain⟨⟨Z,S,L⟩,A,P⟩:=hy;obtain⟨y7,-,X⟩:=BC L;by_cases a1:n=[]
    ·rw[if_pos a1]at e;by_cases b1:y.name=[]
     ·rw[if_pos b1]at e;simp only[List.cons.injEq,Prod.mk.injEq,true_and]at e;obtain⟨E,I,o⟩:=Gv (D _ _ Y X) M S hu hv e;refine⟨?_,o⟩;rw[E,I,k3,j3,B,A,a1,b1,JB U,JB P];simp[sameL]
     ·rw[if_neg b1]at e;simp only[List.cons.injEq,Prod.mk.injEq,true_and]at e;exact absurd e (N _ _ x7 _ _ _)
    ·rw[if_neg a1]at e;by_cases b1:y.name=[]
     ·rw[if_pos b1]at e;simp only[List.cons.injEq,Prod.mk.injEq,true_and]at e;exact absurd e.symm (N _ _ y7 _ _ _)
     ·rw[if_neg b1]at e;simp only[List.cons.injEq,Prod.mk.injEq,true_and]at e;obtain⟨E,I,o⟩:=Gv (D _ _ Y X) M S hu hv e.2;refine⟨?_,o⟩;rw[E,I,k3,j3,B,A,e.1,JB U,JB P];simp[sameL]
   ·rw[if_neg j3]at hy;cases hy
  ·rw[if_neg k3]at hx;cases hx
theorem Ix:∀(s t:List Sel) (at_ at2:Nat) (b b':Bool) (u v:K),Sel.goods at_ s=true→Sel.goods at2 t=true→kts (Sel.wdss b s)++(5,[125])::u=kts (Sel.wdss b' t)++(5,[125])::v→Sel.sames s t=true∧u=v
 | [],[],at_,at2,b,b',u,v,h1,h2,e=>by
  rw[Sel.wdss,Sel.wdss]at e;have e:(5,[125])::u=(5,[125])::v:=e;exact⟨by rw[Sel.sames],by simpa using e⟩
 | [],y::q,at_,at2,b,b',u,v,h1,h2,e=>by
  rw[Sel.goods,ZF]at h2;rw[Sel.wdss,Sel.wdss,Vl.kts_app,ZJ]at e;exact absurd e.symm (CE (Jd h2.1 _ _) (by simp) _)
 | x::r,[],at_,at2,b,b',u,v,h1,h2,e=>by
  rw[Sel.goods,ZF]at h1;rw[Sel.wdss,Sel.wdss,Vl.kts_app,ZJ]at e;exact absurd e (CE (Jd h1.1 _ _) (by simp) _)
 | x::r,y::q,at_,at2,b,b',u,v,h1,h2,e=>by
  rw[Sel.goods,ZF]at h1 h2;rw[Sel.wdss,Sel.wdss,Vl.kts_app,Vl.kts_app,ZJ,ZJ]at e;have F:∀(l:List Sel) (at3:Nat) (w:K),Sel.goods at3 l=true→NS FS (kts (Sel.wdss false l)++(5,[125])::w):=by
   intro l at3 w hl;cases l with
   | nil=>rw[Sel.wdss];exact ns5 (by decide)
   | cons z l' =>
    rw[Sel.goods,ZF]at hl;rw[Sel.wdss,Vl.kts_app,ZJ];exact CC (Jd hl.1 _ _) (by simp)
  obtain⟨G,H⟩:=P6 x y at_ at2 _ _ _ _ h1.1 h2.1 (F r at_ u h1.2) (F q at2 v h2.2) e;obtain⟨E,o⟩:=Ix r q at_ at2 false false u v h1.2 h2.2 H;exact⟨by rw[Sel.sames,G,E];rfl,o⟩
end
theorem Pr {x y:Var} {g g':List UInt8} {u v:K} (hx:varG x=true) (hy:varG y=true) (hu:NS [[33],[61]] u) (hv:NS [[33],[61]] v) (e:kts (C6 g x)++u=kts (C6 g' y)++v):x.same y=true∧u=v:=by
 obtain⟨L,I,D,E⟩:=Ts.varG_out hx;obtain⟨M,H,G,F⟩:=Ts.varG_out hy;have C:∀(x:Var) (g:List UInt8) (w:K),kts (C6 g x)++w=(5,[36])::(1,x.name)::(5,[58])::(kts ((CZ x.type).wds [32])++(kts (dfW x.has x.dflt)++w)):=λx g w=>by
  unfold C6;rw[ks,kn,ks,Vl.kts_app];simp
 rw[C,C]at e;simp only[List.cons.injEq,Prod.mk.injEq,true_and]at e;have B:∀(b:Bool) (z:Vl.Z) (w:K),NS [[33],[61]] w→NS [[33]] (kts (dfW b z)++w):=λb z w hw=>by
  unfold dfW;cases b
  ·exact CC hw (by simp)
  ·exact ns5 (by decide)
 obtain⟨A,o⟩:=Qc I H (B _ _ _ hu) (B _ _ _ hv) e.2;unfold Var.same;cases hb:x.has with
 | false =>
  rw[hb]at o;cases hc:y.has with
  | false =>
   rw[hc]at o;have o:u=v:=o;refine⟨?_,o⟩;have s:=Hp (v:=Dq.zero) (by rw[Vl.same_symm];exact E hb) (by rw[Vl.same_symm];exact F hc);rw[e.1,A,s];simp
  | true =>
   rw[hc]at o;exact absurd (show u=(5,[61])::_ from o) (CE hu (by simp) _)
 | true =>
  rw[hb]at o;cases hc:y.has with
  | false =>
   rw[hc]at o;exact absurd (show v=(5,[61])::_ from o.symm) (CE hv (by simp) _)
  | true =>
   rw[hc]at o;have o:(5,[61])::(kts (x.dflt.wds [32])++u)=(5,[61])::(kts (y.dflt.wds [32])++v):=o;simp only[List.cons.injEq,true_and]at o;obtain⟨s,J⟩:=OI (D hb).1 (G hc).1 o;refine⟨?_,J⟩;rw[e.1,A,s];simp
theorem PY {l1 l2:List Var} {u v:K} (h1:l1.all varG=true) (h2:l2.all varG=true) (hu:NS [[40]] u) (hv:NS [[40]] v) (e:kts (Bt l1)++u=kts (Bt l2)++v):sameL Var.same l1 l2=true∧u=v:=by
 have F:∀{w:K},(∃z,w=(5,[41])::z∨∃x h k,w=kts (C6 h x)++k∧varG x=true)→NS [[33],[61]] w:=λ{w} h=>by
  obtain⟨z,h|⟨x,g,k,h,-⟩⟩:=h
  ·rw[h];exact ns5 (by decide)
  ·rw[h];exact ns5 (T:=[36]) (by decide)
 have o:∀b b' u v,kts (AQ C6 [44,32] b l1)++(5,[41])::u=kts (AQ C6 [44,32] b' l2)++(5,[41])::v→sameL Var.same l1 l2=true∧u=v:=λb b' u v e =>
  Iy (G:=λx=>varG x=true) (λx y hx hy g g' u v hu hv e=>Pr hx hy (F hu) (F hv) e) (λx hx g u v e=>by
   have e:(5,[36])::_=(5,[41])::v:=e;simp at e) l1 l2 b b' u v (ZP.1 h1) (ZP.1 h2) e
 have A:∀(l:List Var) (w:K),kts (sw [] [40]::(AQ C6 [44,32] true l++[sw [] [41]]))++w=(5,[40])::(kts (AQ C6 [44,32] true l)++(5,[41])::w):=λl w=>by
  rw[ks,Vl.kts_app];simp[kts,sw]
 unfold Bt at e;by_cases z1:l1.length=0
 ·rw[if_pos z1]at e;by_cases z2:l2.length=0
  ·rw[if_pos z2]at e;rw[JB z1,JB z2];exact⟨rfl,e⟩
  ·rw[if_neg z2,A]at e;exact absurd e (CE hu (by simp) _)
 ·rw[if_neg z1,A]at e;by_cases z2:l2.length=0
  ·rw[if_pos z2]at e;exact absurd e.symm (CE hv (by simp) _)
  ·rw[if_neg z2,A]at e;exact o true true u v (by simpa using e)
theorem Mp {at_ at2:Nat} {d d':List Dir} {s t:List Sel} {u v:K} (g1:dirsG at_ d=true) (g2:dirsG at2 d'=true) (h1:selsG at_ s=true) (h2:selsG at2 t=true) (e:kts (AP d)++(kts (AY s)++u)=kts (AP d')++(kts (AY t)++v)):sameL Dir.same d d'=true∧sameL Sel.same s t=true∧u=v:=by
 obtain⟨o,-,F⟩:=BC h1;obtain⟨A,-,B⟩:=BC h2;have D:NS [[40],[64]] (kts (AY s)++u):=by rw[Fb s o];exact ns5 (by decide)
 have G:NS [[40],[64]] (kts (AY t)++v):=by rw[Fb t A];exact ns5 (by decide)
 obtain⟨C,H⟩:=Ge g1 g2 D G e;obtain⟨E,I⟩:=OT (λb b' u v e=>by have:=Ix s t _ _ b b' u v F B e;rw[Sel.sames_l]at this;exact this) (λh _=>absurd h o) (λh _=>absurd h A) H;exact⟨C,E,I⟩
theorem word_inj {k j:Int} (hk:1≤k∧k≤3) (hj:1≤j∧j≤3) (e:word k=word j):k=j:=by
 have A:k=1∨k=2∨k=3:=by omega
 have o:j=1∨j=2∨j=3:=by omega
 rcases A with rfl|rfl|rfl<;>rcases o with rfl|rfl|rfl<;>first|rfl|(exact absurd e (by decide))
theorem p_op {x y:Op} {g g':List UInt8} {u v:K} (hx:opG x=true) (hy:opG y=true) (e:kts (opW g x)++u=kts (opW g' y)++v):x.same y=true∧u=v:=by
 obtain⟨F,S,N,O,A⟩:=Ei hx;obtain⟨L,T,J,P,o⟩:=Ei hy;have B:∀(x:Op) (g:List UInt8) (w:K),kts (opW g x)++w=(1,word x.kind)::(kts (nmW x.name)++(kts (Bt x.vars)++(kts (AP x.dirs)++(kts (AY x.sels)++w)))):=λx g w=>by
  unfold opW;rw[kn,Vl.kts_app,Vl.kts_app,Vl.kts_app];simp
 rw[B,B]at e;simp only[List.cons.injEq,Prod.mk.injEq,true_and]at e;obtain⟨R,e⟩:=e;have C:∀(z:Op) (w:K),selsG 0 z.sels=true→NS [[40]] (kts (AP z.dirs)++(kts (AY z.sels)++w)):=λz w h=>Eb (by decide) (by rw[Fb _ (BC h).1];exact ns5 (by decide))
 have D:∀(z:Op) (w r:K) (t:List UInt8),selsG 0 z.sels=true→kts (Bt z.vars)++(kts (AP z.dirs)++(kts (AY z.sels)++w))≠(1,t)::r:=λz w r t h e=>by
  unfold Bt at e;by_cases h0:z.vars.length=0
  ·rw[if_pos h0]at e;cases hd:z.dirs with
   | nil =>
    rw[hd]at e;have e:kts (AY z.sels)++w=(1,t)::r:=e;rw[Fb _ (BC h).1]at e;simp at e
   | cons q l =>
    rw[hd]at e;unfold AP at e;rw[List.flatMap_cons,Vl.kts_app]at e;unfold JW at e;have e:(5,[64])::_=(1,t)::r:=e;simp at e
  ·rw[if_neg h0]at e;have e:(5,[40])::_=(1,t)::r:=e;simp at e
 have E:x.name=y.name∧kts (Bt x.vars)++(kts (AP x.dirs)++(kts (AY x.sels)++u))=kts (Bt y.vars)++(kts (AP y.dirs)++(kts (AY y.sels)++v)):=by
  unfold nmW at e;by_cases a1:x.name=[]
  ·rw[if_pos a1]at e;by_cases b1:y.name=[]
   ·rw[if_pos b1]at e;exact⟨by rw[a1,b1],e⟩
   ·rw[if_neg b1]at e;exact absurd (show _=(1,y.name)::_ from e) (D x u _ _ A)
  ·rw[if_neg a1]at e;by_cases b1:y.name=[]
   ·rw[if_pos b1]at e;exact absurd (show _=(1,x.name)::_ from e.symm) (D y v _ _ o)
   ·rw[if_neg b1]at e;have e:(1,x.name)::_=(1,y.name)::_:=e;simp only[List.cons.injEq,Prod.mk.injEq,true_and]at e;exact e
 obtain⟨H,I⟩:=PY N J (C x u A) (C y v o) E.2;obtain⟨Q,M,G⟩:=Mp O P A o I;refine⟨?_,G⟩;unfold Op.same;rw[H,Q,M,word_inj F L R,E.1];simp
theorem Qe {x y:Fr} {g g':List UInt8} {u v:K} (hx:frG x=true) (hy:frG y=true) (e:kts (frW g x)++u=kts (frW g' y)++v):x.same y=true∧u=v:=by
 obtain⟨H,L,A,B⟩:=Ej hx;obtain⟨I,J,D,C⟩:=Ej hy;have o:∀(x:Fr) (g:List UInt8) (w:K),kts (frW g x)++w=(1,sFr)::(1,x.name)::(1,on_)::(1,x.on)::(kts (AP x.dirs)++(kts (AY x.sels)++w)):=λx g w=>by
  unfold frW;rw[kn,kn,kn,kn,Vl.kts_app];simp
 rw[o,o]at e;simp only[List.cons.injEq,Prod.mk.injEq,true_and]at e;obtain⟨E,F,G⟩:=Mp A D B C e.2.2;refine⟨?_,G⟩;unfold Fr.same;rw[E,F,e.1,e.2.1];simp
noncomputable def Doc.wds (x:Doc):List Lx.Wd:=AQ opW [10] true x.ops++AQ frW [10] (x.ops.length=0) x.frags
theorem OQ:∀(f1 f2:List Fr) (b b':Bool),(∀x∈f1,frG x=true)→(∀x∈f2,frG x=true)→kts (AQ frW [10] b f1)=kts (AQ frW [10] b' f2)→sameL Fr.same f1 f2=true
 | [],[],_,_,_,_,_=>rfl
 | [],y::q,_,_,_,_,e=>by rw[AQ,AQ,Vl.kts_app]at e;exact absurd (show []=(1,sFr)::_ from e) (by simp)
 | x::r,[],_,_,_,_,e=>by rw[AQ,AQ,Vl.kts_app]at e;exact absurd (show (1,sFr)::_=[] from e) (by simp)
 | x::r,y::q,b,b',h1,h2,e=>by
  rw[AQ,AQ,Vl.kts_app,Vl.kts_app]at e;obtain⟨A,o⟩:=Qe (h1 x (by simp)) (h2 y (by simp)) e;rw[sameL,A,OQ r q false false (λz hz=>h1 z (by simp[hz])) (λz hz=>h2 z (by simp[hz])) o];rfl
theorem Hh {f:List Fr} {b:Bool} {x:Op} {g:List UInt8} {u:K} (e:kts (AQ frW [10] b f)=kts (opW g x)++u):False:=by
 cases f with
 | nil=>rw[AQ]at e;exact absurd (show []=(1,word x.kind)::_ from e) (by simp)
 | cons y q =>
  rw[AQ,Vl.kts_app]at e;have e:(1,sFr)::_=(1,word x.kind)::_:=e;simp only[List.cons.injEq,Prod.mk.injEq,true_and]at e;have:sFr≠word x.kind:=by
   unfold sFr word;by_cases k1:x.kind=1
   ·rw[if_pos k1];decide
   ·rw[if_neg k1];by_cases k2:x.kind=2
    ·rw[if_pos k2];decide
    ·rw[if_neg k2];decide
  exact this e.1
theorem OP:∀(l1 l2:List Op) (f1 f2:List Fr) (b b' c c':Bool),(∀x∈l1,opG x=true)→(∀x∈l2,opG x=true)→(∀x∈f1,frG x=true)→(∀x∈f2,frG x=true)→kts (AQ opW [10] b l1)++kts (AQ frW [10] c f1)=kts (AQ opW [10] b' l2)++kts (AQ frW [10] c' f2)→sameL Op.same l1 l2=true∧sameL Fr.same f1 f2=true
 | [],[],f1,f2,b,b',c,c',h1,h2,h3,h4,e=>⟨rfl,OQ f1 f2 c c' h3 h4 e⟩
 | [],y::q,f1,f2,b,b',c,c',h1,h2,h3,h4,e=>by
  rw[AQ,AQ,Vl.kts_app,ZJ]at e;exact (Hh (show kts (AQ frW [10] c f1)=_ from e)).elim
 | x::r,[],f1,f2,b,b',c,c',h1,h2,h3,h4,e=>by
  rw[AQ,AQ,Vl.kts_app,ZJ]at e;exact (Hh (show kts (AQ frW [10] c' f2)=_ from e.symm)).elim
 | x::r,y::q,f1,f2,b,b',c,c',h1,h2,h3,h4,e=>by
  rw[AQ,AQ,Vl.kts_app,Vl.kts_app,ZJ,ZJ]at e;obtain⟨C,A⟩:=p_op (h1 x (by simp)) (h2 y (by simp)) e;obtain⟨B,o⟩:=OP r q f1 f2 false false c c' (λz hz=>h1 z (by simp[hz])) (λz hz=>h2 z (by simp[hz])) h3 h4 A;exact⟨by rw[sameL,C,B];rfl,o⟩
theorem Dg {x:Doc} (h:x.good=true):0<x.ops.length+x.frags.length∧(∀y∈x.ops,opG y=true)∧∀y∈x.frags,frG y=true:=by
 unfold Doc.good at h;simp only[ZF,decide_eq_true_eq,ZP]at h;exact⟨h.1,h.2.1,h.2.2⟩
theorem Dy {α:Type} {f:List UInt8→α→List Lx.Wd} {L t:α→List UInt8} (ht:∀x,t x=L x++[10]):∀(l:List α) (b:Bool),(∀x∈l,∀g,Lx.flat (f g x)=g++L x)→(if b then [] else [10])++l.flatMap t=Lx.flat (AQ f [10] b l)++(if (b&&l.isEmpty)=true then [] else [10])
 | [],b,_=>by cases b<;>rfl
 | x::r,b,h=>by
  have:=Dy ht r false (λy hy=>h y (by simp[hy]));simp only[Bool.false_and,Bool.false_eq_true,if_false]at this;rw[AQ,Lx.flat_app,h x (by simp),List.flatMap_cons,ht,List.isEmpty_cons,Bool.and_false];simp only[Bool.false_eq_true,if_false];rw[ZJ (L x),this];cases b<;>simp
theorem Hb {x:Doc} (h:x.good=true):x.txt=Lx.flat x.wds++[10]:=by
 obtain⟨A,C,D⟩:=Dg h;have o:=Dy (f:=opW) NR x.ops true (λy hy g=>KH (C y hy) g);have B:=λb=>Dy (f:=frW) NH x.frags b (λy hy g=>Gt (D y hy) g)
 unfold Doc.txt Doc.wds;rw[Lx.flat_app];cases ho:x.ops with
 | nil =>
  rw[ho]at o A;have:=B true;simp only[if_true,ZS,Bool.true_and]at this;rw[if_neg (by cases hf:x.frags with|nil=>(rw[hf]at A;simp at A)|cons y q=>simp)]at this;simp only[List.flatMap_nil,ZS,List.length_nil,decide_true];exact this
 | cons y q =>
  rw[ho]at o;have:=B false;simp only[Bool.false_eq_true,if_false,Bool.false_and]at this;simp only[if_true,ZS,List.isEmpty_cons,Bool.and_false,Bool.false_eq_true,if_false]at o;rw[o,ZJ,this];simp
theorem GD {x:Doc} (h:x.good=true):Lx.StandAll x.wds []:=by
 obtain⟨D,B,A⟩:=Dg h;have o:∀b,Lx.StandAll (AQ frW [10] b x.frags) []:=λb=>Vl.stand_joinW (f:=frW) (t:=frL) Ts.bl10 (by decide) b x.frags [] (λy hy g=>Gt (A y hy) g) (λy hy g e' hg he'=>MC (A y hy) hg he') Lx.neu_nil
 unfold Doc.wds;cases ho:x.ops with
 | nil=>exact o _
 | cons y0 r =>
  refine Lx.standAll_app ?_ (o _);refine Vl.stand_joinW (f:=opW) (t:=opL) Ts.bl10 (by decide) true (y0::r) _ (λy hy g=>KH (B y (by rw[ho];exact hy)) g) (λy hy g e' hg he'=>Ms (B y (by rw[ho];exact hy)) hg he') ?_;cases o:x.frags with
  | nil=>exact Lx.neu_nil
  | cons z q =>
   have C:=A z (by rw[o];simp);rw[QO,AQ,Lx.flat_app,Gt C];exact Lx.neu_cons 10 _ (by decide)
end Dq
end Go.Proofs.YtefjgpkpplkkgaaGreatDoor
