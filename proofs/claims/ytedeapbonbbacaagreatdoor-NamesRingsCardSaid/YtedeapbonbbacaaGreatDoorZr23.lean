/-
  What the listed variables give; a world for the witnesses. A value that came in. A document that came in. The spreads of a document; a document's names, plainly. A document that grows in a block, and a row of problems that grows beside it. The place of the first of a row that a closure takes: fragments, operations; walked. The place of a name's fragment; the fragment; walked. The spreads of a selection set, walked. The closure over an operation's name, walked. Whether a row of texts holds one: slices.Index, slices.Contains at texts, walked.
-/
import Derived.Test.YtedeapbonbbacaaGreatDoorCards
import Derived.Test.YtedeapbonbbacaaGreatDoorTie
import Derived.Test.YtedeapbonbbacaaGreatDoorZr11
import Derived.WalkKit
import Derived.ProofKit
import Derived.OpenShut
import Derived.Deep.DeepHandedRow
import Derived.Lib.LaidTab
import Derived.Lib.LaidIn
import Derived.Lib.LaidU8T
import Derived.Test.YtedeapbonbbacaaGreatDoorZr8
import Derived.Test.YtedeapbonbbacaaGreatDoorZr17
import Derived.Test.YtedeapbonbbacaaGreatDoorZr1
import Derived.Test.YtedeapbonbbacaaGreatDoorZr9
import Derived.Test.YtedeapbonbbacaaGreatDoorZr14
import Derived.Test.YtedeapbonbbacaaGreatDoorZr7
import Derived.Deep.LoopGhost
import Derived.Test.YtedeapbonbbacaaGreatDoorZr15
import Derived.Test.YtedeapbonbbacaaGreatDoorZr18
open Go.Lib renaming hid → QA
open List renaming length_append → QS, length_map → QV, mem_of_getElem? → QZ, take_length → ZE, getElem?_map → ZG, getElem?_eq_getElem → ZH
open Nat renaming le_refl → QM, le_trans → QQ, zero_le → ZT
namespace Go.Proofs.YtedeapbonbbacaaGreatDoor
set_option maxRecDepth 100000
set_option maxHeartbeats 4000000
set_option linter.unusedSimpArgs false
set_option linter.unusedVariables false
open Go Go.RowKit
open Go.ChangeShapes Go.WideShapes Go.ChangeAt
open Go.ChangeMaps (open_string shut_string)
theorem own:ownKnob Tryz.prog.godebug=none:=by kernel_rfl
abbrev laidList : List (String × DataW Unit) := [("unicode/utf8.acceptRanges", Rows.laid_unicode_utf8_acceptRanges), ("unicode/utf8.first", Rows.laid_unicode_utf8_first)]
theorem env_of {W:World} (hL:laidMet Tryz.prog laidList W) (hS:W.ShapedOpen Tryz.prog):Env W∧3≤W.heap.size:=by
 have o:∃m,W.cell? ⟨2,0,none⟩=some (.int .i64 m):=cell_of_shapedOpen_int (zero:=#[.int .i64 0]) (t:=3) hS (of_decide_eq_true (by kernel_rfl)) (by kernel_rfl) rfl (by kernel_rfl) (by kernel_rfl) Tryz.underlying3;have A:Lib.Utf8Tabs 0 1 W :=
  utf8Tabs_of_readsT (U8Types.of260 Tryz.lays260) ⟨by kernel_rfl,by kernel_rfl,by kernel_rfl,by kernel_rfl,by kernel_rfl,by kernel_rfl,by kernel_rfl⟩ (Lib.laidMet.reads hL (.tail _ (.head _))) (Lib.laidMet.reads hL (.head _))
 refine⟨⟨A,o⟩,?_⟩;obtain⟨m,h⟩:=o;have:=BK h;exact this
noncomputable def laidWorld (os:Os):World :=
 let w0:=World.holding Tryz.prog os ⟨#[],#[],[]⟩
 let put (h:Array Obj) (g:Nat) (cs:Array Value):Array Obj:=h.modify g fun
  | .cells _ t frozen=>.cells cs t frozen
  | o=>o
 let h1:=put w0.heap 0 (Lib.firstTab.map λz=>Value.int .u8 z).toArray
 let h2:=put h1 1 ((List.range 16).flatMap λi=>[Value.int .u8 (Lib.accLo i),Value.int .u8 (Lib.accHi i)]).toArray
 { w0 with heap:=h2 }
theorem laid_met (os:Os) (args:Array Value):laidMet Tryz.prog laidList ((laidWorld os).forCall (λ_ _=>0) ⟨#[],args,[]⟩).memory :=
 (LaidIn.of_run (l:=laidList) [0,1] 8 (by kernel_rfl) (by kernel_rfl) (by kernel_rfl) (by kernel_rfl)).met
namespace Vl
-- Sizes that memory allows.
mutual
def Z.fits:Z→Prop
 | .mk k t i f a=>(-9223372036854775808≤k∧k≤9223372036854775807)∧t.length≤maxLen∧i.length≤maxLen∧f.length≤maxLen∧Z.fitss i∧ZA.fitss f
def Z.fitss:List Z→Prop
 | []=>True
 | x::r=>Z.fits x∧Z.fitss r
def ZA.fits:ZA→Prop
 | .mk n v _=>n.length≤maxLen∧Z.fits v
def ZA.fitss:List ZA→Prop
 | []=>True
 | x::r=>ZA.fits x∧ZA.fitss r
end
end Vl
namespace Dq
structure Dir where
 name:List UInt8
 args:List Vl.ZA
 at_:Int
inductive Sel where
 | mk (kind:Int) (nick name:List UInt8) (args:List Vl.ZA) (dirs:List Dir) (sels:List Sel) (at_:Int)
structure Var where
 name:List UInt8
 type:List UInt8
 has:Bool
 dflt:Vl.Z
 at_:Int
structure Op where
 kind:Int
 name:List UInt8
 vars:List Var
 dirs:List Dir
 sels:List Sel
 at_:Int
structure Fr where
 name:List UInt8
 on:List UInt8
 dirs:List Dir
 sels:List Sel
 at_:Int
structure Doc where
 ops:List Op
 frags:List Fr
namespace Sel
def kind:Sel→Int|.mk k _ _ _ _ _ _=>k
def nick:Sel→List UInt8|.mk _ a _ _ _ _ _=>a
def name:Sel→List UInt8|.mk _ _ n _ _ _ _=>n
def args:Sel→List Vl.ZA|.mk _ _ _ a _ _ _=>a
def dirs:Sel→List Dir|.mk _ _ _ _ d _ _=>d
def sels:Sel→List Sel|.mk _ _ _ _ _ s _=>s
def at_:Sel→Int|.mk _ _ _ _ _ _ a=>a
end Sel
def Dir.d (x:Dir):D:=.obj [.str x.name,.seq 7 (x.args.map Vl.ZA.d),.int x.at_]
mutual
def Sel.d:Sel→D
 | .mk k al n a d s p=>.obj [.int k,.str al,.str n,.seq 7 (a.map Vl.ZA.d),.seq 3 (d.map Dir.d),.seq 7 (Sel.dl s),.int p]
def Sel.dl:List Sel→List D
 | []=>[]
 | x::r=>Sel.d x::Sel.dl r
end
theorem Sel.dl_map:∀l:List Sel,Sel.dl l=l.map Sel.d
 | []=>by rw[Sel.dl];rfl
 | x::r=>by rw[Sel.dl,Sel.dl_map r];rfl
theorem Sel.d_eq (x:Sel):x.d=.obj [.int x.kind,.str x.nick,.str x.name,.seq 7 (x.args.map Vl.ZA.d),.seq 3 (x.dirs.map Dir.d),.seq 7 (x.sels.map Sel.d),.int x.at_]:=by
 cases x;rw[Sel.d,Sel.dl_map];rfl
def Var.d (x:Var):D:=.obj [.str x.name,.str x.type,.bool x.has,x.dflt.d,.int x.at_]
def Op.d (x:Op):D:=.obj [.int x.kind,.str x.name,.seq 9 (x.vars.map Var.d),.seq 3 (x.dirs.map Dir.d),.seq 7 (x.sels.map Sel.d),.int x.at_]
def Fr.d (x:Fr):D:=.obj [.str x.name,.str x.on,.seq 3 (x.dirs.map Dir.d),.seq 7 (x.sels.map Sel.d),.int x.at_]
def Doc.d (x:Doc):D:=.obj [.seq 6 (x.ops.map Op.d),.seq 5 (x.frags.map Fr.d)]
-- Sizes that memory allows.
def Dir.fits (x:Dir):Prop:=x.name.length≤maxLen∧x.args.length≤maxLen∧∀a∈x.args,a.fits
mutual
def Sel.fits:Sel→Prop
 | .mk k al n a d s p=>(-9223372036854775808≤k∧k≤9223372036854775807)∧al.length≤maxLen∧n.length≤maxLen∧(a.length≤maxLen∧∀x∈a,x.fits)∧(d.length≤maxLen∧∀x∈d,x.fits)∧s.length≤maxLen∧Sel.fitsl s
def Sel.fitsl:List Sel→Prop
 | []=>True
 | x::r=>Sel.fits x∧Sel.fitsl r
end
def Var.fits (x:Var):Prop:=x.name.length≤maxLen∧x.type.length≤maxLen∧x.dflt.fits
def Op.fits (x:Op):Prop:=(-9223372036854775808≤x.kind∧x.kind≤9223372036854775807)∧x.name.length≤maxLen∧(x.vars.length≤maxLen∧∀y∈x.vars,y.fits)∧(x.dirs.length≤maxLen∧∀y∈x.dirs,y.fits)∧(x.sels.length≤maxLen∧∀y∈x.sels,y.fits)
def Fr.fits (x:Fr):Prop:=x.name.length≤maxLen∧x.on.length≤maxLen∧(x.dirs.length≤maxLen∧∀y∈x.dirs,y.fits)∧(x.sels.length≤maxLen∧∀y∈x.sels,y.fits)
def Doc.fits (x:Doc):Prop:=(x.ops.length≤maxLen∧∀y∈x.ops,y.fits)∧(x.frags.length≤maxLen∧∀y∈x.frags,y.fits)
end Dq
namespace Dq
section
variable {w : World} {P : Nat → Prop} {cs : List Value}
theorem Av {k:Nat} {xs:List D} (h:Reads w P (.seq k xs) cs):∃a c,cs=[.slice a xs.length c]:=by
 obtain⟨a,c,e,-⟩:=h.seq_inv;exact⟨a,c,e⟩
theorem Dir.opened {x:Dir} (h:Reads w P x.d cs):∃(a1:Option Addr) (c1:Nat),cs=[.string ⟨x.name.toArray⟩,.slice a1 x.args.length c1,.int .i64 x.at_]∧Reads w P (.seq 7 (x.args.map Vl.ZA.d)) [.slice a1 x.args.length c1]:=by
 unfold Dir.d at h;obtain⟨K,G,rfl,D,C⟩:=h.obj_inv.cons_inv;obtain⟨L,I,rfl,o,F⟩:=C.cons_inv;obtain⟨J,H,rfl,A,B⟩:=F.cons_inv;obtain rfl:=D.str_inv;obtain⟨b2,E,rfl⟩:=Av o;obtain rfl:=A.int_inv;obtain rfl:=B.nil_inv;simp only[QV]at o ⊢;exact⟨b2,E,rfl,o⟩
theorem Sel.opened {x:Sel} (h:Reads w P x.d cs):∃(a1 a2 a3:Option Addr) (c1 c2 c3:Nat),cs=[.int .i64 x.kind,.string ⟨x.nick.toArray⟩,.string ⟨x.name.toArray⟩,.slice a1 x.args.length c1,.slice a2 x.dirs.length c2,.slice a3 x.sels.length c3,.int .i64 x.at_] ∧
  Reads w P (.seq 7 (x.args.map Vl.ZA.d)) [.slice a1 x.args.length c1]∧Reads w P (.seq 3 (x.dirs.map Dir.d)) [.slice a2 x.dirs.length c2]∧Reads w P (.seq 7 (x.sels.map Sel.d)) [.slice a3 x.sels.length c3]:=by
 rw[Sel.d_eq]at h;obtain⟨Z,r1,rfl,G,O⟩:=h.obj_inv.cons_inv;obtain⟨x2,X,rfl,N,Q⟩:=O.cons_inv;obtain⟨Y,U,rfl,F,K⟩:=Q.cons_inv;obtain⟨x4,V,rfl,B,I⟩:=K.cons_inv;obtain⟨W,S,rfl,o,M⟩:=I.cons_inv;obtain⟨R,r6,rfl,A,D⟩:=M.cons_inv;obtain⟨x7,T,rfl,C,E⟩:=D.cons_inv;obtain rfl:=G.int_inv;obtain rfl:=N.str_inv;obtain rfl:=F.str_inv;obtain⟨b4,J,rfl⟩:=Av B;obtain⟨b5,L,rfl⟩:=Av o;obtain⟨b6,H,rfl⟩:=Av A;obtain rfl:=C.int_inv;obtain rfl:=E.nil_inv;simp only[QV]at B o A ⊢;exact⟨b4,b5,b6,J,L,H,rfl,B,o,A⟩
theorem Var.opened {x:Var} (h:Reads w P x.d cs):∃(a1 a2:Option Addr) (c1 c2:Nat),cs=[.string ⟨x.name.toArray⟩,.string ⟨x.type.toArray⟩,.bool x.has,.int .i64 x.dflt.kind,.string ⟨x.dflt.text.toArray⟩,.slice a1 x.dflt.items.length c1,.slice a2 x.dflt.fields.length c2,.int .i64 x.dflt.at_,.int .i64 x.at_] ∧
  Reads w P x.dflt.d (Ko x.dflt a1 a2 c1 c2).toList:=by
 unfold Var.d at h;obtain⟨Q,R,rfl,C,H⟩:=h.obj_inv.cons_inv;obtain⟨T,N,rfl,G,I⟩:=H.cons_inv;obtain⟨O,K,rfl,B,E⟩:=I.cons_inv;obtain⟨S,L,rfl,o,D⟩:=E.cons_inv;obtain⟨M,J,rfl,A,F⟩:=D.cons_inv;obtain rfl:=C.str_inv;obtain rfl:=G.str_inv;obtain rfl:=B.bool_inv;obtain⟨a1,a2,c1,c2,rfl,-,-⟩:=Kf o;obtain rfl:=A.int_inv;obtain rfl:=F.nil_inv;exact⟨a1,a2,c1,c2,rfl,o⟩
theorem Op.opened {x:Op} (h:Reads w P x.d cs):∃(a1 a2 a3:Option Addr) (c1 c2 c3:Nat),cs=[.int .i64 x.kind,.string ⟨x.name.toArray⟩,.slice a1 x.vars.length c1,.slice a2 x.dirs.length c2,.slice a3 x.sels.length c3,.int .i64 x.at_] ∧
  Reads w P (.seq 9 (x.vars.map Var.d)) [.slice a1 x.vars.length c1]∧Reads w P (.seq 3 (x.dirs.map Dir.d)) [.slice a2 x.dirs.length c2]∧Reads w P (.seq 7 (x.sels.map Sel.d)) [.slice a3 x.sels.length c3]:=by
 unfold Op.d at h;obtain⟨W,Y,rfl,E,M⟩:=h.obj_inv.cons_inv;obtain⟨x2,U,rfl,L,N⟩:=M.cons_inv;obtain⟨V,R,rfl,B,I⟩:=N.cons_inv;obtain⟨Z,S,rfl,o,G⟩:=I.cons_inv;obtain⟨T,Q,rfl,A,K⟩:=G.cons_inv;obtain⟨O,X,rfl,C,D⟩:=K.cons_inv;obtain rfl:=E.int_inv;obtain rfl:=L.str_inv;obtain⟨b4,H,rfl⟩:=Av B;obtain⟨b5,J,rfl⟩:=Av o;obtain⟨b6,F,rfl⟩:=Av A;obtain rfl:=C.int_inv;obtain rfl:=D.nil_inv;simp only[QV]at B o A ⊢;exact⟨b4,b5,b6,H,J,F,rfl,B,o,A⟩
theorem Fr.opened {x:Fr} (h:Reads w P x.d cs):∃(a2 a3:Option Addr) (c2 c3:Nat),cs=[.string ⟨x.name.toArray⟩,.string ⟨x.on.toArray⟩,.slice a2 x.dirs.length c2,.slice a3 x.sels.length c3,.int .i64 x.at_] ∧
  Reads w P (.seq 3 (x.dirs.map Dir.d)) [.slice a2 x.dirs.length c2]∧Reads w P (.seq 7 (x.sels.map Sel.d)) [.slice a3 x.sels.length c3]:=by
 unfold Fr.d at h;obtain⟨R,T,rfl,D,J⟩:=h.obj_inv.cons_inv;obtain⟨V,Q,rfl,I,K⟩:=J.cons_inv;obtain⟨U,N,rfl,o,F⟩:=K.cons_inv;obtain⟨O,M,rfl,A,H⟩:=F.cons_inv;obtain⟨L,S,rfl,B,C⟩:=H.cons_inv;obtain rfl:=D.str_inv;obtain rfl:=I.str_inv;obtain⟨b5,G,rfl⟩:=Av o;obtain⟨b6,E,rfl⟩:=Av A;obtain rfl:=B.int_inv;obtain rfl:=C.nil_inv;simp only[QV]at o A ⊢;exact⟨b5,b6,G,E,rfl,o,A⟩
theorem Doc.opened {x:Doc} (h:Reads w P x.d cs):∃(a1 a2:Option Addr) (c1 c2:Nat),cs=[.slice a1 x.ops.length c1,.slice a2 x.frags.length c2] ∧
  Reads w P (.seq 6 (x.ops.map Op.d)) [.slice a1 x.ops.length c1]∧Reads w P (.seq 5 (x.frags.map Fr.d)) [.slice a2 x.frags.length c2]:=by
 unfold Doc.d at h;obtain⟨G,F,rfl,A,D⟩:=h.obj_inv.cons_inv;obtain⟨H,I,rfl,o,C⟩:=D.cons_inv;obtain⟨b5,B,rfl⟩:=Av A;obtain⟨b6,E,rfl⟩:=Av o;obtain rfl:=C.nil_inv;simp only[QV]at A o ⊢;exact⟨b5,b6,B,E,rfl,A,o⟩
end
end Dq
namespace Dq
mutual
def Sel.spr:Sel→List Sel
 | .mk k al n a d s p=>(if k=2 then [.mk k al n a d s p] else [])++Sel.sprl s
def Sel.sprl:List Sel→List Sel
 | []=>[]
 | x::r=>Sel.spr x++Sel.sprl r
end
theorem Sel.spr_eq (x:Sel):x.spr=(if x.kind=2 then [x] else [])++Sel.sprl x.sels:=by
 cases x;rw[Sel.spr];rfl
theorem Sel.sprl_append:∀l m:List Sel,Sel.sprl (l++m)=Sel.sprl l++Sel.sprl m
 | [],m=>by rw[Sel.sprl];rfl
 | x::r,m=>by rw[List.cons_append,Sel.sprl,Sel.sprl,Sel.sprl_append r m,List.append_assoc]
theorem Sel.sprl_one (x:Sel):Sel.sprl [x]=(if x.kind=2 then [x] else [])++Sel.sprl x.sels:=by
 rw[Sel.sprl,Sel.sprl,List.append_nil,Sel.spr_eq]
theorem Sel.sprl_take {l:List Sel} {j:Nat} {x:Sel} (h:l[j]?=some x):Sel.sprl (l.take (j+1))=Sel.sprl (l.take j)++((if x.kind=2 then [x] else [])++Sel.sprl x.sels):=by
 rw[List.take_add_one,h,Option.toList_some,Sel.sprl_append,Sel.sprl_one]
theorem Sel.sprl_le {l:List Sel} {j:Nat}:(Sel.sprl (l.take j)).length≤(Sel.sprl l).length:=by
 have h:=Sel.sprl_append (l.take j) (l.drop j);rw[List.take_append_drop]at h;rw[h,QS];omega
mutual
def Sel.num:Sel→Nat
 | .mk _ _ _ _ _ s _=>1+Sel.numl s
def Sel.numl:List Sel→Nat
 | []=>0
 | x::r=>Sel.num x+Sel.numl r
end
theorem Sel.num_eq (x:Sel):x.num=1+Sel.numl x.sels:=by
 cases x;rw[Sel.num];rfl
theorem Sel.num_mem:∀{l:List Sel} {x:Sel},x∈l→Sel.numl x.sels<Sel.numl l
 | y::r,x,h=>by
  rw[Sel.numl,Sel.num_eq];rcases List.mem_cons.1 h with rfl|h
  ·omega
  ·have:=Sel.num_mem h;omega
theorem Sel.num_len:∀l:List Sel,l.length≤Sel.numl l
 | []=>ZT _
 | y::r=>by
  have:=Sel.num_len r;rw[Sel.numl,Sel.num_eq,List.length_cons];omega
mutual
theorem Sel.spr_num:∀x:Sel,x.spr.length≤x.num
 | .mk k al n a d s p=>by
  have:=Sel.sprl_num s;rw[Sel.spr,Sel.num,QS];have h:(if k=2 then [Sel.mk k al n a d s p] else []).length≤1:=by split<;>simp
  omega
theorem Sel.sprl_num:∀l:List Sel,(Sel.sprl l).length≤Sel.numl l
 | []=>ZT _
 | x::r=>by
  have o:=Sel.spr_num x;have A:=Sel.sprl_num r;rw[Sel.sprl,Sel.numl,QS];omega
end
def sp (l:List Sel):List Nq.Sp:=(Sel.sprl l).map λs=>(s.name,s.at_)
def Op.it (o:Op):Nq.It:=⟨o.name,o.at_,sp o.sels⟩
def Fr.it (f:Fr):Nq.It:=⟨f.name,f.at_,sp f.sels⟩
theorem idx_it (fs:List Fr) (n:List UInt8):Nq.idx (fs.map Fr.it) n=fs.findIdx? (λf=>decide (f.name=n)):=by
 unfold Nq.idx;rw[List.findIdx?_map];rfl
end Dq
def Bm (lo:Nat) (v1 v2 v3:Value) (x:Nat):Prop:=lo≤x∧v1.ownBlock≠some x∧v2.ownBlock≠some x∧v3.ownBlock≠some x
structure DW (xb lo:Nat) (T6:TypeId) (mk:Value→Value→Array Value) (E1 E2:TypeId) (k1 k2:Nat) (v1 v2 v3:Value) (ds1 ds2:List D) (l:List Cp.Pb) (w:World):Prop where
 lx:xb<lo
 hi:lo≤w.heap.size
 b6:w.heap[xb]?=some (.cells (mk v1 v2) T6 (0,0))
 g1:AY w (Bm lo v1 v2 v3) lo E1 k1 v1 ds1
 g2:AY w (Bm lo v1 v2 v3) lo E2 k2 v2 ds2
 o3:Ab w lo v3 l
 n12:∀x,v1.ownBlock=some x→v2.ownBlock≠some x
 n13:∀x,v1.ownBlock=some x→v3.ownBlock≠some x
 n23:∀x,v2.ownBlock=some x→v3.ownBlock≠some x
section
variable {w w' w8 : World} {xb lo : Nat} {T6 : TypeId} {mk : Value → Value → Array Value} {E1 E2 : TypeId} {k1 k2 : Nat} {v1 v2 v3 v' : Value} {ds1 ds2 : List D} {l l' : List Cp.Pb} {d : D} {cs xs : List Value}
theorem DW.swap (h:DW xb lo T6 mk E1 E2 k1 k2 v1 v2 v3 ds1 ds2 l w):DW xb lo T6 (λx y=>mk y x) E2 E1 k2 k1 v2 v1 v3 ds2 ds1 l w:=by
 have e:AD w (Bm lo v1 v2 v3) w (Bm lo v2 v1 v3):=AD.sub w (λx _ hp=>⟨hp.1,hp.2.2.1,hp.2.1,hp.2.2.2⟩);exact⟨h.lx,h.hi,h.b6,h.g2.to e (λx e=>⟨λhp=>hp.2.1 e,rfl⟩),h.g1.to e (λx e=>⟨λhp=>hp.2.2.1 e,rfl⟩),h.o3,λx e1 e2=>h.n12 x e2 e1,h.n23,h.n13⟩
theorem DW.below (h:DW xb lo T6 mk E1 E2 k1 k2 v1 v2 v3 ds1 ds2 l w) (hb:Below w.heap.size w w'):DW xb lo T6 mk E1 E2 k1 k2 v1 v2 v3 ds1 ds2 l w':=by
 have e:AD w (Bm lo v1 v2 v3) w' (Bm lo v1 v2 v3):=⟨hb.size,λx hx hp=>⟨hp,hb.block x hx⟩⟩
 exact⟨h.lx,QQ h.hi hb.size,(hb.block _ (block_lt h.b6)).trans h.b6,h.g1.to e (λx hx=>⟨λhp=>hp.2.1 hx,hb.block x (h.g1.lt x hx).2⟩),h.g2.to e (λx hx=>⟨λhp=>hp.2.2.1 hx,hb.block x (h.g2.lt x hx).2⟩),h.o3.keep hb,h.n12,h.n13,h.n23⟩
theorem DW.data (h:DW xb lo T6 mk E1 E2 k1 k2 v1 v2 v3 ds1 ds2 l w) (hd:Reads w' (λx=>w.heap.size≤x) d cs):Reads w' (Bm lo v1 v2 v3) d cs :=
 hd.to (AD.sub w' (λx _ hp=>⟨QQ h.hi hp,λe=>by have o:=(h.g1.lt x e).2;have A:w.heap.size≤x:=hp;omega,λe=>by have o:=(h.g2.lt x e).2;have A:w.heap.size≤x:=hp;omega,λe=>by have o:=(h.o3.lt x e).2;have A:w.heap.size≤x:=hp;omega⟩))
theorem DW.more {j:Nat} (h:DW xb lo T6 mk E1 E2 k1 k2 v1 v2 v3 ds1 ds2 l w) (hx:w.ownsRow lo E1 k1 v1 ds1.length xs) (hR:AZ w (Bm lo v1 v2 v3) k1 ds1 xs) (hd:Reads w (Bm lo v1 v2 v3) d cs)
  (hlen:cs.length=k1) (hg:w.grownBy w8 v1.ownBlock) (hloc:v'.ownBlock=v1.ownBlock∨v'.ownBlock=some w.heap.size) (hrow:w8.ownsRow lo E1 k1 v' (ds1.length+1) (xs++cs)) (hmk:(mk v1 v2).setIfInBounds j v'=mk v' v2) :
  DW xb lo T6 mk E1 E2 k1 k2 v' v2 v3 (ds1++[d]) ds2 l (w8.setCell ⟨xb,j,none⟩ v'):=by
 have lx:=h.lx;have C:=hx.lt;have F:w.heap.size≤(w8.setCell ⟨xb,j,none⟩ v').heap.size:=by rw[AP];exact hg.size
 have G:∀x,x<w.heap.size→v1.ownBlock≠some x→w8.heap[x]?=w.heap[x]?:=λx hx3 hn=>hg.block x hx3 (λe=>hn e.symm)
 have E:∀x,x<w.heap.size→v1.ownBlock≠some x→x≠xb→(w8.setCell ⟨xb,j,none⟩ v').heap[x]?=w.heap[x]?:=λx h1 h2 h3=>by rw[AJ h3];exact G x h1 h2
 have D:∀x,x<lo→v1.ownBlock≠some x:=λx hx2 e=>by have:=C x e;omega
 have o:∀x,x<w.heap.size→v1.ownBlock≠some x→v'.ownBlock≠some x:=λx h1 h2 e=>by
  rcases hloc with e2|e2
  ·exact h2 (by rw[← e2];exact e)
  ·rw[e2]at e;simp only[Option.some.injEq]at e;omega
 have A:AD w (Bm lo v1 v2 v3) (w8.setCell ⟨xb,j,none⟩ v') (Bm lo v' v2 v3):=⟨F,λx hx2 hp=>⟨⟨hp.1,o x hx2 hp.2.1,hp.2.2⟩,E x hx2 hp.2.1 (by have:=hp.1;omega)⟩⟩
 have B:=block_lt h.b6;refine⟨lx,QQ h.hi F,?_,⟨⟨xs++cs,?_,(hR.to A).snoc (hd.to A) hlen⟩,λx e hp=>hp.2.1 e⟩,h.g2.to A (λx e=>⟨λhp=>hp.2.2.1 e,E x (h.g2.lt x e).2 (λe1=>h.n12 x e1 e) (by have:=(h.g2.lt x e).1;omega)⟩),h.o3.heap (λx e=>E x (h.o3.lt x e).2 (λe1=>h.n13 x e1 e) (by have:=(h.o3.lt x e).1;omega)),λx e1 e2=>?_,λx e1 e2=>?_,h.n23⟩
 ·rw[Ai (cs:=mk v1 v2) (T:=T6) (fz:=(0,0)) (by rw[G xb B (D xb lx)];exact h.b6),hmk]
 ·rw[QS];refine BG hrow (λx e=>AJ ?_);have:=(hrow.lt x e).1;omega
 ·exact o x (h.g2.lt x e2).2 (λe3=>h.n12 x e3 e2) e1
 ·exact o x (h.o3.lt x e2).2 (λe3=>h.n13 x e3 e2) e1
theorem DW.told (h:DW xb lo T6 mk E1 E2 k1 k2 v1 v2 v3 ds1 ds2 l w) (ho:Ab w8 lo v' l') (hg:w.grownBy w8 v3.ownBlock) (hloc:v'.ownBlock=v3.ownBlock∨v'.ownBlock=some w.heap.size) :
  DW xb lo T6 mk E1 E2 k1 k2 v1 v2 v' ds1 ds2 l' w8:=by
 have lx:=h.lx;have B:∀x,x<w.heap.size→v3.ownBlock≠some x→w8.heap[x]?=w.heap[x]?:=λx hx3 hn=>hg.block x hx3 (λe=>hn e.symm)
 have o:∀x,x<w.heap.size→v3.ownBlock≠some x→v'.ownBlock≠some x:=λx h1 h2 e=>by
  rcases hloc with e2|e2
  ·exact h2 (by rw[← e2];exact e)
  ·rw[e2]at e;simp only[Option.some.injEq]at e;omega
 have A:AD w (Bm lo v1 v2 v3) w8 (Bm lo v1 v2 v'):=⟨hg.size,λx hx2 hp=>⟨⟨hp.1,hp.2.1,hp.2.2.1,o x hx2 hp.2.2.2⟩,B x hx2 hp.2.2.2⟩⟩
 have C:=block_lt h.b6;exact⟨lx,QQ h.hi hg.size,(B xb C (λe=>by have:=(h.o3.lt xb e).1;omega)).trans h.b6,h.g1.to A (λx e=>⟨λhp=>hp.2.1 e,B x (h.g1.lt x e).2 (λe1=>h.n13 x e e1)⟩),
  h.g2.to A (λx e=>⟨λhp=>hp.2.2.1 e,B x (h.g2.lt x e).2 (λe1=>h.n23 x e e1)⟩),ho,h.n12,λx e1 e2=>o x (h.g1.lt x e1).2 (λe3=>h.n13 x e1 e3) e2,λx e1 e2=>o x (h.g2.lt x e1).2 (λe3=>h.n23 x e1 e3) e2⟩
theorem DW.reads (h:DW xb lo T6 mk E1 E2 k1 k2 v1 v2 v3 ds1 ds2 l w):Reads w (λx=>lo≤x) (.seq k1 ds1) [v1]∧Reads w (λx=>lo≤x) (.seq k2 ds2) [v2] :=
 ⟨h.g1.reads.to (AD.sub w (λx _ hp=>by
  rcases hp with hp|hp
  ·exact hp.1
  ·exact (h.g1.lt x hp).1)),h.g2.reads.to (AD.sub w (λx _ hp=>by
  rcases hp with hp|hp
  ·exact hp.1
  ·exact (h.g2.lt x hp).1))⟩
end
namespace Nq
def place:Option Nat→Int
 | some i=>i
 | none=>-1
end Nq
theorem Bl {α:Type} {p:α→Bool} {l:List α} {j:Nat} {x:α} (h:(l.take j).findIdx? p=none) (hx:l[j]?=some x) (hp:p x=false):(l.take (j+1)).findIdx? p=none:=by
 rw[List.findIdx?_eq_none_iff]at h ⊢;intro y hy;rw[List.take_add_one,hx,Option.toList_some]at hy;rcases List.mem_append.1 hy with h1|h1
 ·exact h y h1
 ·rw[List.mem_singleton.1 h1];exact hp
theorem CB {α:Type} {p:α→Bool} {l:List α} {j:Nat} {x:α} (h:(l.take j).findIdx? p=none) (hx:l[j]?=some x) (hp:p x=true):l.findIdx? p=some j:=by
 have o:j<l.length:=by
  rcases Nat.lt_or_ge j l.length with h'|h'
  ·exact h'
  ·rw[List.getElem?_eq_none h']at hx;cases hx
 rw[List.findIdx?_eq_some_iff_getElem];refine⟨o,?_,λm hm=>?_⟩
 ·rw[ZH o]at hx;rw[Option.some.inj hx];exact hp
 ·rw[List.findIdx?_eq_none_iff]at h;rw[h _ (List.mem_iff_getElem?.2 ⟨m,by rw[List.getElem?_take,if_pos hm,ZH (by omega)]⟩)];simp
theorem KC (k:FuncId) (cap:Array Value) (p:Dq.Fr→Bool) (hk:∀w (v:Value),Sem.run Tryz.prog (callFunc k (#[v]++cap)) w=.ok (.enter k (#[v]++cap)) w)
  (fs:List Dq.Fr) (hl:fs.length≤1000000000) (a:Option Addr) (c:Nat) (w:World) (hR:Reads w (λ_=>True) (.seq 5 (fs.map Dq.Fr.d)) [.slice a fs.length c])
  (hdo:∀x∈fs,∀(cs:List Value) (w1:World),Below w.heap.size w w1→Reads w1 (λ_=>True) x.d cs→Calls Tryz.prog k (#[.agg cs.toArray]++cap) w1 (λe w'=>e=.returned (.bool (p x))∧Below w1.heap.size w1 w')) :
  Calls Tryz.prog 31 #[.slice a fs.length c,.func (.func k) #[] cap] w (λe w'=>e=.returned (.int .i64 (Nq.place (fs.findIdx? p)))∧Below w.heap.size w w'):=by
 have V:=QA hR;have H:=QA hdo;clear hR hdo;go_enter Tryz.func31,Tryz.ntmps31;go_wp2_with fail
 go_loopg [8] (fs.length+1) (λk i wr=>∃j:Nat,k=fs.length+1-j∧j≤fs.length∧i=.int .i64 j∧(fs.take j).findIdx? p=none∧Below w.heap.size w wr)
 case atStart=>exact⟨0,rfl,ZT _,rfl,by simp,Below.refl _ _⟩
 case round =>
  obtain⟨j,E,W,rfl,M,K⟩:=hrel;have S:=QA E;have J:=QA M;have C:=QA K;clear E M K;by_cases hjl:j<fs.length
  ·have P:decide (j<fs.length)=true:=decide_eq_true hjl;obtain⟨x,hx⟩:∃x,fs[j]?=some x:=⟨fs[j],ZH hjl⟩
   obtain⟨g,o,cs,U,-,B,F,A,G⟩:=V.out.el j x.d (by rw[ZG,hx];rfl);have N:=QA (H.out x (QZ hx) cs wr C.out (G.to (AD.below C.out)));obtain⟨Y,Z,c2,X,rfl,-⟩:=Dq.Fr.opened G;subst U;have Q:wr.cell? ⟨g,o+j*5,none⟩=_:=(C.out.cell (p:=⟨g,o+j*5,none⟩) B).trans (A 0 _ rfl);have k1:wr.cell? ⟨g,o+j*5+1,none⟩=_:=(C.out.cell (p:=⟨g,o+j*5+1,none⟩) B).trans (A 1 _ rfl);have T:wr.cell? ⟨g,o+j*5+2,none⟩=_:=(C.out.cell (p:=⟨g,o+j*5+2,none⟩) B).trans (A 2 _ rfl);have O:wr.cell? ⟨g,o+j*5+3,none⟩=_:=(C.out.cell (p:=⟨g,o+j*5+3,none⟩) B).trans (A 3 _ rfl);have R:wr.cell? ⟨g,o+j*5+4,none⟩=_:=(C.out.cell (p:=⟨g,o+j*5+4,none⟩) B).trans (A 4 _ rfl);have L:=QA hx;clear hx G A F B;go_wp2_with fail;refine N.out.mono ?_;rintro e w2 ⟨rfl,hb2⟩;have D:=QA (C.out.trans (hb2.mono C.out.size));clear hb2 N Q k1 T O R;cases hp:p x
   ·have I:=QA hp;clear hp;go_wp2_with fail;go_roundg (fs.length+1-(j+1))
    case measure=>rw[S.out];omega
    case rel=>exact⟨j+1,rfl,hjl,by go_num,Bl J.out L.out I.out,D.out⟩
   ·have I:=QA hp;clear hp;go_wp2_with fail;go_ret;exact⟨by rw[CB J.out L.out I.out];rfl,D.out⟩
  ·have P:decide (j<fs.length)=false:=decide_eq_false hjl;obtain rfl:j=fs.length:=by omega
   go_wp2_with fail;go_ret;exact⟨by have:=J.out;rw[ZE]at this;rw[this];rfl,C.out⟩
theorem Ju (k:FuncId) (cap:Array Value) (p:Dq.Op→Bool) (hk:∀w (v:Value),Sem.run Tryz.prog (callFunc k (#[v]++cap)) w=.ok (.enter k (#[v]++cap)) w)
  (fs:List Dq.Op) (hl:fs.length≤1000000000) (a:Option Addr) (c:Nat) (w:World) (hR:Reads w (λ_=>True) (.seq 6 (fs.map Dq.Op.d)) [.slice a fs.length c])
  (hdo:∀x∈fs,∀(cs:List Value) (w1:World),Below w.heap.size w w1→Reads w1 (λ_=>True) x.d cs→Calls Tryz.prog k (#[.agg cs.toArray]++cap) w1 (λe w'=>e=.returned (.bool (p x))∧Below w1.heap.size w1 w')) :
  Calls Tryz.prog 13 #[.slice a fs.length c,.func (.func k) #[] cap] w (λe w'=>e=.returned (.int .i64 (Nq.place (fs.findIdx? p)))∧Below w.heap.size w w'):=by
 have V:=QA hR;have H:=QA hdo;clear hR hdo;go_enter Tryz.func13,Tryz.ntmps13;go_wp2_with fail
 go_loopg [8] (fs.length+1) (λk i wr=>∃j:Nat,k=fs.length+1-j∧j≤fs.length∧i=.int .i64 j∧(fs.take j).findIdx? p=none∧Below w.heap.size w wr)
 case atStart=>exact⟨0,rfl,ZT _,rfl,by simp,Below.refl _ _⟩
 case round =>
  obtain⟨j,E,W,rfl,M,K⟩:=hrel;have S:=QA E;have J:=QA M;have C:=QA K;clear E M K;by_cases hjl:j<fs.length
  ·have P:decide (j<fs.length)=true:=decide_eq_true hjl;obtain⟨x,hx⟩:∃x,fs[j]?=some x:=⟨fs[j],ZH hjl⟩
   obtain⟨g,o,cs,U,-,B,F,A,G⟩:=V.out.el j x.d (by rw[ZG,hx];rfl);have N:=QA (H.out x (QZ hx) cs wr C.out (G.to (AD.below C.out)));obtain⟨Z,Y,a3,c1,c2,X,rfl,-⟩:=Dq.Op.opened G;subst U;have Q:wr.cell? ⟨g,o+j*6,none⟩=_:=(C.out.cell (p:=⟨g,o+j*6,none⟩) B).trans (A 0 _ rfl);have k1:wr.cell? ⟨g,o+j*6+1,none⟩=_:=(C.out.cell (p:=⟨g,o+j*6+1,none⟩) B).trans (A 1 _ rfl);have T:wr.cell? ⟨g,o+j*6+2,none⟩=_:=(C.out.cell (p:=⟨g,o+j*6+2,none⟩) B).trans (A 2 _ rfl);have O:wr.cell? ⟨g,o+j*6+3,none⟩=_:=(C.out.cell (p:=⟨g,o+j*6+3,none⟩) B).trans (A 3 _ rfl);have R:wr.cell? ⟨g,o+j*6+4,none⟩=_:=(C.out.cell (p:=⟨g,o+j*6+4,none⟩) B).trans (A 4 _ rfl);have k5:wr.cell? ⟨g,o+j*6+5,none⟩=_:=(C.out.cell (p:=⟨g,o+j*6+5,none⟩) B).trans (A 5 _ rfl);have L:=QA hx;clear hx G A F B;go_wp2_with fail;refine N.out.mono ?_;rintro e w2 ⟨rfl,hb2⟩;have D:=QA (C.out.trans (hb2.mono C.out.size));clear hb2 N Q k1 T O R k5;cases hp:p x
   ·have I:=QA hp;clear hp;go_wp2_with fail;go_roundg (fs.length+1-(j+1))
    case measure=>rw[S.out];omega
    case rel=>exact⟨j+1,rfl,hjl,by go_num,Bl J.out L.out I.out,D.out⟩
   ·have I:=QA hp;clear hp;go_wp2_with fail;go_ret;exact⟨by rw[CB J.out L.out I.out];rfl,D.out⟩
  ·have P:decide (j<fs.length)=false:=decide_eq_false hjl;obtain rfl:j=fs.length:=by omega
   go_wp2_with fail;go_ret;exact⟨by have:=J.out;rw[ZE]at this;rw[this];rfl,C.out⟩
theorem Eb (cap:Array Value) (w:World) (v:Value):Sem.run Tryz.prog (callFunc 32 (#[v]++cap)) w=.ok (.enter 32 (#[v]++cap)) w:=by kernel_rfl
theorem G9 (x:Dq.Fr) (cs:List Value) (n:List UInt8) (b:Nat) (w:World) (hd:Reads w (λ_=>True) x.d cs) (hb:w.cell? ⟨b,0,none⟩=some (.string ⟨n.toArray⟩)) :
  Calls Tryz.prog 32 (#[.agg cs.toArray]++#[.pointer (some ⟨b,0,none⟩)]) w (λe w'=>e=.returned (.bool (decide (x.name=n)))∧Below w.heap.size w w'):=by
 obtain⟨E,B,c2,D,rfl,-⟩:=Dq.Fr.opened hd;have o:Below w.heap.size w (w.alloc (.cells #[.string ⟨x.name.toArray⟩,.string ⟨x.on.toArray⟩,.slice E x.dirs.length c2,.slice B x.sels.length D,.int .i64 x.at_] 36)):=(Below.refl _ _).alloc (QM _) _;have kb:(w.alloc (.cells #[.string ⟨x.name.toArray⟩,.string ⟨x.on.toArray⟩,.slice E x.dirs.length c2,.slice B x.sels.length D,.int .i64 x.at_] 36)).cell? ⟨b,0,none⟩=some (.string ⟨n.toArray⟩):=(o.cell (p:=⟨b,0,none⟩) (BK hb)).trans hb;have C:=QA o;obtain⟨z,G⟩:∃q,(x.name==n)=q:=⟨_,rfl⟩
 have A:decide (x.name=n)=z:=by rw[← G];by_cases h:x.name=n<;>simp[h]
 have F:=QA A;clear hd hb o A;show Calls Tryz.prog 32 #[.agg #[.string ⟨x.name.toArray⟩,.string ⟨x.on.toArray⟩,.slice E x.dirs.length c2,.slice B x.sels.length D,.int .i64 x.at_],.pointer (some ⟨b,0,none⟩)] w _;go_enter Tryz.func32,Tryz.ntmps32;go_wp2_with fail;go_ret;exact⟨by rw[F.out];rfl,C.out⟩
theorem DO (fs:List Dq.Fr) (hl:fs.length≤1000000000) (a1:Option Addr) (n1 c1:Nat) (a2:Option Addr) (c2:Nat) (n:List UInt8) (w:World) (hR:Reads w (λ_=>True) (.seq 5 (fs.map Dq.Fr.d)) [.slice a2 fs.length c2]) :
  Calls Tryz.prog 16 #[.agg #[.slice a1 n1 c1,.slice a2 fs.length c2],.string ⟨n.toArray⟩] w (λe w'=>e=.returned (.int .i64 (Nq.place (Nq.idx (fs.map Dq.Fr.it) n)))∧Below w.heap.size w w'):=by
 have o:Below w.heap.size w ((w.alloc (.cells #[.slice a1 n1 c1,.slice a2 fs.length c2] 29)).alloc (.cells #[.string ⟨n.toArray⟩] 9)):=((Below.refl _ _).alloc (QM _) _).alloc (by simp) _;have A:((w.alloc (.cells #[.slice a1 n1 c1,.slice a2 fs.length c2] 29)).alloc (.cells #[.string ⟨n.toArray⟩] 9)).heap[w.heap.size+1]?=some (.cells #[.string ⟨n.toArray⟩] 9 (0,0)):=by
  have h:=AC (w.alloc (.cells #[.slice a1 n1 c1,.slice a2 fs.length c2] 29)) (.cells #[.string ⟨n.toArray⟩] 9);rw[show (w.alloc (.cells #[.slice a1 n1 c1,.slice a2 fs.length c2] 29)).heap.size=w.heap.size+1 by simp]at h;exact h
 have D:((w.alloc (.cells #[.slice a1 n1 c1,.slice a2 fs.length c2] 29)).alloc (.cells #[.string ⟨n.toArray⟩] 9)).heap.size=w.heap.size+2:=by simp
 have E:=QA (KC 32 #[.pointer (some ⟨w.heap.size+1,0,none⟩)] (λx=>decide (x.name=n)) (λw v=>Eb _ w v) fs hl a2 c2 ((w.alloc (.cells #[.slice a1 n1 c1,.slice a2 fs.length c2] 29)).alloc (.cells #[.string ⟨n.toArray⟩] 9)) (hR.to (AD.below o))
  (λx _ cs w1 hb1 hd1=>G9 x cs n (w.heap.size+1) w1 hd1 (AA ((hb1.block _ (by omega)).trans A) 0 _ rfl)))
 have B:=QA o;have F:=QA (Dq.idx_it fs n);clear hR o A D;go_enter Tryz.func16,Tryz.ntmps16;go_wp2_with fail;refine E.out.mono ?_;rintro e w1 ⟨rfl,hb1⟩;have C:=QA (B.out.trans (hb1.mono B.out.size));clear hb1 E;go_wp2_with fail;go_ret;exact⟨by rw[F.out];rfl,C.out⟩
theorem Ig (fs:List Dq.Fr) (hl:fs.length≤1000000000) (a1:Option Addr) (n1 c1:Nat) (a2:Option Addr) (c2:Nat) (n:List UInt8) (w:World) (P:Nat→Prop) (hR:Reads w P (.seq 5 (fs.map Dq.Fr.d)) [.slice a2 fs.length c2]) :
  Calls Tryz.prog 28 #[.agg #[.slice a1 n1 c1,.slice a2 fs.length c2],.string ⟨n.toArray⟩] w (λe w'=>Below w.heap.size w w' ∧
   (
    (fs.find? (λf=>decide (f.name=n))=none∧e=.returned (.tuple #[.agg #[.string ⟨#[]⟩,.string ⟨#[]⟩,.slice none 0 0,.slice none 0 0,.int .i64 0],.bool false])) ∨
    (∃x cs,fs.find? (λf=>decide (f.name=n))=some x∧Reads w P x.d cs∧e=.returned (.tuple #[.agg cs.toArray,.bool true])))):=by
 have H:Below w.heap.size w ((w.alloc (.cells #[.slice a1 n1 c1,.slice a2 fs.length c2] 29)).alloc (.cells #[.string ⟨#[]⟩,.string ⟨#[]⟩,.slice none 0 0,.slice none 0 0,.int .i64 0] 36)):=((Below.refl _ _).alloc (QM _) _).alloc (by simp) _;have L:Reads w (λ_=>True) (.seq 5 (fs.map Dq.Fr.d)) [.slice a2 fs.length c2]:=hR.to (AD.sub w (λ_ _ _=>trivial));have N:((w.alloc (.cells #[.slice a1 n1 c1,.slice a2 fs.length c2] 29)).alloc (.cells #[.string ⟨#[]⟩,.string ⟨#[]⟩,.slice none 0 0,.slice none 0 0,.int .i64 0] 36)).heap[w.heap.size]?=some (.cells #[.slice a1 n1 c1,.slice a2 fs.length c2] 29 (0,0)):=by
  rw[Lib.alloc_old _ _ _ (by simp)];exact AC _ _
 have K:((w.alloc (.cells #[.slice a1 n1 c1,.slice a2 fs.length c2] 29)).alloc (.cells #[.string ⟨#[]⟩,.string ⟨#[]⟩,.slice none 0 0,.slice none 0 0,.int .i64 0] 36)).heap[w.heap.size+1]?=some (.cells #[.string ⟨#[]⟩,.string ⟨#[]⟩,.slice none 0 0,.slice none 0 0,.int .i64 0] 36 (0,0)):=by
  have h:=AC (w.alloc (.cells #[.slice a1 n1 c1,.slice a2 fs.length c2] 29)) (.cells #[.string ⟨#[]⟩,.string ⟨#[]⟩,.slice none 0 0,.slice none 0 0,.int .i64 0] 36);rw[show (w.alloc (.cells #[.slice a1 n1 c1,.slice a2 fs.length c2] 29)).heap.size=w.heap.size+1 by simp]at h;exact h
 have O:((w.alloc (.cells #[.slice a1 n1 c1,.slice a2 fs.length c2] 29)).alloc (.cells #[.string ⟨#[]⟩,.string ⟨#[]⟩,.slice none 0 0,.slice none 0 0,.int .i64 0] 36)).heap.size=w.heap.size+2:=by simp
 have HC:=QA (DO fs hl a1 n1 c1 a2 c2 n ((w.alloc (.cells #[.slice a1 n1 c1,.slice a2 fs.length c2] 29)).alloc (.cells #[.string ⟨#[]⟩,.string ⟨#[]⟩,.slice none 0 0,.slice none 0 0,.int .i64 0] 36)) (L.to (AD.below H)));have I:=QA H;have HR:=QA hR;have Y:=QA N;have X:=QA K;have S:=QA O;have HE:=QA (Dq.idx_it fs n);clear hR L H N K O;go_enter Tryz.func28,Tryz.ntmps28;go_wp2_with fail;refine HC.out.mono ?_;rintro e w1 ⟨rfl,hb1⟩;have B:=QA (I.out.trans (hb1.mono I.out.size));have M:w1.heap[w.heap.size]?=_:=(hb1.block _ (by have:=S.out;omega)).trans Y.out;have R:w1.heap[w.heap.size+1]?=_:=(hb1.block _ (by have:=S.out;omega)).trans X.out;have A:=QA R;have W:=QA M;rw[HE.out];clear hb1 HC M R;have z0:w1.cell? ⟨w.heap.size+1,0,none⟩=some (.string ⟨#[]⟩):=AA A.out 0 _ rfl;have Z:w1.frozen? ⟨w.heap.size+1,0,none⟩=false:=AE A.out 0;have z1:w1.cell? ⟨w.heap.size+1,1,none⟩=some (.string ⟨#[]⟩):=AA A.out 1 _ rfl;have y1:w1.frozen? ⟨w.heap.size+1,1,none⟩=false:=AE A.out 1;have z2:w1.cell? ⟨w.heap.size+1,2,none⟩=some (.slice none 0 0):=AA A.out 2 _ rfl;have y2:w1.frozen? ⟨w.heap.size+1,2,none⟩=false:=AE A.out 2;have z3:w1.cell? ⟨w.heap.size+1,3,none⟩=some (.slice none 0 0):=AA A.out 3 _ rfl;have y3:w1.frozen? ⟨w.heap.size+1,3,none⟩=false:=AE A.out 3;have z4:w1.cell? ⟨w.heap.size+1,4,none⟩=some (.int .i64 0):=AA A.out 4 _ rfl;have y4:w1.frozen? ⟨w.heap.size+1,4,none⟩=false:=AE A.out 4;have z9:w1.cell? ⟨w.heap.size,1,none⟩=some (.slice a2 fs.length c2):=AA W.out 1 _ rfl;have E:∀(u0 u1 u2 u3 u4:Value),Below w.heap.size w (((((w1.setCell ⟨w.heap.size+1,0,none⟩ u0).setCell ⟨w.heap.size+1,1,none⟩ u1).setCell ⟨w.heap.size+1,2,none⟩ u2).setCell ⟨w.heap.size+1,3,none⟩ u3).setCell ⟨w.heap.size+1,4,none⟩ u4):=λu0 u1 u2 u3 u4 =>
  ((((B.out.setCell (by simp) u0).setCell (by simp) u1).setCell (by simp) u2).setCell (by simp) u3).setCell (by simp) u4
 have F:=QA E;clear E;cases hix:fs.findIdx? (λf=>decide (f.name=n)) with
 | none =>
  have U:Hid (fs.find? (λf=>decide (f.name=n))=none):=QA (by
   rw[List.findIdx?_eq_none_iff]at hix;rw[List.find?_eq_none];intro x hx;rw[hix x hx];simp)
  clear hix;rw[show Nq.place none=-1 from rfl];go_wp2_with fail;refine bodyPost_ret (v:=.tuple #[.agg #[.string ⟨#[]⟩,.string ⟨#[]⟩,.slice none 0 0,.slice none 0 0,.int .i64 0],.bool false]) (by simp[results,Tryz.results28,go_sem,z0,Z,z1,y1,z2,y2,z3,y3,z4,y4]) rfl ?_;exact⟨F.out _ _ _ _ _,.inl ⟨U.out,rfl⟩⟩
 | some i =>
  rw[List.findIdx?_eq_some_iff_getElem]at hix;obtain⟨G,T,J⟩:=hix;have U:Hid (fs.find? (λf=>decide (f.name=n))=some fs[i]):=QA (by
   rw[List.find?_eq_some_iff_getElem];exact⟨T,i,G,rfl,λm hm=>by have:=J m hm;simpa using this⟩)
  obtain⟨x,hx⟩:∃x,x=fs[i]:=⟨_,rfl⟩
  rw[← hx]at U;obtain⟨g,D,cs,ha,-,C,Q,o,V⟩:=HR.out.el i x.d (by rw[ZG,ZH G,← hx];rfl);have HD:=QA V;obtain⟨a4,a3,c4,c3,rfl,-⟩:=Dq.Fr.opened V;subst ha;have k0:w1.cell? ⟨g,D+i*5,none⟩=_:=(B.out.cell (p:=⟨g,D+i*5,none⟩) C).trans (o 0 _ rfl);have k1:w1.cell? ⟨g,D+i*5+1,none⟩=_:=(B.out.cell (p:=⟨g,D+i*5+1,none⟩) C).trans (o 1 _ rfl);have k2:w1.cell? ⟨g,D+i*5+2,none⟩=_:=(B.out.cell (p:=⟨g,D+i*5+2,none⟩) C).trans (o 2 _ rfl);have k3:w1.cell? ⟨g,D+i*5+3,none⟩=_:=(B.out.cell (p:=⟨g,D+i*5+3,none⟩) C).trans (o 3 _ rfl);have k4:w1.cell? ⟨g,D+i*5+4,none⟩=_:=(B.out.cell (p:=⟨g,D+i*5+4,none⟩) C).trans (o 4 _ rfl);have e5:decide (i<fs.length)=true:=decide_eq_true G;have e6:decide ((i:Int)<0)=false:=decide_eq_false (by omega);clear hx V o Q C T J;rw[show Nq.place (some i)=(i:Int) from rfl];go_wp2_with fail;refine bodyPost_ret (v:=.tuple #[.agg #[.string ⟨x.name.toArray⟩,.string ⟨x.on.toArray⟩,.slice a4 x.dirs.length c4,.slice a3 x.sels.length c3,.int .i64 x.at_],.bool true]) (by simp[results,Tryz.results28,go_sem,z0,Z,z1,y1,z2,y2,z3,y3,z4,y4]) rfl ?_;exact⟨F.out _ _ _ _ _,.inr ⟨x,_,U.out,HD.out,rfl⟩⟩
theorem B8 {lo n k:Nat} {E:TypeId} {v:Value} {cs:List Value} {w1 wr w8:World} (h:Below lo w1 wr) (hx:wr.ownsRow lo E k v n cs) (hs:lo≤wr.heap.size) (hg:wr.grownBy w8 v.ownBlock):Below lo w1 w8 :=
 ⟨hg.os.trans h.os,hg.tape.trans h.tape,hg.output.trans h.output,QQ h.size hg.size,λk hk=>by rw[hg.block k (by omega) (λe=>by have:=(hx.lt k e.symm).1;omega)];exact h.block k hk⟩
theorem Az {w wr w10:World} {P:Nat→Prop} (hP:∀g,P g→g<w.heap.size) (h1:Below w.heap.size w wr) (h2:Below w.heap.size w w10) (hs:wr.heap.size≤w10.heap.size):AD wr P w10 P :=
 ⟨hs,λg _ hp=>⟨hp,(h2.block g (hP g hp)).trans (h1.block g (hP g hp)).symm⟩⟩
theorem AY.of_rows {w:World} {P:Nat→Prop} {base k:Nat} {E:TypeId} {v:Value} {xs:List D} {cs:List Value} (hP:∀g,P g→g<base) (hrow:w.ownsRow base E k v xs.length cs) (hr:AZ w P k xs cs):AY w P base E k v xs :=
 ⟨⟨cs,hrow,hr⟩,λg hg hp=>by have:=(hrow.lt g hg).1;have:=hP g hp;omega⟩
def FV (l:List Dq.Sel) (w:World) (P:Nat→Prop) (e:Ending) (w':World):Prop :=
 ∃v,e=.returned v∧Below w.heap.size w w'∧AY w' P w.heap.size 34 7 v ((Dq.Sel.sprl l).map Dq.Sel.d)
set_option maxHeartbeats 8000000 in
theorem IU:∀(N:Nat) (l:List Dq.Sel),Dq.Sel.numl l<N→Dq.Sel.numl l≤1000000000→∀(a:Option Addr) (c:Nat) (w:World) (P:Nat→Prop),(∀g,P g→g<w.heap.size) →
  Reads w P (.seq 7 (l.map Dq.Sel.d)) [.slice a l.length c]→Calls Tryz.prog 27 #[.slice a l.length c] w (FV l w P):=by
 intro N
 induction N with
 | zero=>intro l h;omega
 | succ N ih =>
 intro l hN hn a c w P hP hR;have a0:=Dq.Sel.num_len l;have a7:=Dq.Sel.sprl_num l;obtain⟨i0,hi,an,ag,ai⟩:=info_parts Dw;have aH:=QA ih;have HP:=QA hP;have HR:=QA hR;clear ih hP hR;go_enter Tryz.func27,Tryz.ntmps27;go_wp2_with fail
 go_loopg [3,8] (l.length+1) (λk v i wr=>∃j:Nat,k=l.length+1-j∧j≤l.length∧i=.int .i64 j∧Below w.heap.size w wr∧AY wr P w.heap.size 34 7 v ((Dq.Sel.sprl (l.take j)).map Dq.Sel.d))
 case atStart=>exact⟨0,rfl,ZT _,rfl,Below.refl _ _,AY.nil _ _ _ _ _⟩
 case round =>
  obtain⟨j,aw,hj,rfl,hb,al⟩:=hrel;have HK:=QA aw;have V:=QA hb;have HG:=QA al;obtain⟨va,vc,hv⟩:=al.form;rw[QV]at hv;have aV:(Dq.Sel.sprl (l.take j)).length≤(Dq.Sel.sprl l).length:=Dq.Sel.sprl_le;have a5:=hb.size;clear aw hb al;by_cases hjl:j<l.length;rotate_left
  ·have e5:decide (j<l.length)=false:=decide_eq_false hjl;obtain rfl:j=l.length:=by omega
   go_wp2_with fail;go_ret;exact⟨_,rfl,V.out,by have:=HG.out;rw[ZE]at this;exact this⟩
  have e5:decide (j<l.length)=true:=decide_eq_true hjl;obtain⟨x,hx⟩:∃x,l[j]?=some x:=⟨l[j],ZH hjl⟩
  have aK:=QZ hx;have ba:=Dq.Sel.num_mem aK;have ak:=QA (Dq.Sel.sprl_take hx);have af:(Dq.Sel.sprl (l.take (j+1))).length≤(Dq.Sel.sprl l).length:=Dq.Sel.sprl_le;rw[ak.out,QS,QS]at af;obtain⟨g,o,cs,ha,-,U,ax,A,hd⟩:=HR.out.el j x.d (by rw[ZG,hx];rfl);have HD:=QA hd;obtain⟨G,F,C,c1,c2,D,rfl,-,-,az⟩:=Dq.Sel.opened hd;subst ha;have k0:wr.cell? ⟨g,o+j*7,none⟩=_:=(V.out.cell (p:=⟨g,o+j*7,none⟩) U).trans (A 0 _ rfl);have k1:wr.cell? ⟨g,o+j*7+1,none⟩=_:=(V.out.cell (p:=⟨g,o+j*7+1,none⟩) U).trans (A 1 _ rfl);have k2:wr.cell? ⟨g,o+j*7+2,none⟩=_:=(V.out.cell (p:=⟨g,o+j*7+2,none⟩) U).trans (A 2 _ rfl);have k3:wr.cell? ⟨g,o+j*7+3,none⟩=_:=(V.out.cell (p:=⟨g,o+j*7+3,none⟩) U).trans (A 3 _ rfl);have k4:wr.cell? ⟨g,o+j*7+4,none⟩=_:=(V.out.cell (p:=⟨g,o+j*7+4,none⟩) U).trans (A 4 _ rfl);have k5:wr.cell? ⟨g,o+j*7+5,none⟩=_:=(V.out.cell (p:=⟨g,o+j*7+5,none⟩) U).trans (A 5 _ rfl);have k6:wr.cell? ⟨g,o+j*7+6,none⟩=_:=(V.out.cell (p:=⟨g,o+j*7+6,none⟩) U).trans (A 6 _ rfl);have aS:=QA az;have au:Hid (∀(w8:World),Below w.heap.size w w8→Calls Tryz.prog 27 #[.slice C x.sels.length D] w8 (FV x.sels w8 P)):=QA (λw8 hb8=>aH.out x.sels (by omega) (by omega) C D w8 P (λg hg=>Nat.lt_of_lt_of_le (HP.out g hg) hb8.size) (aS.out.to (AD.below hb8)));obtain⟨m,hm⟩:∃m,m=(Dq.Sel.sprl (l.take j)).length:=⟨_,rfl⟩
  have HM:=QA hm;rw[← hm]at hv aV af;subst hv;obtain⟨kb,aI⟩:∃q,(x.kind==2)=q:=⟨_,rfl⟩
  have aA:=QA aI;clear hx hd az A ax U hm;cases kb;rotate_left
  ·obtain⟨I,B,R⟩:=HG.out.row;rw[QV,← HM.out]at B;have Z:Hid (((wr.alloc (.cells #[.int .i64 x.kind,.string ⟨x.nick.toArray⟩,.string ⟨x.name.toArray⟩,.slice G x.args.length c1,.slice F x.dirs.length c2,.slice C x.sels.length D,.int .i64 x.at_] 34)).alloc (.cells #[.int .i64 x.kind,.string ⟨x.nick.toArray⟩,.string ⟨x.name.toArray⟩,.slice G x.args.length c1,.slice F x.dirs.length c2,.slice C x.sels.length D,.int .i64 x.at_] 34)).ownsRow w.heap.size 34 7 (.slice va m vc) m I):=QA ((B.alloc _).alloc _);have W:Hid (Below w.heap.size w ((wr.alloc (.cells #[.int .i64 x.kind,.string ⟨x.nick.toArray⟩,.string ⟨x.name.toArray⟩,.slice G x.args.length c1,.slice F x.dirs.length c2,.slice C x.sels.length D,.int .i64 x.at_] 34)).alloc (.cells #[.int .i64 x.kind,.string ⟨x.nick.toArray⟩,.string ⟨x.name.toArray⟩,.slice G x.args.length c1,.slice F x.dirs.length c2,.slice C x.sels.length D,.int .i64 x.at_] 34))):=QA ((V.out.alloc V.out.size _).alloc (by have:=V.out.size;simp;omega) _);have ay:((wr.alloc (.cells #[.int .i64 x.kind,.string ⟨x.nick.toArray⟩,.string ⟨x.name.toArray⟩,.slice G x.args.length c1,.slice F x.dirs.length c2,.slice C x.sels.length D,.int .i64 x.at_] 34)).alloc (.cells #[.int .i64 x.kind,.string ⟨x.nick.toArray⟩,.string ⟨x.name.toArray⟩,.slice G x.args.length c1,.slice F x.dirs.length c2,.slice C x.sels.length D,.int .i64 x.at_] 34)).cell? ⟨wr.heap.size,5,none⟩=some (.slice C x.sels.length D):=by
    have h1:((wr.alloc (.cells #[.int .i64 x.kind,.string ⟨x.nick.toArray⟩,.string ⟨x.name.toArray⟩,.slice G x.args.length c1,.slice F x.dirs.length c2,.slice C x.sels.length D,.int .i64 x.at_] 34)).alloc (.cells #[.int .i64 x.kind,.string ⟨x.nick.toArray⟩,.string ⟨x.name.toArray⟩,.slice G x.args.length c1,.slice F x.dirs.length c2,.slice C x.sels.length D,.int .i64 x.at_] 34)).heap[wr.heap.size]?=some (.cells #[.int .i64 x.kind,.string ⟨x.nick.toArray⟩,.string ⟨x.name.toArray⟩,.slice G x.args.length c1,.slice F x.dirs.length c2,.slice C x.sels.length D,.int .i64 x.at_] 34 (0,0)):=by
     rw[Lib.alloc_old _ _ _ (by simp)];exact AC _ _
    exact AA h1 5 _ rfl
   have aN:=QA ay;have av:Hid (∀j u,([.int .i64 x.kind,.string ⟨x.nick.toArray⟩,.string ⟨x.name.toArray⟩,.slice G x.args.length c1,.slice F x.dirs.length c2,.slice C x.sels.length D,.int .i64 x.at_]:List Value)[j]?=some u→((wr.alloc (.cells #[.int .i64 x.kind,.string ⟨x.nick.toArray⟩,.string ⟨x.name.toArray⟩,.slice G x.args.length c1,.slice F x.dirs.length c2,.slice C x.sels.length D,.int .i64 x.at_] 34)).alloc (.cells #[.int .i64 x.kind,.string ⟨x.nick.toArray⟩,.string ⟨x.name.toArray⟩,.slice G x.args.length c1,.slice F x.dirs.length c2,.slice C x.sels.length D,.int .i64 x.at_] 34)).cell? ((⟨wr.heap.size+1,0,none⟩:Addr).add j)=some u):=by
    have:=AU (w:=((wr.alloc (.cells #[.int .i64 x.kind,.string ⟨x.nick.toArray⟩,.string ⟨x.name.toArray⟩,.slice G x.args.length c1,.slice F x.dirs.length c2,.slice C x.sels.length D,.int .i64 x.at_] 34)).alloc (.cells #[.int .i64 x.kind,.string ⟨x.nick.toArray⟩,.string ⟨x.name.toArray⟩,.slice G x.args.length c1,.slice F x.dirs.length c2,.slice C x.sels.length D,.int .i64 x.at_] 34))) (L:=wr.heap.size+1) (zs:=[.int .i64 x.kind,.string ⟨x.nick.toArray⟩,.string ⟨x.name.toArray⟩,.slice G x.args.length c1,.slice F x.dirs.length c2,.slice C x.sels.length D,.int .i64 x.at_]) (T:=34) (fz:=(0,0)) (by
     have h1:=AC (wr.alloc (.cells #[.int .i64 x.kind,.string ⟨x.nick.toArray⟩,.string ⟨x.name.toArray⟩,.slice G x.args.length c1,.slice F x.dirs.length c2,.slice C x.sels.length D,.int .i64 x.at_] 34)) (.cells #[.int .i64 x.kind,.string ⟨x.nick.toArray⟩,.string ⟨x.name.toArray⟩,.slice G x.args.length c1,.slice F x.dirs.length c2,.slice C x.sels.length D,.int .i64 x.at_] 34);rw[show (wr.alloc (.cells #[.int .i64 x.kind,.string ⟨x.nick.toArray⟩,.string ⟨x.name.toArray⟩,.slice G x.args.length c1,.slice F x.dirs.length c2,.slice C x.sels.length D,.int .i64 x.at_] 34)).heap.size=wr.heap.size+1 by simp]at h1;exact h1)
    exact QA this
   have ao:w.heap.size≤((wr.alloc (.cells #[.int .i64 x.kind,.string ⟨x.nick.toArray⟩,.string ⟨x.name.toArray⟩,.slice G x.args.length c1,.slice F x.dirs.length c2,.slice C x.sels.length D,.int .i64 x.at_] 34)).alloc (.cells #[.int .i64 x.kind,.string ⟨x.nick.toArray⟩,.string ⟨x.name.toArray⟩,.slice G x.args.length c1,.slice F x.dirs.length c2,.slice C x.sels.length D,.int .i64 x.at_] 34)).heap.size:=W.out.size;have Y:=QA R;have ad:∀g,(Value.slice va m vc).ownBlock=some g→g≠wr.heap.size:=λg hg=>by have:=(B.lt g hg).2;omega
   have aD:=QA ad;clear ay R B ad;go_wp2_with (first|(at_builtin;refine wpList_append_own_at _ rfl _ _ 32 rfl w.heap.size 34 i0 _ 7 120 Tryz.underlying32 hi an ag ai rfl (by decide) (.slice va m vc) m I rfl Z.out ⟨wr.heap.size+1,0,none⟩ 1 1 [.int .i64 x.kind,.string ⟨x.nick.toArray⟩,.string ⟨x.name.toArray⟩,.slice G x.args.length c1,.slice F x.dirs.length c2,.slice C x.sels.length D,.int .i64 x.at_] rfl rfl av.out HD.out.one (by unfold maxLen;omega) (by omega) ao ?_;intro v' w8 hrow8 hg8 hnil8 hloc8;clear hnil8;have ae:=QA hrow8;have aC:=QA hg8;have aW:=QA hloc8;have aR:w8.cell? ⟨wr.heap.size,5,none⟩=some (.slice C x.sels.length D):=hg8.cell aN.out (λe=>aD.out _ e.symm rfl);clear hrow8 hg8 hloc8)|fail);have ah:Hid (Below w.heap.size w w8):=QA (B8 W.out Z.out W.out.size aC.out);have aZ:=aC.out.size;have ab:wr.heap.size≤w8.heap.size:=by
    have h:((wr.alloc (.cells #[.int .i64 x.kind,.string ⟨x.nick.toArray⟩,.string ⟨x.name.toArray⟩,.slice G x.args.length c1,.slice F x.dirs.length c2,.slice C x.sels.length D,.int .i64 x.at_] 34)).alloc (.cells #[.int .i64 x.kind,.string ⟨x.nick.toArray⟩,.string ⟨x.name.toArray⟩,.slice G x.args.length c1,.slice F x.dirs.length c2,.slice C x.sels.length D,.int .i64 x.at_] 34)).heap.size=wr.heap.size+2:=by simp
    omega
   go_wp2_with fail;refine (au.out w8 ah.out).mono ?_;rintro e w9 ⟨v2,rfl,hb9,hg9⟩;obtain⟨aa,E,O⟩:=hg9.row;rw[QV]at E;have am:=QA E;have S:=QA O;have ac:Hid (w9.ownsRow w.heap.size 34 7 v' (m+1) (I++[.int .i64 x.kind,.string ⟨x.nick.toArray⟩,.string ⟨x.name.toArray⟩,.slice G x.args.length c1,.slice F x.dirs.length c2,.slice C x.sels.length D,.int .i64 x.at_])):=QA (BG ae.out (λg hg=>hb9.block g (ae.out.lt g hg).2));have K:Hid (Below w.heap.size w w9):=QA (ah.out.trans (hb9.mono ah.out.size));have a9:=hb9.size;have J:w.heap.size≤w9.heap.size:=K.out.size;have aj:Hid (wr.heap.size≤w9.heap.size):=QA (by omega);clear hb9 hg9 E O aR;go_wp2_with (first|(at_builtin;refine BL rfl _ _ 32 rfl w.heap.size 34 i0 _ 7 120 Tryz.underlying32 hi an ag ai rfl (by decide) v' (m+1) (I++[.int .i64 x.kind,.string ⟨x.nick.toArray⟩,.string ⟨x.name.toArray⟩,.slice G x.args.length c1,.slice F x.dirs.length c2,.slice C x.sels.length D,.int .i64 x.at_]) rfl ac.out w8.heap.size v2 (Dq.Sel.sprl x.sels).length aa rfl am.out S.out.one (by unfold maxLen;omega) (by omega) J ?_;intro v3 w10 hrow10 hg10 hloc10;have M:=QA hrow10;have Q:=QA hg10;clear hrow10 hg10 hloc10)|fail);have H:Hid (Below w.heap.size w w10):=QA (B8 K.out ac.out K.out.size Q.out);go_roundg (l.length+1-(j+1))
   case measure=>rw[HK.out];omega
   case rel =>
    refine⟨j+1,rfl,hjl,by go_num,H.out,?_⟩;have X:=Q.out.size;have e1:(Dq.Sel.sprl (l.take (j+1))).map Dq.Sel.d=(Dq.Sel.sprl (l.take j)).map Dq.Sel.d++[x.d]++(Dq.Sel.sprl x.sels).map Dq.Sel.d:=by
     rw[ak.out,if_pos (by have:=aA.out;simpa using this)];simp
    rw[e1];refine AY.of_rows HP.out ?_ ?_ (cs:=I++[.int .i64 x.kind,.string ⟨x.nick.toArray⟩,.string ⟨x.name.toArray⟩,.slice G x.args.length c1,.slice F x.dirs.length c2,.slice C x.sels.length D,.int .i64 x.at_]++aa)
    ·have e2:((Dq.Sel.sprl (l.take j)).map Dq.Sel.d++[x.d]++(Dq.Sel.sprl x.sels).map Dq.Sel.d).length=m+1+(Dq.Sel.sprl x.sels).length:=by rw[HM.out];simp;omega
     rw[e2];exact M.out
    ·exact ((Y.out.to (Az HP.out V.out H.out (by have:=aj.out;omega))).snoc (HD.out.to (AD.below H.out)) rfl).join (S.out.to (Az HP.out K.out H.out X))
  ·obtain⟨I,B,R⟩:=HG.out.row;rw[QV,← HM.out]at B;have Z:Hid ((wr.alloc (.cells #[.int .i64 x.kind,.string ⟨x.nick.toArray⟩,.string ⟨x.name.toArray⟩,.slice G x.args.length c1,.slice F x.dirs.length c2,.slice C x.sels.length D,.int .i64 x.at_] 34)).ownsRow w.heap.size 34 7 (.slice va m vc) m I):=QA (B.alloc _);have W:Hid (Below w.heap.size w (wr.alloc (.cells #[.int .i64 x.kind,.string ⟨x.nick.toArray⟩,.string ⟨x.name.toArray⟩,.slice G x.args.length c1,.slice F x.dirs.length c2,.slice C x.sels.length D,.int .i64 x.at_] 34))):=QA (V.out.alloc V.out.size _);have Y:=QA R;have ab:(wr.alloc (.cells #[.int .i64 x.kind,.string ⟨x.nick.toArray⟩,.string ⟨x.name.toArray⟩,.slice G x.args.length c1,.slice F x.dirs.length c2,.slice C x.sels.length D,.int .i64 x.at_] 34)).heap.size=wr.heap.size+1:=by simp
   have aL:=QA ab;have aB:=QA (au.out _ W.out);clear R B ab;go_wp2_with fail;refine aB.out.mono ?_;rintro e w9 ⟨v2,rfl,hb9,hg9⟩;obtain⟨aa,E,O⟩:=hg9.row;rw[QV]at E;have am:=QA E;have S:=QA O;have ac:Hid (w9.ownsRow w.heap.size 34 7 (.slice va m vc) m I):=QA (BG Z.out (λg hg=>hb9.block g (Z.out.lt g hg).2));have K:Hid (Below w.heap.size w w9):=QA (W.out.trans (hb9.mono W.out.size));have J:w.heap.size≤w9.heap.size:=K.out.size;have aj:Hid (wr.heap.size≤w9.heap.size):=QA (by have:=hb9.size;have:=aL.out;omega);clear hb9 hg9 E O aB;go_wp2_with (first|(at_builtin;refine BL rfl _ _ 32 rfl w.heap.size 34 i0 _ 7 120 Tryz.underlying32 hi an ag ai rfl (by decide) (.slice va m vc) m I rfl ac.out _ v2 (Dq.Sel.sprl x.sels).length aa rfl am.out S.out.one (by unfold maxLen;omega) (by omega) J ?_;intro v3 w10 hrow10 hg10 hloc10;have M:=QA hrow10;have Q:=QA hg10;clear hrow10 hg10 hloc10)|fail);have H:Hid (Below w.heap.size w w10):=QA (B8 K.out ac.out K.out.size Q.out);go_roundg (l.length+1-(j+1))
   case measure=>rw[HK.out];omega
   case rel =>
    refine⟨j+1,rfl,hjl,by go_num,H.out,?_⟩;have X:=Q.out.size;have e1:(Dq.Sel.sprl (l.take (j+1))).map Dq.Sel.d=(Dq.Sel.sprl (l.take j)).map Dq.Sel.d++(Dq.Sel.sprl x.sels).map Dq.Sel.d:=by
     rw[ak.out,if_neg (by have:=aA.out;simpa using this)];simp
    rw[e1];refine AY.of_rows HP.out ?_ ?_ (cs:=I++aa)
    ·have e2:((Dq.Sel.sprl (l.take j)).map Dq.Sel.d++(Dq.Sel.sprl x.sels).map Dq.Sel.d).length=m+(Dq.Sel.sprl x.sels).length:=by rw[HM.out];simp
     rw[e2];exact M.out
    ·exact (Y.out.to (Az HP.out V.out H.out (by have:=aj.out;omega))).join (S.out.to (Az HP.out K.out H.out X))
theorem CK (l:List Dq.Sel) (hn:Dq.Sel.numl l≤1000000000) (a:Option Addr) (c:Nat) (w:World) (P:Nat→Prop) (hP:∀g,P g→g<w.heap.size)
  (hR:Reads w P (.seq 7 (l.map Dq.Sel.d)) [.slice a l.length c]):Calls Tryz.prog 27 #[.slice a l.length c] w (FV l w P) :=
 IU _ l (Nat.lt_succ_self _) hn a c w P hP hR
theorem Fc (cap:Array Value) (w:World) (v:Value):Sem.run Tryz.prog (callFunc 14 (#[v]++cap)) w=.ok (.enter 14 (#[v]++cap)) w:=by kernel_rfl
theorem Hu (x:Dq.Op) (cs:List Value) (n:List UInt8) (b:Nat) (w:World) (hd:Reads w (λ_=>True) x.d cs) (hb:w.cell? ⟨b,1,none⟩=some (.string ⟨n.toArray⟩)) :
  Calls Tryz.prog 14 (#[.agg cs.toArray]++#[.pointer (some ⟨b,0,none⟩)]) w (λe w'=>e=.returned (.bool (decide (x.name=n)))∧Below w.heap.size w w'):=by
 obtain⟨B,F,D,c1,c2,C,rfl,-⟩:=Dq.Op.opened hd;have o:Below w.heap.size w (w.alloc (.cells #[.int .i64 x.kind,.string ⟨x.name.toArray⟩,.slice B x.vars.length c1,.slice F x.dirs.length c2,.slice D x.sels.length C,.int .i64 x.at_] 39)):=(Below.refl _ _).alloc (QM _) _;have kb:(w.alloc (.cells #[.int .i64 x.kind,.string ⟨x.name.toArray⟩,.slice B x.vars.length c1,.slice F x.dirs.length c2,.slice D x.sels.length C,.int .i64 x.at_] 39)).cell? ⟨b,1,none⟩=some (.string ⟨n.toArray⟩):=(o.cell (p:=⟨b,1,none⟩) (BK hb)).trans hb;have E:=QA o;obtain⟨z,H⟩:∃q,(x.name==n)=q:=⟨_,rfl⟩
 have A:decide (x.name=n)=z:=by rw[← H];by_cases h:x.name=n<;>simp[h]
 have G:=QA A;clear hd hb o A;show Calls Tryz.prog 14 #[.agg #[.int .i64 x.kind,.string ⟨x.name.toArray⟩,.slice B x.vars.length c1,.slice F x.dirs.length c2,.slice D x.sels.length C,.int .i64 x.at_],.pointer (some ⟨b,0,none⟩)] w _;go_enter Tryz.func14,Tryz.ntmps14;go_wp2_with fail;go_ret;exact⟨by rw[G.out];rfl,E.out⟩
theorem Gd (ls:List (List UInt8)) (hl:ls.length≤1000000000) (a:Option Addr) (c:Nat) (n:List UInt8) (w:World) (hR:Reads w (λ_=>True) (.seq 1 (ls.map D.str)) [.slice a ls.length c]) :
  Calls Tryz.prog 33 #[.slice a ls.length c,.string ⟨n.toArray⟩] w (λe w'=>e=.returned (.int .i64 (Nq.place (ls.findIdx? (λx=>decide (n=x)))))∧w'=w):=by
 have Q:=QA hR;clear hR;go_enter Tryz.func33,Tryz.ntmps33;go_wp2_with fail
 go_loopg [8] (ls.length+1) (λk i wr=>∃j:Nat,k=ls.length+1-j∧j≤ls.length∧i=.int .i64 j∧(ls.take j).findIdx? (λx=>decide (n=x))=none∧wr=w)
 case atStart=>exact⟨0,rfl,ZT _,rfl,by simp,rfl⟩
 case round =>
  obtain⟨j,C,R,rfl,K,rfl⟩:=hrel;have O:=QA C;have H:=QA K;clear C K;by_cases hjl:j<ls.length
  ·have M:decide (j<ls.length)=true:=decide_eq_true hjl;obtain⟨x,hx⟩:∃x,ls[j]?=some x:=⟨ls[j],ZH hjl⟩
   obtain⟨g,o,T,P,-,G,E,A,I⟩:=Q.out.el j (.str x) (by rw[ZG,hx];rfl);obtain rfl:=I.str_inv;subst P;have B:wr.cell? ⟨g,o+j*1,none⟩=_:=A 0 _ rfl;have S:wr.cell? ⟨g,o+j,none⟩=some (.string ⟨x.toArray⟩):=by rw[Nat.mul_one]at B;exact B
   have L:=QA hx;obtain⟨z,N⟩:∃q,(n==x)=q:=⟨_,rfl⟩
   have F:decide (n=x)=z:=by rw[← N];by_cases h:n=x<;>simp[h]
   have J:=QA F;clear hx I A E G B F;cases z
   ·go_wp2_with fail;go_roundg (ls.length+1-(j+1))
    case measure=>rw[O.out];omega
    case rel=>exact⟨j+1,rfl,hjl,by go_num,Bl H.out L.out J.out,rfl⟩
   ·go_wp2_with fail;go_ret;exact⟨by rw[CB H.out L.out J.out];rfl,rfl⟩
  ·have M:decide (j<ls.length)=false:=decide_eq_false hjl;obtain rfl:j=ls.length:=by omega
   go_wp2_with fail;go_ret;exact⟨by have:=H.out;rw[ZE]at this;rw[this];rfl,rfl⟩
theorem Ii (ls:List (List UInt8)) (n:List UInt8):decide ((0:Int)≤Nq.place (ls.findIdx? (λx=>decide (n=x))))=decide (n∈ls):=by
 cases h:ls.findIdx? (λx=>decide (n=x)) with
 | none =>
  rw[List.findIdx?_eq_none_iff]at h;rw[decide_eq_false (by show ¬(0:Int)≤-1;omega),decide_eq_false (λhm=>by have:=h n hm;simp at this)]
 | some i =>
  rw[List.findIdx?_eq_some_iff_getElem]at h;obtain⟨hi,o,-⟩:=h;rw[decide_eq_true (by show (0:Int)≤(i:Int);omega),decide_eq_true (by rw[of_decide_eq_true o];exact List.getElem_mem hi)]
theorem Bp (ls:List (List UInt8)) (hl:ls.length≤1000000000) (a:Option Addr) (c:Nat) (n:List UInt8) (w:World) (hR:Reads w (λ_=>True) (.seq 1 (ls.map D.str)) [.slice a ls.length c]) :
  Calls Tryz.prog 17 #[.slice a ls.length c,.string ⟨n.toArray⟩] w (λe w'=>e=.returned (.bool (decide (n∈ls)))∧w'=w):=by
 have A:=QA (Gd ls hl a c n w hR);have o:=QA (Ii ls n);clear hR;go_enter Tryz.func17,Tryz.ntmps17;go_wp2_with fail;refine A.out.mono ?_;rintro e w1 ⟨rfl,rfl⟩;go_wp2_with fail;go_ret;exact⟨by rw[← o.out];rfl,rfl⟩
end Go.Proofs.YtedeapbonbbacaaGreatDoor
