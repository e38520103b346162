/-
  A document that came in. 'Few' of package rubriclaw08, walked: what it lets by is small. 'args', 'dirs', 'sels' of package rubriclaw09, walked: what they let by is small.
-/
import Derived.Test.YtefjgpkpplkkgaaGreatDoorZo23
import Derived.Test.YtefjgpkpplkkgaaGreatDoorZo3
open Go.Lib renaming hid → QA
open List renaming drop_succ_cons → QE, drop_zero → QL, length_map → QZ, mem_of_getElem? → ZE, drop_eq_getElem_cons → ZG, drop_eq_nil_of_le → ZH, getElem?_map → ZK, getElem?_eq_getElem → ZL
open Nat renaming le_refl → QM, zero_le → ZX
namespace Go.Proofs.YtefjgpkpplkkgaaGreatDoor
set_option maxRecDepth 100000
set_option maxHeartbeats 4000000
set_option linter.unusedSimpArgs false
set_option linter.unusedVariables false
open Go Go.RowKit
namespace Dq
structure Dir where
 name:List UInt8
 args:List Vl.ZA
 at_:Int
inductive Sel where
 | mk (kind:Int) (nick name:List UInt8) (args:List Vl.ZA) (dirs:List Dir) (sels:List Sel) (at_:Int)
structure Var where
 name:List UInt8
 type:List UInt8
 has:Bool
 dflt:Vl.Z
 at_:Int
structure Op where
 kind:Int
 name:List UInt8
 vars:List Var
 dirs:List Dir
 sels:List Sel
 at_:Int
structure Fr where
 name:List UInt8
 on:List UInt8
 dirs:List Dir
 sels:List Sel
 at_:Int
structure Doc where
 ops:List Op
 frags:List Fr
namespace Sel
def kind:Sel→Int|.mk k _ _ _ _ _ _=>k
def nick:Sel→List UInt8|.mk _ a _ _ _ _ _=>a
def name:Sel→List UInt8|.mk _ _ n _ _ _ _=>n
def args:Sel→List Vl.ZA|.mk _ _ _ a _ _ _=>a
def dirs:Sel→List Dir|.mk _ _ _ _ d _ _=>d
def sels:Sel→List Sel|.mk _ _ _ _ _ s _=>s
def at_:Sel→Int|.mk _ _ _ _ _ _ a=>a
end Sel
def Dir.d (x:Dir):D:=.obj [.str x.name,.seq 7 (x.args.map Vl.ZA.d),.int x.at_]
mutual
def Sel.d:Sel→D
 | .mk k al n a d s p=>.obj [.int k,.str al,.str n,.seq 7 (a.map Vl.ZA.d),.seq 3 (d.map Dir.d),.seq 7 (Sel.dl s),.int p]
def Sel.dl:List Sel→List D
 | []=>[]
 | x::r=>Sel.d x::Sel.dl r
end
theorem Sel.dl_map:∀l:List Sel,Sel.dl l=l.map Sel.d
 | []=>by rw[Sel.dl];rfl
 | x::r=>by rw[Sel.dl,Sel.dl_map r];rfl
theorem Sel.d_eq (x:Sel):x.d=.obj [.int x.kind,.str x.nick,.str x.name,.seq 7 (x.args.map Vl.ZA.d),.seq 3 (x.dirs.map Dir.d),.seq 7 (x.sels.map Sel.d),.int x.at_]:=by
 cases x;rw[Sel.d,Sel.dl_map];rfl
def Var.d (x:Var):D:=.obj [.str x.name,.str x.type,.bool x.has,x.dflt.d,.int x.at_]
def Op.d (x:Op):D:=.obj [.int x.kind,.str x.name,.seq 9 (x.vars.map Var.d),.seq 3 (x.dirs.map Dir.d),.seq 7 (x.sels.map Sel.d),.int x.at_]
def Fr.d (x:Fr):D:=.obj [.str x.name,.str x.on,.seq 3 (x.dirs.map Dir.d),.seq 7 (x.sels.map Sel.d),.int x.at_]
def Doc.d (x:Doc):D:=.obj [.seq 6 (x.ops.map Op.d),.seq 5 (x.frags.map Fr.d)]
-- Sizes that memory allows.
def Dir.fits (x:Dir):Prop:=x.name.length≤maxLen∧x.args.length≤maxLen∧∀a∈x.args,a.fits
mutual
def Sel.fits:Sel→Prop
 | .mk k al n a d s p=>(-9223372036854775808≤k∧k≤9223372036854775807)∧al.length≤maxLen∧n.length≤maxLen∧(a.length≤maxLen∧∀x∈a,x.fits)∧(d.length≤maxLen∧∀x∈d,x.fits)∧s.length≤maxLen∧Sel.fitsl s
def Sel.fitsl:List Sel→Prop
 | []=>True
 | x::r=>Sel.fits x∧Sel.fitsl r
end
theorem Sel.fitsl_iff:∀{l:List Sel},Sel.fitsl l↔∀x∈l,x.fits
 | []=>by rw[Sel.fitsl];simp
 | x::r=>by rw[Sel.fitsl,Sel.fitsl_iff (l:=r)];simp
theorem Sel.fits_eq (x:Sel):x.fits↔((-9223372036854775808≤x.kind∧x.kind≤9223372036854775807)∧x.nick.length≤maxLen∧x.name.length≤maxLen∧(x.args.length≤maxLen∧∀y∈x.args,y.fits)∧(x.dirs.length≤maxLen∧∀y∈x.dirs,y.fits)∧x.sels.length≤maxLen∧∀y∈x.sels,y.fits):=by
 cases x;rw[Sel.fits,Sel.fitsl_iff];rfl
def Var.fits (x:Var):Prop:=x.name.length≤maxLen∧x.type.length≤maxLen∧x.dflt.fits
def Op.fits (x:Op):Prop:=(-9223372036854775808≤x.kind∧x.kind≤9223372036854775807)∧x.name.length≤maxLen∧(x.vars.length≤maxLen∧∀y∈x.vars,y.fits)∧(x.dirs.length≤maxLen∧∀y∈x.dirs,y.fits)∧(x.sels.length≤maxLen∧∀y∈x.sels,y.fits)
def Fr.fits (x:Fr):Prop:=x.name.length≤maxLen∧x.on.length≤maxLen∧(x.dirs.length≤maxLen∧∀y∈x.dirs,y.fits)∧(x.sels.length≤maxLen∧∀y∈x.sels,y.fits)
def Doc.fits (x:Doc):Prop:=(x.ops.length≤maxLen∧∀y∈x.ops,y.fits)∧(x.frags.length≤maxLen∧∀y∈x.frags,y.fits)
end Dq
def Mo:List TypeId:=[43,40,41,96,102,92,100,93,171,94,174,4,25,22,23,72,3,9]
theorem NT:Mm Tryz.prog Mo=true:=by kernel_rfl
theorem Km:∃fs:Array Field,Tryz.prog.underlying 171=some (.struct fs)∧fs.toList.map (·.type)=[9,23,3]:=⟨_,Tryz.underlying171,by kernel_rfl⟩
theorem Lk:∃fs:Array Field,Tryz.prog.underlying 174=some (.struct fs)∧fs.toList.map (·.type)=[3,9,9,23,93,94,3]:=⟨_,Tryz.underlying174,by kernel_rfl⟩
theorem LN:∃fs:Array Field,Tryz.prog.underlying 100=some (.struct fs)∧fs.toList.map (·.type)=[9,9,4,25,3]:=⟨_,Tryz.underlying100,by kernel_rfl⟩
theorem MD:∃fs:Array Field,Tryz.prog.underlying 96=some (.struct fs)∧fs.toList.map (·.type)=[3,9,92,93,94,3]:=⟨_,Tryz.underlying96,by kernel_rfl⟩
theorem L6:∃fs:Array Field,Tryz.prog.underlying 102=some (.struct fs)∧fs.toList.map (·.type)=[9,9,93,94,3]:=⟨_,Tryz.underlying102,by kernel_rfl⟩
theorem GL:∃fs:Array Field,Tryz.prog.underlying 43=some (.struct fs)∧fs.toList.map (·.type)=[40,41]:=⟨_,Tryz.underlying43,by kernel_rfl⟩
theorem MN:Tryz.prog.cellsOf 171=3:=by kernel_rfl
theorem Hm:Tryz.prog.cellsOf 174=7:=by kernel_rfl
theorem Mg:Tryz.prog.cellsOf 100=9:=by kernel_rfl
theorem NB:Tryz.prog.cellsOf 96=6:=by kernel_rfl
theorem NW:Tryz.prog.cellsOf 102=5:=by kernel_rfl
theorem Ci {α:Type} {f:α→D} {q:α→Prop}:∀{ds:List D},(∀d∈ds,∃z,d=f z∧q z)→∃zs:List α,ds=zs.map f∧∀z∈zs,q z
 | [],_=>⟨[],rfl,by simp⟩
 | d::r,h=>by
  obtain⟨z,rfl,A⟩:=h d (by simp);obtain⟨zs,rfl,o⟩:=Ci (ds:=r) (λx hx=>h x (by simp[hx]));exact⟨z::zs,rfl,by simpa using ⟨A,o⟩⟩
theorem KM {d:D} (h:Ai Tryz.prog 23 d):∃zs:List Vl.ZA,d=.seq 7 (zs.map Vl.ZA.d)∧zs.length≤maxLen∧∀z∈zs,z.fits:=by
 obtain⟨is,rfl,o,B⟩:=h.seq Tryz.underlying23;obtain⟨zs,rfl,A⟩:=Ci (λx hx=>Ox x (B.mem x hx));rw[QZ]at o;exact⟨zs,by rw[Mn],o,A⟩
theorem Oj (d:D) (h0:Ai Tryz.prog 171 d):∃z:Dq.Dir,d=z.d∧z.fits:=by
 obtain⟨Q,E,C⟩:=Km;obtain⟨P,rfl,h⟩:=h0.obj E;clear h0;rw[C]at h;obtain⟨M,J,rfl,F,h⟩:=h.cons;obtain⟨N,O,rfl,H,h⟩:=h.cons;obtain⟨K,L,rfl,I,h⟩:=h.cons;obtain rfl:=h.nil;obtain⟨t,rfl,G⟩:=F.str Tryz.underlying9;obtain⟨A,rfl,B,o⟩:=KM H;obtain⟨a,rfl,-⟩:=I.int Tryz.underlying3;exact⟨⟨t,A,a⟩,rfl,G,B,o⟩
theorem Gg {d:D} (h:Ai Tryz.prog 93 d):∃zs:List Dq.Dir,d=.seq 3 (zs.map Dq.Dir.d)∧zs.length≤maxLen∧∀z∈zs,z.fits:=by
 obtain⟨is,rfl,o,B⟩:=h.seq Tryz.underlying93;obtain⟨zs,rfl,A⟩:=Ci (λx hx=>Oj x (B.mem x hx));rw[QZ]at o;exact⟨zs,by rw[MN],o,A⟩
theorem KI:∀(n:Nat) (d:D),SizeOf.sizeOf d≤n→Ai Tryz.prog 174 d→∃z:Dq.Sel,d=z.d∧z.fits
 | 0,d,hn,_=>by cases d<;>simp at hn
 | n+1,d,hn,h0=>by
  obtain⟨fs,N,M⟩:=Lk;obtain⟨ds,rfl,h⟩:=h0.obj N;clear h0;rw[M]at h;obtain⟨d1,Y,rfl,O,h⟩:=h.cons;obtain⟨d2,r2,rfl,V,h⟩:=h.cons;obtain⟨Z,r3,rfl,X,h⟩:=h.cons;obtain⟨d4,r4,rfl,U,h⟩:=h.cons;obtain⟨d5,r5,rfl,Q,h⟩:=h.cons;obtain⟨d6,r6,rfl,T,h⟩:=h.cons;obtain⟨d7,r7,rfl,L,h⟩:=h.cons;obtain rfl:=h.nil;obtain⟨k,rfl,K⟩:=O.int Tryz.underlying3;obtain⟨W,rfl,G⟩:=V.str Tryz.underlying9;obtain⟨R,rfl,A⟩:=X.str Tryz.underlying9;obtain⟨E,rfl,I,B⟩:=KM U;obtain⟨S,rfl,J,F⟩:=Gg Q;obtain⟨is,rfl,o,C⟩:=T.seq Tryz.underlying94;obtain⟨a,rfl,-⟩:=L.int Tryz.underlying3;simp only[D.obj.sizeOf_spec,D.seq.sizeOf_spec,List.cons.sizeOf_spec,List.nil.sizeOf_spec]at hn;obtain⟨P,rfl,H⟩:=Ci (ds:=is) (λx hx=>KI n x (by have:=List.sizeOf_lt_of_mem hx;omega) (C.mem x hx));rw[QZ]at o;refine⟨.mk k W R E S P a,?_,?_⟩
  ·rw[Dq.Sel.d,Dq.Sel.dl_map,Hm]
  ·rw[Dq.Sel.fits,Dq.Sel.fitsl_iff];exact⟨wf_i64 K,G,A,⟨I,B⟩,⟨J,F⟩,o,H⟩
theorem J3 {d:D} (h:Ai Tryz.prog 94 d):∃zs:List Dq.Sel,d=.seq 7 (zs.map Dq.Sel.d)∧zs.length≤maxLen∧∀z∈zs,z.fits:=by
 obtain⟨is,rfl,o,B⟩:=h.seq Tryz.underlying94;obtain⟨zs,rfl,A⟩:=Ci (λx hx=>KI _ x (QM _) (B.mem x hx));rw[QZ]at o;exact⟨zs,by rw[Hm],o,A⟩
theorem Pf (d:D) (h0:Ai Tryz.prog 100 d):∃z:Dq.Var,d=z.d∧z.fits:=by
 obtain⟨W,B,A⟩:=LN;obtain⟨V,rfl,h⟩:=h0.obj B;clear h0;rw[A]at h;obtain⟨R,M,rfl,C,h⟩:=h.cons;obtain⟨T,U,rfl,J,h⟩:=h.cons;obtain⟨N,P,rfl,L,h⟩:=h.cons;obtain⟨G,O,rfl,I,h⟩:=h.cons;obtain⟨S,Q,rfl,F,h⟩:=h.cons;obtain rfl:=h.nil;obtain⟨t,rfl,H⟩:=C.str Tryz.underlying9;obtain⟨E,rfl,o⟩:=J.str Tryz.underlying9;obtain⟨b,rfl⟩:=L.bool Tryz.underlying4;obtain⟨v,rfl,K⟩:=Oa G I;obtain⟨a,rfl,-⟩:=F.int Tryz.underlying3;exact⟨⟨t,E,b,v,a⟩,rfl,H,o,K⟩
theorem P2 (d:D) (h0:Ai Tryz.prog 96 d):∃z:Dq.Op,d=z.d∧z.fits:=by
 obtain⟨fs,J,I⟩:=MD;obtain⟨ds,rfl,h⟩:=h0.obj J;clear h0;rw[I]at h;obtain⟨Z,U,rfl,K,h⟩:=h.cons;obtain⟨d2,r2,rfl,S,h⟩:=h.cons;obtain⟨V,X,rfl,T,h⟩:=h.cons;obtain⟨d4,W,rfl,R,h⟩:=h.cons;obtain⟨d5,Y,rfl,L,h⟩:=h.cons;obtain⟨d6,r6,rfl,O,h⟩:=h.cons;obtain rfl:=h.nil;obtain⟨k,rfl,H⟩:=K.int Tryz.underlying3;obtain⟨t,rfl,P⟩:=S.str Tryz.underlying9;obtain⟨is,rfl,o,F⟩:=T.seq Tryz.underlying92;obtain⟨N,rfl,E⟩:=Ci (λx hx=>Pf x (F.mem x hx));rw[QZ]at o;obtain⟨M,rfl,G,C⟩:=Gg R;obtain⟨Q,rfl,B,A⟩:=J3 L;obtain⟨a,rfl,-⟩:=O.int Tryz.underlying3;refine⟨⟨k,t,N,M,Q,a⟩,?_,wf_i64 H,P,⟨o,E⟩,⟨G,C⟩,⟨B,A⟩⟩;show D.obj _=D.obj _;rw[Mg]
theorem P3 (d:D) (h0:Ai Tryz.prog 102 d):∃z:Dq.Fr,d=z.d∧z.fits:=by
 obtain⟨fs,G,F⟩:=L6;obtain⟨Z,rfl,h⟩:=h0.obj G;clear h0;rw[F]at h;obtain⟨U,P,rfl,H,h⟩:=h.cons;obtain⟨W,Y,rfl,N,h⟩:=h.cons;obtain⟨Q,S,rfl,O,h⟩:=h.cons;obtain⟨X,R,rfl,M,h⟩:=h.cons;obtain⟨V,T,rfl,I,h⟩:=h.cons;obtain rfl:=h.nil;obtain⟨t,rfl,K⟩:=H.str Tryz.underlying9;obtain⟨on,rfl,B⟩:=N.str Tryz.underlying9;obtain⟨J,rfl,E,C⟩:=Gg O;obtain⟨L,rfl,A,o⟩:=J3 M;obtain⟨a,rfl,-⟩:=I.int Tryz.underlying3;exact⟨⟨t,on,J,L,a⟩,rfl,K,B,⟨E,C⟩,⟨A,o⟩⟩
theorem PN (d:D) (h0:Ai Tryz.prog 43 d):∃z:Dq.Doc,d=z.d∧z.fits:=by
 obtain⟨R,I,H⟩:=GL;obtain⟨Q,rfl,h⟩:=h0.obj I;clear h0;rw[H]at h;obtain⟨N,L,rfl,J,h⟩:=h.cons;obtain⟨O,P,rfl,K,h⟩:=h.cons;obtain rfl:=h.nil;obtain⟨is,rfl,A,G⟩:=J.seq Tryz.underlying40;obtain⟨os,rfl,B⟩:=Ci (λx hx=>P2 x (G.mem x hx));obtain⟨M,rfl,o,E⟩:=K.seq Tryz.underlying41;obtain⟨C,rfl,F⟩:=Ci (λx hx=>P3 x (E.mem x hx));rw[QZ]at A o;refine⟨⟨os,C⟩,?_,⟨A,B⟩,⟨o,F⟩⟩;show D.obj _=D.obj _;rw[NB,NW]
namespace Dq
section
variable {w : World} {P : Nat → Prop} {cs : List Value}
theorem Ay {k:Nat} {xs:List D} (h:Reads w P (.seq k xs) cs):∃a c,cs=[.slice a xs.length c]:=by
 obtain⟨a,c,e,-⟩:=h.seq_inv;exact⟨a,c,e⟩
theorem Dir.opened {x:Dir} (h:Reads w P x.d cs):∃(a1:Option Addr) (c1:Nat),cs=[.string ⟨x.name.toArray⟩,.slice a1 x.args.length c1,.int .i64 x.at_]∧Reads w P (.seq 7 (x.args.map Vl.ZA.d)) [.slice a1 x.args.length c1]:=by
 unfold Dir.d at h;obtain⟨K,H,rfl,E,B⟩:=h.obj_inv.cons_inv;obtain⟨L,I,rfl,o,C⟩:=B.cons_inv;obtain⟨G,J,rfl,D,F⟩:=C.cons_inv;obtain rfl:=E.str_inv;obtain⟨b2,A,rfl⟩:=Ay o;obtain rfl:=D.int_inv;obtain rfl:=F.nil_inv;simp only[QZ]at o ⊢;exact⟨b2,A,rfl,o⟩
theorem Sel.opened {x:Sel} (h:Reads w P x.d cs):∃(a1 a2 a3:Option Addr) (c1 c2 c3:Nat),cs=[.int .i64 x.kind,.string ⟨x.nick.toArray⟩,.string ⟨x.name.toArray⟩,.slice a1 x.args.length c1,.slice a2 x.dirs.length c2,.slice a3 x.sels.length c3,.int .i64 x.at_] ∧
  Reads w P (.seq 7 (x.args.map Vl.ZA.d)) [.slice a1 x.args.length c1]∧Reads w P (.seq 3 (x.dirs.map Dir.d)) [.slice a2 x.dirs.length c2]∧Reads w P (.seq 7 (x.sels.map Sel.d)) [.slice a3 x.sels.length c3]:=by
 rw[Sel.d_eq]at h;obtain⟨S,R,rfl,I,D⟩:=h.obj_inv.cons_inv;obtain⟨T,Y,rfl,F,M⟩:=D.cons_inv;obtain⟨x3,W,rfl,O,Q⟩:=M.cons_inv;obtain⟨x4,U,rfl,B,L⟩:=Q.cons_inv;obtain⟨x5,X,rfl,o,G⟩:=L.cons_inv;obtain⟨x6,r6,rfl,A,K⟩:=G.cons_inv;obtain⟨Z,V,rfl,E,C⟩:=K.cons_inv;obtain rfl:=I.int_inv;obtain rfl:=F.str_inv;obtain rfl:=O.str_inv;obtain⟨b4,J,rfl⟩:=Ay B;obtain⟨b5,H,rfl⟩:=Ay o;obtain⟨b6,N,rfl⟩:=Ay A;obtain rfl:=E.int_inv;obtain rfl:=C.nil_inv;simp only[QZ]at B o A ⊢;exact⟨b4,b5,b6,J,H,N,rfl,B,o,A⟩
theorem Var.opened {x:Var} (h:Reads w P x.d cs):∃(a1 a2:Option Addr) (c1 c2:Nat),cs=[.string ⟨x.name.toArray⟩,.string ⟨x.type.toArray⟩,.bool x.has,.int .i64 x.dflt.kind,.string ⟨x.dflt.text.toArray⟩,.slice a1 x.dflt.items.length c1,.slice a2 x.dflt.fields.length c2,.int .i64 x.dflt.at_,.int .i64 x.at_] ∧
  Reads w P x.dflt.d (AN x.dflt a1 a2 c1 c2).toList:=by
 unfold Var.d at h;obtain⟨K,J,rfl,D,A⟩:=h.obj_inv.cons_inv;obtain⟨L,Q,rfl,B,G⟩:=A.cons_inv;obtain⟨S,N,rfl,H,I⟩:=G.cons_inv;obtain⟨T,M,rfl,o,F⟩:=I.cons_inv;obtain⟨R,O,rfl,E,C⟩:=F.cons_inv;obtain rfl:=D.str_inv;obtain rfl:=B.str_inv;obtain rfl:=H.bool_inv;obtain⟨a1,a2,c1,c2,rfl,-,-⟩:=BR o;obtain rfl:=E.int_inv;obtain rfl:=C.nil_inv;exact⟨a1,a2,c1,c2,rfl,o⟩
theorem Op.opened {x:Op} (h:Reads w P x.d cs):∃(a1 a2 a3:Option Addr) (c1 c2 c3:Nat),cs=[.int .i64 x.kind,.string ⟨x.name.toArray⟩,.slice a1 x.vars.length c1,.slice a2 x.dirs.length c2,.slice a3 x.sels.length c3,.int .i64 x.at_] ∧
  Reads w P (.seq 9 (x.vars.map Var.d)) [.slice a1 x.vars.length c1]∧Reads w P (.seq 3 (x.dirs.map Dir.d)) [.slice a2 x.dirs.length c2]∧Reads w P (.seq 7 (x.sels.map Sel.d)) [.slice a3 x.sels.length c3]:=by
 unfold Op.d at h;obtain⟨Q,O,rfl,H,C⟩:=h.obj_inv.cons_inv;obtain⟨R,V,rfl,E,L⟩:=C.cons_inv;obtain⟨X,T,rfl,B,N⟩:=L.cons_inv;obtain⟨Y,S,rfl,o,K⟩:=N.cons_inv;obtain⟨W,U,rfl,A,F⟩:=K.cons_inv;obtain⟨x6,Z,rfl,D,J⟩:=F.cons_inv;obtain rfl:=H.int_inv;obtain rfl:=E.str_inv;obtain⟨b4,I,rfl⟩:=Ay B;obtain⟨b5,G,rfl⟩:=Ay o;obtain⟨b6,M,rfl⟩:=Ay A;obtain rfl:=D.int_inv;obtain rfl:=J.nil_inv;simp only[QZ]at B o A ⊢;exact⟨b4,b5,b6,I,G,M,rfl,B,o,A⟩
theorem Fr.opened {x:Fr} (h:Reads w P x.d cs):∃(a2 a3:Option Addr) (c2 c3:Nat),cs=[.string ⟨x.name.toArray⟩,.string ⟨x.on.toArray⟩,.slice a2 x.dirs.length c2,.slice a3 x.sels.length c3,.int .i64 x.at_] ∧
  Reads w P (.seq 3 (x.dirs.map Dir.d)) [.slice a2 x.dirs.length c2]∧Reads w P (.seq 7 (x.sels.map Sel.d)) [.slice a3 x.sels.length c3]:=by
 unfold Fr.d at h;obtain⟨M,L,rfl,G,B⟩:=h.obj_inv.cons_inv;obtain⟨N,R,rfl,D,J⟩:=B.cons_inv;obtain⟨T,O,rfl,o,I⟩:=J.cons_inv;obtain⟨S,Q,rfl,A,E⟩:=I.cons_inv;obtain⟨V,U,rfl,C,H⟩:=E.cons_inv;obtain rfl:=G.str_inv;obtain rfl:=D.str_inv;obtain⟨b5,F,rfl⟩:=Ay o;obtain⟨b6,K,rfl⟩:=Ay A;obtain rfl:=C.int_inv;obtain rfl:=H.nil_inv;simp only[QZ]at o A ⊢;exact⟨b5,b6,F,K,rfl,o,A⟩
theorem Doc.opened {x:Doc} (h:Reads w P x.d cs):∃(a1 a2:Option Addr) (c1 c2:Nat),cs=[.slice a1 x.ops.length c1,.slice a2 x.frags.length c2] ∧
  Reads w P (.seq 6 (x.ops.map Op.d)) [.slice a1 x.ops.length c1]∧Reads w P (.seq 5 (x.frags.map Fr.d)) [.slice a2 x.frags.length c2]:=by
 unfold Doc.d at h;obtain⟨I,G,rfl,A,C⟩:=h.obj_inv.cons_inv;obtain⟨H,F,rfl,o,B⟩:=C.cons_inv;obtain⟨b5,E,rfl⟩:=Ay A;obtain⟨b6,D,rfl⟩:=Ay o;obtain rfl:=B.nil_inv;simp only[QZ]at A o ⊢;exact⟨b5,b6,E,D,rfl,A,o⟩
end
end Dq
theorem doc_arg {H:Type} {enc:TypeId×Value→H} {W:World} {v:Value} {x:DataW H} {ps:List MemPlace} {sp:Nat→Bool} {r:Reach} {base:Nat} (hv:Value.okWide Tryz.prog W r base 43 v) (h:DataW.Trod enc Tryz.prog W 0 sp true 43 v x ps) :
  ∃(z:Dq.Doc) (a1 a2:Option Addr) (c1 c2:Nat),v=.agg #[.slice a1 z.ops.length c1,.slice a2 z.frags.length c2]∧z.fits∧Reads W (λ_=>True) z.d [.slice a1 z.ops.length c1,.slice a2 z.frags.length c2]:=by
 obtain⟨F,C,E⟩:=GL;obtain⟨D,rfl,-⟩:=Go.WideShapes.okWide_struct C hv;obtain⟨d,o,B⟩:=Mx NT (List.Mem.head _) h;obtain⟨z,rfl,A⟩:=PN d B;have o:Reads W (λ_=>True) z.d D.toList:=o;obtain⟨a1,a2,c1,c2,e,-,-⟩:=Dq.Doc.opened o;refine⟨z,a1,a2,c1,c2,?_,A,?_⟩
 ·congr 1
  have:=congrArg List.toArray e
  simpa using this
 ·rw[e]at o;exact o
namespace Vl
-- How many values there are in one.
mutual
def Z.vals:Z→Nat
 | .mk _ _ i f _=>1+(Z.valss i+ZA.valss f)
def Z.valss:List Z→Nat
 | []=>0
 | x::r=>Z.vals x+Z.valss r
def ZA.valss:List ZA→Nat
 | []=>0
 | .mk _ v _::r=>Z.vals v+ZA.valss r
end
theorem Z.vals_eq (z:Z):z.vals=1+(Z.valss z.items+ZA.valss z.fields):=by cases z;rw[Z.vals];rfl
theorem ZA.valss_cons (x:ZA) (r:List ZA):ZA.valss (x::r)=x.v.vals+ZA.valss r:=by cases x;rw[ZA.valss];rfl
theorem valss_drop:∀(l:List Z) (j:Nat),Z.valss (l.drop j)≤Z.valss l
 | [],j=>by rw[List.drop_nil];exact QM _
 | x::r,0=>QM _
 | x::r,j+1=>by
  have:=valss_drop r j;rw[QE,Z.valss];omega
theorem valssA_drop:∀(l:List ZA) (j:Nat),ZA.valss (l.drop j)≤ZA.valss l
 | [],j=>by rw[List.drop_nil];exact QM _
 | x::r,0=>QM _
 | x::r,j+1=>by
  have:=valssA_drop r j;rw[QE,ZA.valss_cons];omega
end Vl
structure BU (g:Nat) (L:Int) (w0 w:World):Prop where
 but:But (λx=>x=g) w0 w
 lt:g<w0.heap.size
 cell:w.heap[g]?=some (.cells #[.int .i64 L] 3 (0,0))
theorem BU.trans {g:Nat} {L L':Int} {a b c:World} (h:BU g L a b) (k:BU g L' b c):BU g L' a c:=⟨h.but.trans k.but,h.lt,k.cell⟩
theorem BU.stands {g:Nat} {L:Int} {w0 w:World} (h:BU g L w0 w):AE w0 (λx=>x≠g) w (λx=>x≠g):=AE.but h.but (λ_ h=>h)
def Nh (n c g:Nat) (L:Int) (w:World) (r:Ending) (w':World):Prop:=∃(b:Bool) (L':Int),r=.returned (.bool b)∧BU g L' w w'∧L'≤400∧(b=true→L'=L-n∧0≤L'∧c+200≤3300*n)
def Ot (N:Nat):Prop:=∀(x:Vl.Z),x.n≤N→x.fits→∀(a1 a2:Option Addr) (c1 c2:Nat) (w:World) (g:Nat) (L deep:Int),0≤L→L≤400→w.heap[g]?=some (.cells #[.int .i64 L] 3 (0,0)) →
 Reads w (λk=>k≠g) x.d (AN x a1 a2 c1 c2).toList →
 Calls Tryz.prog 31 #[.agg (AN x a1 a2 c1 c2),.pointer (some ⟨g,0,none⟩),.int .i64 deep] w
  (Nh x.vals x.cost g L w)
theorem KF {w:World} {b:Nat} {cs:Array Value} {T:TypeId} (h:w.heap[b]?=some (.cells cs T (0,0))) (k:Nat):w.frozen? ⟨b,k,none⟩=false:=by
 simp[World.frozen?,h]
theorem ML (N:Nat) (IH:Ot N):Ot (N+1):=by
 intro x hN hfit a1 a2 c1 c2 w g L deep hL0 hL4 hg hR;obtain⟨x1,x2,x3,x4,ex,aK,az⟩:=BR hR;have aG:AN x a1 a2 c1 c2=AN x x1 x2 x3 x4:=by simpa [AN] using congrArg List.toArray ex
 obtain⟨rfl,rfl,rfl,rfl⟩:a1=x1∧c1=x3∧a2=x2∧c2=x4:=by simpa [AN,and_assoc] using aG
 clear ex aG hR;unfold AN;have hn:=Vl.Z.n_eq x;rw[Vl.Z.fits_eq]at hfit;obtain⟨-,aT,aQ,a6,ad,ae⟩:=hfit;unfold maxLen at aT aQ a6;have B:g<w.heap.size:=block_lt hg;obtain⟨wb,aj⟩:∃q,q=w.alloc (.cells #[.int .i64 x.kind,.string ⟨x.text.toArray⟩,.slice a1 x.items.length c1,.slice a2 x.fields.length c2,.int .i64 x.at_] 25):=⟨_,rfl⟩
 have ai:wb.heap[g]?=some (.cells #[.int .i64 L] 3 (0,0)):=by rw[aj,Lib.alloc_old _ _ _ B];exact hg
 obtain⟨ws,S⟩:∃q,q=w.setCell ⟨g,0,none⟩ (.int .i64 (L-1)):=⟨_,rfl⟩
 have ak:ws.heap.size=w.heap.size:=by rw[S,AU]
 have aB:ws.heap[g]?=some (.cells #[.int .i64 (L-1)] 3 (0,0)):=by rw[S];exact Af hg
 obtain⟨w1,J⟩:∃q,q=ws.alloc (.cells #[.int .i64 x.kind,.string ⟨x.text.toArray⟩,.slice a1 x.items.length c1,.slice a2 x.fields.length c2,.int .i64 x.at_] 25):=⟨_,rfl⟩
 have ao:w1.heap[g]?=some (.cells #[.int .i64 (L-1)] 3 (0,0)):=by rw[J,Lib.alloc_old _ _ _ (by omega)];exact aB
 have O:w1.heap[w.heap.size]?=some (.cells #[.int .i64 x.kind,.string ⟨x.text.toArray⟩,.slice a1 x.items.length c1,.slice a2 x.fields.length c2,.int .i64 x.at_] 25 (0,0)):=by rw[J,← ak];exact AC _ _
 have ap:BU g (L-1) w w1:=by
  refine⟨?_,B,ao⟩;rw[J,S];exact But.alloc (But.setCell (X:=λx=>x=g) (But.refl _ _) (p:=⟨g,0,none⟩) (.inl rfl) _) _
 have f0:=AA ai 0 (.int .i64 L) rfl;have f1:=KF ai 0;have f2:=AA ao 0 (.int .i64 (L-1)) rfl;have f3:=AA O 1 (.string ⟨x.text.toArray⟩) rfl;have f4:=AA O 2 (.slice a1 x.items.length c1) rfl;have f5:=AA O 3 (.slice a2 x.fields.length c2) rfl;have bp:w1.heap.size=w.heap.size+1:=by rw[J,← ak];simp
 have am:AE w (λk=>k≠g) w1 (λk=>k≠g):=ap.stands;have aX:=QA (aK.to am);have aZ:=QA (az.to am);have F:=QA ap;have a9:=QA O;have bb:Hid (∀z∈x.fields,z.v.n≤N∧z.fits):=QA (λz hz=>⟨by have:=Vl.ZA.ns_mem hz;have:=Vl.ZA.n_eq z;omega,Vl.ZA.fitss_mem ae z hz⟩);have bd:Hid (∀z∈x.items,z.n≤N∧z.fits):=QA (λz hz=>⟨by have:=Vl.Z.ns_mem hz;omega,Vl.Z.fitss_mem ad z hz⟩);have ax:=QA IH;have aS:=QA (Vl.Z.vals_eq x);have aU:=QA (Vl.Z.cost_eq x);have aq:=QA J;rw[J]at f2 f3 f4 f5 F;rw[S]at f2 f3 f4 f5 F aq;rw[aj]at f0 f1;have af:g≠w.heap.size:=by omega
 clear aK az IH hn hg ai aB ak ao O ap am aj S J ad ae;have bA:-1≤L-1:=by omega
 go_enter Tryz.func31,Tryz.ntmps31;by_cases h1:L-1<0
 ·have e1:decide ((L-1:Int)<0)=true:=decide_eq_true (by omega);clear h1;go_wp2_with fail;go_ret;exact⟨false,L-1,rfl,F.out,by omega,λh=>by cases h⟩
 have e1:decide ((L-1:Int)<0)=false:=decide_eq_false (by omega);by_cases h2:20<deep
 ·have e2:decide ((20:Int)<deep)=true:=decide_eq_true (by omega);clear h2;go_wp2_with fail;go_ret;exact⟨false,L-1,rfl,F.out,by omega,λh=>by cases h⟩
 have e2:decide ((20:Int)<deep)=false:=decide_eq_false (by omega);by_cases h3:500<x.text.length
 ·have e3:decide ((500:Int)<(x.text.length:Int))=true:=decide_eq_true (by omega);clear h3;go_wp2_with fail;go_ret;exact⟨false,L-1,rfl,F.out,by omega,λh=>by cases h⟩
 have e3:decide ((500:Int)<(x.text.length:Int))=false:=decide_eq_false (by omega);by_cases h4:300<x.items.length
 ·have e4:decide ((300:Int)<(x.items.length:Int))=true:=decide_eq_true (by omega);clear h4;go_wp2_with fail;go_ret;exact⟨false,L-1,rfl,F.out,by omega,λh=>by cases h⟩
 have e4:decide ((300:Int)<(x.items.length:Int))=false:=decide_eq_false (by omega);by_cases h5:300<x.fields.length
 ·have e5:decide ((300:Int)<(x.fields.length:Int))=true:=decide_eq_true (by omega);clear h5;go_wp2_with fail;go_ret;exact⟨false,L-1,rfl,F.out,by omega,λh=>by cases h⟩
 have e5:decide ((300:Int)<(x.fields.length:Int))=false:=decide_eq_false (by omega);go_wp2_with fail;rw[← aq.out];rw[← aq.out]at F;clear f0 f1 f2 f3 f4 f5
 go_loopg [43] (x.items.length+1) (λk i wr=>∃(j:Nat) (R:Int),k=x.items.length+1-j∧j≤x.items.length∧i=.int .i64 j∧(R=L-1-Vl.Z.valss x.items+Vl.Z.valss (x.items.drop j)∧Vl.Z.costs x.items+3300*Vl.Z.valss (x.items.drop j)≤3300*Vl.Z.valss x.items+Vl.Z.costs (x.items.drop j))∧0≤R∧BU g R w1 wr)
 case atStart=>exact⟨0,L-1,rfl,ZX _,rfl,by rw[QL];omega,by omega,But.refl _ _,by omega,F.out.cell⟩
 case round =>
  obtain⟨j,R,hk,hj,rfl,aJ,ah,Y⟩:=hrel;have HK:=QA hk;have ab:=QA aJ;have T:=QA Y;have aa:Hid (wr.heap[w.heap.size]?=_):=QA ((Y.but.block w.heap.size (by omega) (λe=>af e.symm)).trans a9.out);have W:=QA (F.out.trans Y);clear hk aJ Y;by_cases hjl:j<x.items.length
  ·have e6:decide (j<x.items.length)=true:=decide_eq_true hjl;obtain⟨p,Q⟩:∃z,x.items[j]?=some z:=⟨x.items[j],ZL hjl⟩
   have H:x.items.drop j=p::x.items.drop (j+1):=by rw[ZG hjl];rw[ZL hjl]at Q;rw[Option.some.inj Q]
   have K:Hid (R=L-1-Vl.Z.valss x.items+(p.vals+Vl.Z.valss (x.items.drop (j+1)):Nat)∧Vl.Z.costs x.items+3300*(p.vals+Vl.Z.valss (x.items.drop (j+1)))≤3300*Vl.Z.valss x.items+(2+p.cost+Vl.Z.costs (x.items.drop (j+1)))):=by have:=ab.out;rw[H,Vl.Z.valss,Vl.Z.costs]at this;exact QA this
   obtain⟨M,I⟩:=bd.out p (ZE Q);obtain⟨E,o,cs,ha,D,B,P,A,hd⟩:=aX.out.el j p.d (by rw[ZK,Q];rfl);obtain⟨p1,p2,u1,u2,rfl,-,-⟩:=BR hd;have k0:wr.cell? ⟨E,o+j*5,none⟩=_:=(T.out.but.cell (p:=⟨E,o+j*5,none⟩) B D).trans (A 0 _ rfl);have k1:wr.cell? ⟨E,o+j*5+1,none⟩=_:=(T.out.but.cell (p:=⟨E,o+j*5+1,none⟩) B D).trans (A 1 _ rfl);have k2:wr.cell? ⟨E,o+j*5+2,none⟩=_:=(T.out.but.cell (p:=⟨E,o+j*5+2,none⟩) B D).trans (A 2 _ rfl);have k3:wr.cell? ⟨E,o+j*5+3,none⟩=_:=(T.out.but.cell (p:=⟨E,o+j*5+3,none⟩) B D).trans (A 3 _ rfl);have k4:wr.cell? ⟨E,o+j*5+4,none⟩=_:=(T.out.but.cell (p:=⟨E,o+j*5+4,none⟩) B D).trans (A 4 _ rfl);have z1:=AA aa.out 2 (.slice a1 x.items.length c1) rfl;subst ha;have aD:R≤400:=by have:=K.out.1;have h2:=congrArg Vl.Z.valss H;rw[Vl.Z.valss]at h2;have h3:Vl.Z.valss (x.items.drop j)≤Vl.Z.valss x.items:=Vl.valss_drop _ _;omega
   have C:=QA (λd=>ax.out p M I p1 p2 u1 u2 wr g R d ah aD T.out.cell (hd.to T.out.stands));unfold AN at C;clear Q H P A hd M I ab;go_wp2_with fail;refine (C.out _).mono ?_;rintro r w2 ⟨b,L',rfl,ho2,hL'4,hb⟩;have HB:=QA hb;have bh:=QA (T.out.trans ho2);have aA:=QA (W.out.trans ho2);clear hb ho2 k0 k1 k2 k3 k4 z1 C;cases b
   ·go_wp2_with fail;go_ret;exact⟨false,L',rfl,aA.out,hL'4,λh=>by cases h⟩
   ·go_wp2_with fail;go_roundg (x.items.length+1-(j+1))
    case measure=>rw[HK.out];omega
    case rel=>exact⟨j+1,L',rfl,hjl,by go_num,by have:=K.out;have:=HB.out (by trivial);omega,(HB.out (by trivial)).2.1,bh.out⟩
  ·have e6:decide (j<x.items.length)=false:=decide_eq_false hjl;have K:Hid (R=L-1-Vl.Z.valss x.items∧Vl.Z.costs x.items≤3300*Vl.Z.valss x.items):=by
    have:=ab.out;rw[ZH (by omega),Vl.Z.valss,Vl.Z.costs]at this;exact QA (by omega)
   have z2:=AA aa.out 3 (.slice a2 x.fields.length c2) rfl;have ag:=QA (aZ.out.to T.out.stands);have aI:=T.out.but.size;clear ab;go_wp2_with fail;clear z2;obtain⟨wq,an⟩:∃q,q=wr:=⟨_,rfl⟩
   rw[← an];rw[← an]at aa W ag aI T;clear an
   go_loopg [60] (x.fields.length+1) (λk i wr=>∃(j:Nat) (V:Int),k=x.fields.length+1-j∧j≤x.fields.length∧i=.int .i64 j∧(V=R-Vl.ZA.valss x.fields+Vl.ZA.valss (x.fields.drop j)∧Vl.ZA.costs x.fields+3300*Vl.ZA.valss (x.fields.drop j)≤3300*Vl.ZA.valss x.fields+Vl.ZA.costs (x.fields.drop j))∧0≤V∧BU g V wq wr)
   case atStart=>exact⟨0,R,rfl,ZX _,rfl,by rw[QL];omega,ah,But.refl _ _,by omega,W.out.cell⟩
   case round =>
    obtain⟨j,V,hk,hj,rfl,aE,ac,Y⟩:=hrel;have a0:=QA hk;have al:=QA aE;have U:=QA Y;have bg:Hid (wr.heap[w.heap.size]?=_):=QA ((Y.but.block w.heap.size (by omega) (λe=>af e.symm)).trans aa.out);have ar:=QA (W.out.trans Y);clear hk aE Y;by_cases hjl:j<x.fields.length
    ·have e7:decide (j<x.fields.length)=true:=decide_eq_true hjl;obtain⟨p,Q⟩:∃z,x.fields[j]?=some z:=⟨x.fields[j],ZL hjl⟩
     have H:x.fields.drop j=p::x.fields.drop (j+1):=by rw[ZG hjl];rw[ZL hjl]at Q;rw[Option.some.inj Q]
     have aH:Hid (V=R-Vl.ZA.valss x.fields+(p.v.vals+Vl.ZA.valss (x.fields.drop (j+1)):Nat)∧Vl.ZA.costs x.fields+3300*(p.v.vals+Vl.ZA.valss (x.fields.drop (j+1)))≤3300*Vl.ZA.valss x.fields+(2+(2+p.name.length+p.v.cost)+Vl.ZA.costs (x.fields.drop (j+1)))):=by have:=al.out;rw[H,Vl.ZA.valss_cons,Vl.ZA.costs,Vl.ZA.cost_eq]at this;exact QA this
     obtain⟨M,I⟩:=bb.out p (ZE Q);rw[Vl.ZA.fits_eq]at I;obtain⟨E,o,cs,ha,D,B,P,A,hd⟩:=ag.out.el j p.d (by rw[ZK,Q];rfl);obtain⟨p1,p2,u1,u2,rfl,ay⟩:=BZ hd;have k0:wr.cell? ⟨E,o+j*7,none⟩=_:=(U.out.but.cell (p:=⟨E,o+j*7,none⟩) B D).trans (A 0 _ rfl);have k1:wr.cell? ⟨E,o+j*7+1,none⟩=_:=(U.out.but.cell (p:=⟨E,o+j*7+1,none⟩) B D).trans (A 1 _ rfl);have k2:wr.cell? ⟨E,o+j*7+2,none⟩=_:=(U.out.but.cell (p:=⟨E,o+j*7+2,none⟩) B D).trans (A 2 _ rfl);have k3:wr.cell? ⟨E,o+j*7+3,none⟩=_:=(U.out.but.cell (p:=⟨E,o+j*7+3,none⟩) B D).trans (A 3 _ rfl);have k4:wr.cell? ⟨E,o+j*7+4,none⟩=_:=(U.out.but.cell (p:=⟨E,o+j*7+4,none⟩) B D).trans (A 4 _ rfl);have k5:wr.cell? ⟨E,o+j*7+5,none⟩=_:=(U.out.but.cell (p:=⟨E,o+j*7+5,none⟩) B D).trans (A 5 _ rfl);have k6:wr.cell? ⟨E,o+j*7+6,none⟩=_:=(U.out.but.cell (p:=⟨E,o+j*7+6,none⟩) B D).trans (A 6 _ rfl);have z1:=AA bg.out 3 (.slice a2 x.fields.length c2) rfl;subst ha;have G:V≤400:=by have:=aH.out.1;have:=K.out.1;have h2:=congrArg Vl.ZA.valss H;rw[Vl.ZA.valss_cons]at h2;have h3:Vl.ZA.valss (x.fields.drop j)≤Vl.ZA.valss x.fields:=Vl.valssA_drop _ _;omega
     have C:=QA (λd=>ax.out p.v M I.2 p1 p2 u1 u2 wr g V d ac G U.out.cell (ay.to U.out.stands));have aO:=I.1;unfold maxLen at aO;unfold AN at C;clear Q H P A hd ay M I al;by_cases hnm:100<p.name.length
     ·have e8:decide ((100:Int)<(p.name.length:Int))=true:=decide_eq_true (by omega);go_wp2_with fail;go_ret;exact⟨false,V,rfl,ar.out,G,λh=>by cases h⟩
     have e8:decide ((100:Int)<(p.name.length:Int))=false:=decide_eq_false (by omega);go_wp2_with fail;refine (C.out _).mono ?_;rintro r w2 ⟨b,L',rfl,ho2,hL'4,hb⟩;have HB:=QA hb;have aV:=QA (U.out.trans ho2);have aF:=QA (ar.out.trans ho2);clear hb ho2 k0 k1 k2 k3 k4 k5 k6 z1 C;cases b
     ·go_wp2_with fail;go_ret;exact⟨false,L',rfl,aF.out,hL'4,λh=>by cases h⟩
     ·go_wp2_with fail;go_roundg (x.fields.length+1-(j+1))
      case measure=>rw[a0.out];omega
      case rel=>exact⟨j+1,L',rfl,hjl,by go_num,by have:=aH.out;have:=HB.out (by trivial);omega,(HB.out (by trivial)).2.1,aV.out⟩
    ·have e7:decide (j<x.fields.length)=false:=decide_eq_false hjl;have G:V=L-x.vals∧x.cost+200≤3300*x.vals:=by
      have:=al.out;rw[ZH (by omega),Vl.ZA.valss,Vl.ZA.costs]at this;have h1:=K.out;have h2:=aS.out;have h3:=aU.out;omega
     go_wp2_with fail;go_ret;exact⟨true,V,rfl,ar.out,by omega,λ_=>⟨G.1,ac,G.2⟩⟩
theorem GA {w w1 w2:World} {g:Nat} {L:Int} (hb:Below w.heap.size w w1) (ho:BU g L w1 w2) (hg:w.heap.size≤g):Below w.heap.size w w2 :=
 ⟨ho.but.os.trans hb.os,ho.but.tape.trans hb.tape,ho.but.output.trans hb.output,Nat.le_trans hb.size ho.but.size,λk hk=>(ho.but.block k (by have:=hb.size;omega) (λe=>by have e:k=g:=e;omega)).trans (hb.block k hk)⟩
theorem KA:∀N:Nat,Ot N
 | 0=>λx hN=>by have:=Vl.Z.n_pos x;omega
 | N+1=>ML N (KA N)
theorem Ji (x:Vl.Z) (hfit:x.fits) (a1 a2:Option Addr) (c1 c2:Nat) (w:World) (hR:Reads w (λ_=>True) x.d (AN x a1 a2 c1 c2).toList) :
  Calls Tryz.prog 9 #[.agg (AN x a1 a2 c1 c2)] w (λr w'=>∃b:Bool,r=.returned (.bool b)∧Below w.heap.size w w'∧(b=true→x.vals≤400∧x.cost≤3300*400)):=by
 obtain⟨K,o⟩:∃q,q=w.alloc (.cells (AN x a1 a2 c1 c2) 25):=⟨_,rfl⟩
 have D:Below w.heap.size w K:=by rw[o];exact (Below.refl _ _).alloc (QM _) _
 obtain⟨G,B⟩:∃q,q=K.alloc (.cells #[.int .i64 400] 3):=⟨_,rfl⟩
 have A:Below w.heap.size w G:=by rw[B];exact D.alloc D.size _
 have M:K.heap.size=w.heap.size+1:=by rw[o];simp
 have E:G.heap[w.heap.size+1]?=some (.cells #[.int .i64 400] 3 (0,0)):=by rw[B,← M];exact AC _ _
 have F:Reads G (λk=>k≠w.heap.size+1) x.d (AN x a1 a2 c1 c2).toList:=(hR.to (AE.sub _ (Q:=λk=>k<w.heap.size) (λg E _=>E))).to ⟨A.size,λg E hp=>⟨by show g≠_;omega,A.block g E⟩⟩;have H:=QA (KA x.n x (QM _) hfit a1 a2 c1 c2 G (w.heap.size+1) 400 0 (by omega) (by omega) E F);have L:=QA A;have C:=QA (B.trans (by rw[o]));rw[C.out]at H;unfold AN at H C ⊢;clear B o D A M E F hR;go_enter Tryz.func9,Tryz.ntmps9;go_wp2_with fail;refine H.out.mono ?_;rintro r w2 ⟨b,L',rfl,ho,-,hb⟩;have I:b=true→x.vals≤400∧x.cost≤3300*400:=λh=>by have:=hb h;omega
 rw[← C.out]at ho;have J:=QA (GA L.out ho (by omega));clear ho hb;go_wp2_with fail;go_ret;exact⟨b,rfl,J.out,I⟩
namespace Dq
def smA (x:Vl.ZA):Prop:=x.name.length≤200∧x.v.vals≤400∧x.v.cost≤3300*400
def cntA:List Vl.ZA→Nat:=List.length
def cntD:List Dir→Nat
 | []=>0
 | x::r=>1+x.args.length+cntD r
def smD (x:Dir):Prop:=x.name.length≤200∧∀a∈x.args,smA a
mutual
def Sel.cnt:Sel→Nat
 | .mk _ _ _ a d s _=>1+a.length+cntD d+Sel.cntl s
def Sel.cntl:List Sel→Nat
 | []=>0
 | x::r=>Sel.cnt x+Sel.cntl r
end
theorem Sel.cnt_eq (x:Sel):x.cnt=1+x.args.length+cntD x.dirs+Sel.cntl x.sels:=by cases x;rw[Sel.cnt];rfl
mutual
def Sel.sm:Sel→Prop
 | .mk _ al n a d s _=>al.length≤200∧n.length≤200∧(∀x∈a,smA x)∧(∀x∈d,smD x)∧Sel.sml s
def Sel.sml:List Sel→Prop
 | []=>True
 | x::r=>Sel.sm x∧Sel.sml r
end
theorem Sel.sml_iff:∀{l:List Sel},Sel.sml l↔∀x∈l,x.sm
 | []=>by rw[Sel.sml];simp
 | x::r=>by rw[Sel.sml,Sel.sml_iff (l:=r)];simp
theorem Sel.sm_eq (x:Sel):x.sm↔(x.nick.length≤200∧x.name.length≤200∧(∀y∈x.args,smA y)∧(∀y∈x.dirs,smD y)∧∀y∈x.sels,y.sm):=by
 cases x;rw[Sel.sm,Sel.sml_iff];rfl
theorem cntD_drop:∀(l:List Dir) (j:Nat),cntD (l.drop j)≤cntD l
 | [],j=>by rw[List.drop_nil];exact QM _
 | x::r,0=>QM _
 | x::r,j+1=>by
  have:=cntD_drop r j;rw[QE,cntD];omega
theorem cntl_drop:∀(l:List Sel) (j:Nat),Sel.cntl (l.drop j)≤Sel.cntl l
 | [],j=>by rw[List.drop_nil];exact QM _
 | x::r,0=>QM _
 | x::r,j+1=>by
  have:=cntl_drop r j;rw[QE,Sel.cntl];omega
theorem cntA_drop (l:List Vl.ZA) (j:Nat):cntA (l.drop j)≤cntA l:=by unfold cntA;rw[List.length_drop];omega
theorem cntA_cons (x:Vl.ZA) (r:List Vl.ZA):cntA (x::r)=1+cntA r:=by unfold cntA;rw[List.length_cons];omega
theorem cntD_cons (x:Dir) (r:List Dir):cntD (x::r)=(1+x.args.length)+cntD r:=by rw[cntD]
theorem cntl_cons (x:Sel) (r:List Sel):Sel.cntl (x::r)=(1+x.args.length+cntD x.dirs+Sel.cntl x.sels)+Sel.cntl r:=by rw[Sel.cntl,Sel.cnt_eq]
theorem cntl_mem:∀{l:List Sel} {x:Sel},x∈l→x.cnt≤Sel.cntl l
 | y::r,x,h=>by
  rw[Sel.cntl];rcases List.mem_cons.1 h with rfl|h
  ·omega
  ·have:=cntl_mem h;omega
def Post (n g:Nat) (S:Prop) (L:Int) (w:World) (r:Ending) (w':World):Prop:=∃(b:Bool) (L':Int),r=.returned (.bool b)∧BU g L' w w'∧L'≤400∧(b=true→L'=L-n∧0≤L'∧S)
end Dq
theorem BU.of_below {g:Nat} {L:Int} {w0 w w':World} (h:BU g L w0 w) (hb:Below w.heap.size w w'):BU g L w0 w' :=
 ⟨h.but.trans (But.of_below hb),h.lt,(hb.block g (Nat.lt_of_lt_of_le h.lt h.but.size)).trans h.cell⟩
theorem CL {α:Type} {l:List α} {j:Nat} {p:α} {q:α→Prop} (hp:l[j]?=some p) (h:∀x∈l.take j,q x) (hq:q p):∀x∈l.take (j+1),q x:=by
 rw[List.take_add_one,hp];intro x hx;rcases List.mem_append.1 hx with hx|hx
 ·exact h x hx
 ·rw[List.mem_singleton.1 hx];exact hq
theorem Fa (l:List Vl.ZA) (hf:∀x∈l,x.fits) (a:Option Addr) (c:Nat) (w:World) (g:Nat) (L:Int) (hL0:0≤L) (hL4:L≤400) (hlen:l.length≤9223372036854775807) (hg:w.heap[g]?=some (.cells #[.int .i64 L] 3 (0,0)))
  (hR:Reads w (λx=>x≠g) (.seq 7 (l.map Vl.ZA.d)) [.slice a l.length c]) :
  Calls Tryz.prog 114 #[.slice a l.length c,.pointer (some ⟨g,0,none⟩)] w (Dq.Post (Dq.cntA l) g (∀x∈l,Dq.smA x) L w):=by
 have HF:=QA hf;have HR:=QA hR;have HG:Hid (BU g L w w):=QA ⟨But.refl _ _,block_lt hg,hg⟩;have aV:=block_lt hg
 clear hf hR hg;go_enter Tryz.func114,Tryz.ntmps114;go_wp2_with fail
 go_loopg [9] (l.length+1) (λk i wr=>∃(j:Nat) (C:Int),k=l.length+1-j∧j≤l.length∧i=.int .i64 j∧C=L-Dq.cntA l+Dq.cntA (l.drop j)∧0≤C∧(∀x∈l.take j,Dq.smA x)∧BU g C w wr)
 case atStart=>exact⟨0,L,rfl,ZX _,rfl,by rw[QL];omega,hL0,by simp,HG.out⟩
 case round =>
  obtain⟨j,C,hk,hj,rfl,ad,al,ah,ho⟩:=hrel;have HK:=QA hk;have S:=QA ad;have Y:=QA ah;have J:=QA ho;have aK:=ho.but.size;clear hk ad ah ho;by_cases hjl:j<l.length
  ·have e6:decide (j<l.length)=true:=decide_eq_true hjl;obtain⟨p,T⟩:∃z,l[j]?=some z:=⟨l[j],ZL hjl⟩
   have U:l.drop j=p::l.drop (j+1):=by rw[ZG hjl];rw[ZL hjl]at T;rw[Option.some.inj T]
   have au:Hid (C=L-Dq.cntA l+((1)+Dq.cntA (l.drop (j+1)):Nat)):=by have:=S.out;rw[U,Dq.cntA_cons]at this;exact QA this
   have aJ:C≤400:=by have:=S.out;have h3:=Dq.cntA_drop l j;omega
   have ai:=QA (ZE T);have az:=QA (HF.out p ai.out);obtain⟨G,o,cs,ha,F,B,P,A,hd⟩:=HR.out.el j p.d (by rw[ZK,T];rfl);obtain⟨s1,s2,u1,u2,rfl,av⟩:=BZ hd;have k0:wr.cell? ⟨G,o+j*7,none⟩=_:=(J.out.but.cell (p:=⟨G,o+j*7,none⟩) B F).trans (A 0 _ rfl);have k1:wr.cell? ⟨G,o+j*7+1,none⟩=_:=(J.out.but.cell (p:=⟨G,o+j*7+1,none⟩) B F).trans (A 1 _ rfl);have k2:wr.cell? ⟨G,o+j*7+2,none⟩=_:=(J.out.but.cell (p:=⟨G,o+j*7+2,none⟩) B F).trans (A 2 _ rfl);have k3:wr.cell? ⟨G,o+j*7+3,none⟩=_:=(J.out.but.cell (p:=⟨G,o+j*7+3,none⟩) B F).trans (A 3 _ rfl);have k4:wr.cell? ⟨G,o+j*7+4,none⟩=_:=(J.out.but.cell (p:=⟨G,o+j*7+4,none⟩) B F).trans (A 4 _ rfl);have k5:wr.cell? ⟨G,o+j*7+5,none⟩=_:=(J.out.but.cell (p:=⟨G,o+j*7+5,none⟩) B F).trans (A 5 _ rfl);have k6:wr.cell? ⟨G,o+j*7+6,none⟩=_:=(J.out.but.cell (p:=⟨G,o+j*7+6,none⟩) B F).trans (A 6 _ rfl);subst ha;obtain⟨wb,E⟩:∃q,q=wr.alloc (.cells #[.string ⟨p.name.toArray⟩,.int .i64 p.v.kind,.string ⟨p.v.text.toArray⟩,.slice s1 p.v.items.length u1,.slice s2 p.v.fields.length u2,.int .i64 p.v.at_,.int .i64 p.at_] 72):=⟨_,rfl⟩
   have K:wb.heap[g]?=some (.cells #[.int .i64 C] 3 (0,0)):=by rw[E,Lib.alloc_old _ _ _ (by omega)];exact J.out.cell
   have V:wb.heap[wr.heap.size]?=some (.cells #[.string ⟨p.name.toArray⟩,.int .i64 p.v.kind,.string ⟨p.v.text.toArray⟩,.slice s1 p.v.items.length u1,.slice s2 p.v.fields.length u2,.int .i64 p.v.at_,.int .i64 p.at_] 72 (0,0)):=by rw[E];exact AC _ _
   have W:wb.heap.size=wr.heap.size+1:=by rw[E];simp
   have ab:g≠wr.heap.size:=by omega
   obtain⟨w1,H⟩:∃q,q=wb.setCell ⟨g,0,none⟩ (.int .i64 (C-1)):=⟨_,rfl⟩
   have Q:w1.heap[g]?=some (.cells #[.int .i64 (C-1)] 3 (0,0)):=by rw[H];exact Af K
   have aa:w1.heap[wr.heap.size]?=some (.cells #[.string ⟨p.name.toArray⟩,.int .i64 p.v.kind,.string ⟨p.v.text.toArray⟩,.slice s1 p.v.items.length u1,.slice s2 p.v.fields.length u2,.int .i64 p.v.at_,.int .i64 p.at_] 72 (0,0)):=by rw[H,AK (λe=>ab e.symm)];exact V
   have aN:w1.heap.size=wr.heap.size+1:=by rw[H,AU];exact W
   have R:BU g (C-1) wr w1:=by
    refine⟨?_,by omega,Q⟩;rw[H,E];exact But.setCell (X:=λx=>x=g) (But.alloc (But.refl _ _) _) (p:=⟨g,0,none⟩) (.inl rfl) _
   have f0:=AA K 0 (.int .i64 C) rfl;have f1:=KF K 0;rw[E]at f0 f1;have f9:=AA Q 0 (.int .i64 (C-1)) rfl;have aB:=QA ((J.out.trans R).stands);have ae:=QA aa;have O:=QA (J.out.trans R);have I:=QA H;rw[E]at I;have HP:=QA T;clear T U P A H Q aa R K E V W;obtain⟨z0,z1,z2,z3,z4,z5⟩:=BQ ae.out rfl rfl rfl rfl rfl rfl;rw[I.out]at f9 z0 z1 z2 z3 z4 z5;by_cases h20:C-1<0
   ·have ay:decide ((C-1:Int)<0)=true:=decide_eq_true (by omega);clear h20;go_wp2_with fail;go_ret;exact⟨false,C-1,rfl,by rw[← I.out];exact O.out,by omega,λh=>by cases h⟩
   have ay:decide ((C-1:Int)<0)=false:=decide_eq_false (by omega);by_cases h21:200<p.name.length
   ·have aA:decide ((200:Int)<(p.name.length:Int))=true:=decide_eq_true (by omega);clear h21;go_wp2_with fail;go_ret;exact⟨false,C-1,rfl,by rw[← I.out];exact O.out,by omega,λh=>by cases h⟩
   have aA:decide ((200:Int)<(p.name.length:Int))=false:=decide_eq_false (by omega);have M:=az.out;rw[Vl.ZA.fits_eq]at M;have aw:=M.1;unfold maxLen at aw;have D:=QA (Ji p.v M.2 s1 s2 u1 u2 w1 ((av.to aB.out).to (AE.sub _ (λ_ _ _=>trivial))));clear M;rw[I.out]at D;unfold AN at D;go_wp2_with fail;refine D.out.mono ?_;rw[← I.out];rintro r w2 ⟨b,rfl,hb2,hle⟩;have Z:=QA hle;have ak:=QA (O.out.of_below hb2);have aX:Hid (w2.heap[wr.heap.size]?=_):=QA ((hb2.block wr.heap.size (by omega)).trans ae.out);have aY:=hb2.size;clear hle hb2 z0 z1 z2 z3 z4 z5 D f0 f1 f9 k0 k1 k2 k3 k4 k5 k6;cases b
   ·go_wp2_with fail;go_ret;exact⟨false,C-1,rfl,ak.out,by omega,λh=>by cases h⟩
   have af:=QA (Z.out (by trivial));have aj:Dq.smA p:=⟨by omega,af.out.1,af.out.2⟩
   have N:C-1=L-Dq.cntA l+(Dq.cntA (l.drop (j+1)):Nat):=by
    have:=au.out;omega
   have ar:=QA N;clear N;go_wp2_with fail;go_roundg (l.length+1-(j+1))
   case measure=>rw[HK.out];omega
   case rel=>exact⟨j+1,C-1,rfl,hjl,by go_num,ar.out,by omega,CL HP.out Y.out aj,ak.out⟩
  ·have e6:decide (j<l.length)=false:=decide_eq_false hjl;have N:C=L-Dq.cntA l:=by
    have:=S.out;rw[ZH (by omega)]at this;have h0:Dq.cntA ([]:List Vl.ZA)=0:=by first|rfl|rw[Dq.cntA]
    omega
   have ac:∀x∈l,Dq.smA x:=by
    have:=Y.out
    rwa [List.take_of_length_le (by omega)]at this
   go_wp2_with fail;go_ret;exact⟨true,C,rfl,J.out,by omega,λ_=>⟨N,al,ac⟩⟩
theorem DN (l:List Dq.Dir) (hf:∀x∈l,x.fits) (a:Option Addr) (c:Nat) (w:World) (g:Nat) (L:Int) (hL0:0≤L) (hL4:L≤400) (hlen:l.length≤9223372036854775807) (hg:w.heap[g]?=some (.cells #[.int .i64 L] 3 (0,0)))
  (hR:Reads w (λx=>x≠g) (.seq 3 (l.map Dq.Dir.d)) [.slice a l.length c]) :
  Calls Tryz.prog 48 #[.slice a l.length c,.pointer (some ⟨g,0,none⟩)] w (Dq.Post (Dq.cntD l) g (∀x∈l,Dq.smD x) L w):=by
 have HF:=QA hf;have HR:=QA hR;have HG:Hid (BU g L w w):=QA ⟨But.refl _ _,block_lt hg,hg⟩;have aS:=block_lt hg
 clear hf hR hg;go_enter Tryz.func48,Tryz.ntmps48;go_wp2_with fail
 go_loopg [9] (l.length+1) (λk i wr=>∃(j:Nat) (A:Int),k=l.length+1-j∧j≤l.length∧i=.int .i64 j∧A=L-Dq.cntD l+Dq.cntD (l.drop j)∧0≤A∧(∀x∈l.take j,Dq.smD x)∧BU g A w wr)
 case atStart=>exact⟨0,L,rfl,ZX _,rfl,by rw[QL];omega,hL0,by simp,HG.out⟩
 case round =>
  obtain⟨j,A,hk,hj,rfl,af,am,ai,ho⟩:=hrel;have HK:=QA hk;have T:=QA af;have aa:=QA ai;have S:=QA ho;have aI:=ho.but.size;clear hk af ai ho;by_cases hjl:j<l.length
  ·have e6:decide (j<l.length)=true:=decide_eq_true hjl;obtain⟨p,V⟩:∃z,l[j]?=some z:=⟨l[j],ZL hjl⟩
   have W:l.drop j=p::l.drop (j+1):=by rw[ZG hjl];rw[ZL hjl]at V;rw[Option.some.inj V]
   have ar:Hid (A=L-Dq.cntD l+((1+p.args.length)+Dq.cntD (l.drop (j+1)):Nat)):=by have:=T.out;rw[W,Dq.cntD_cons]at this;exact QA this
   have aG:A≤400:=by have:=T.out;have h3:=Dq.cntD_drop l j;omega
   have aj:=QA (ZE V);have N:=QA (HF.out p aj.out);obtain⟨U,o,cs,ha,R,G,O,B,hd⟩:=HR.out.el j p.d (by rw[ZK,V];rfl);obtain⟨s1,u1,rfl,ax⟩:=Dq.Dir.opened hd;have k0:wr.cell? ⟨U,o+j*3,none⟩=_:=(S.out.but.cell (p:=⟨U,o+j*3,none⟩) G R).trans (B 0 _ rfl);have k1:wr.cell? ⟨U,o+j*3+1,none⟩=_:=(S.out.but.cell (p:=⟨U,o+j*3+1,none⟩) G R).trans (B 1 _ rfl);have k2:wr.cell? ⟨U,o+j*3+2,none⟩=_:=(S.out.but.cell (p:=⟨U,o+j*3+2,none⟩) G R).trans (B 2 _ rfl);subst ha;obtain⟨wb,C⟩:∃q,q=wr.alloc (.cells #[.string ⟨p.name.toArray⟩,.slice s1 p.args.length u1,.int .i64 p.at_] 171):=⟨_,rfl⟩
   have H:wb.heap[g]?=some (.cells #[.int .i64 A] 3 (0,0)):=by rw[C,Lib.alloc_old _ _ _ (by omega)];exact S.out.cell
   have Y:wb.heap[wr.heap.size]?=some (.cells #[.string ⟨p.name.toArray⟩,.slice s1 p.args.length u1,.int .i64 p.at_] 171 (0,0)):=by rw[C];exact AC _ _
   have Z:wb.heap.size=wr.heap.size+1:=by rw[C];simp
   have K:g≠wr.heap.size:=by omega
   obtain⟨w1,E⟩:∃q,q=wb.setCell ⟨g,0,none⟩ (.int .i64 (A-1)):=⟨_,rfl⟩
   have P:w1.heap[g]?=some (.cells #[.int .i64 (A-1)] 3 (0,0)):=by rw[E];exact Af H
   have ac:w1.heap[wr.heap.size]?=some (.cells #[.string ⟨p.name.toArray⟩,.slice s1 p.args.length u1,.int .i64 p.at_] 171 (0,0)):=by rw[E,AK (λe=>K e.symm)];exact Y
   have aL:w1.heap.size=wr.heap.size+1:=by rw[E,AU];exact Z
   have Q:BU g (A-1) wr w1:=by
    refine⟨?_,by omega,P⟩;rw[E,C];exact But.setCell (X:=λx=>x=g) (But.alloc (But.refl _ _) _) (p:=⟨g,0,none⟩) (.inl rfl) _
   have f0:=AA H 0 (.int .i64 A) rfl;have f1:=KF H 0;rw[C]at f0 f1;have f9:=AA P 0 (.int .i64 (A-1)) rfl;have az:=QA ((S.out.trans Q).stands);have ag:=QA ac;have I:=QA (S.out.trans Q);have F:=QA E;rw[C]at F;have HP:=QA V;clear V W O B E P ac Q H C Y Z;obtain⟨z0,z1⟩:=EY ag.out rfl rfl;rw[F.out]at f9 z0 z1;by_cases h20:A-1<0
   ·have av:decide ((A-1:Int)<0)=true:=decide_eq_true (by omega);clear h20;go_wp2_with fail;go_ret;exact⟨false,A-1,rfl,by rw[← F.out];exact I.out,by omega,λh=>by cases h⟩
   have av:decide ((A-1:Int)<0)=false:=decide_eq_false (by omega);by_cases h21:200<p.name.length
   ·have aw:decide ((200:Int)<(p.name.length:Int))=true:=decide_eq_true (by omega);clear h21;go_wp2_with fail;go_ret;exact⟨false,A-1,rfl,by rw[← F.out];exact I.out,by omega,λh=>by cases h⟩
   have aw:decide ((200:Int)<(p.name.length:Int))=false:=decide_eq_false (by omega);have aK:p.name.length≤9223372036854775807:=N.out.1;have D:=QA (Fa p.args N.out.2.2 s1 u1 w1 g (A-1) (by omega) (by omega) (by have:=N.out.2.1;unfold maxLen at this;omega) I.out.cell (ax.to az.out));rw[F.out]at D;go_wp2_with fail;refine D.out.mono ?_;rw[← F.out];rintro r w2 ⟨b,L2,rfl,ho2,hl2,hle⟩;have ab:=QA hle;have al:=QA (I.out.trans ho2);have aU:Hid (w2.heap[wr.heap.size]?=_):=QA ((ho2.but.block wr.heap.size (by omega) (λe=>K e.symm)).trans ag.out);have aV:=ho2.but.size;clear hle ho2 z0 z1 D f0 f1 f9 k0 k1 k2;cases b
   ·go_wp2_with fail;go_ret;exact⟨false,L2,rfl,al.out,by omega,λh=>by cases h⟩
   obtain⟨ad,aF,M⟩:=ab.out (by trivial);have ay:=QA ad;have aA:=QA M;have aH:L2≤400:=hl2;clear ad M;have ak:Dq.smD p:=⟨by omega,aA.out⟩
   have J:L2=L-Dq.cntD l+(Dq.cntD (l.drop (j+1)):Nat):=by
    have:=ar.out;have hA:Dq.cntA p.args=p.args.length:=rfl;have q2:=ay.out;omega
   have aq:=QA J;clear J;go_wp2_with fail;go_roundg (l.length+1-(j+1))
   case measure=>rw[HK.out];omega
   case rel=>exact⟨j+1,L2,rfl,hjl,by go_num,aq.out,by omega,CL HP.out aa.out ak,al.out⟩
  ·have e6:decide (j<l.length)=false:=decide_eq_false hjl;have J:A=L-Dq.cntD l:=by
    have:=T.out;rw[ZH (by omega)]at this;have h0:Dq.cntD ([]:List Dq.Dir)=0:=by first|rfl|rw[Dq.cntD]
    omega
   have ae:∀x∈l,Dq.smD x:=by
    have:=aa.out
    rwa [List.take_of_length_le (by omega)]at this
   go_wp2_with fail;go_ret;exact⟨true,A,rfl,S.out,by omega,λ_=>⟨J,am,ae⟩⟩
def J8 (N:Nat):Prop:=∀(l:List Dq.Sel),Dq.Sel.cntl l<N→(∀x∈l,x.fits)→∀(a:Option Addr) (c:Nat) (w:World) (g:Nat) (L deep:Int),0≤L→L≤400→l.length≤9223372036854775807→w.heap[g]?=some (.cells #[.int .i64 L] 3 (0,0)) →
 Reads w (λx=>x≠g) (.seq 7 (l.map Dq.Sel.d)) [.slice a l.length c] →
 Calls Tryz.prog 49 #[.slice a l.length c,.pointer (some ⟨g,0,none⟩),.int .i64 deep] w (Dq.Post (Dq.Sel.cntl l) g (∀x∈l,x.sm) L w)
theorem Ib (l:List Dq.Sel) (N:Nat) (IH:J8 N) (hN:Dq.Sel.cntl l<N+1) (hf:∀x∈l,x.fits) (a:Option Addr) (c:Nat) (w:World) (g:Nat) (L deep:Int) (hL0:0≤L) (hL4:L≤400) (hlen:l.length≤9223372036854775807) (hg:w.heap[g]?=some (.cells #[.int .i64 L] 3 (0,0)))
  (hR:Reads w (λx=>x≠g) (.seq 7 (l.map Dq.Sel.d)) [.slice a l.length c]) :
  Calls Tryz.prog 49 #[.slice a l.length c,.pointer (some ⟨g,0,none⟩),.int .i64 deep] w (Dq.Post (Dq.Sel.cntl l) g (∀x∈l,Dq.Sel.sm x) L w):=by
 have HF:=QA hf;have HR:=QA hR;have HG:Hid (BU g L w w):=QA ⟨But.refl _ _,block_lt hg,hg⟩;have bw:=block_lt hg;have aU:=QA IH;have HN:=QA hN;clear hf hR hg IH hN;go_enter Tryz.func49,Tryz.ntmps49;go_wp2_with fail
 go_loopg [11] (l.length+1) (λk i wr=>∃(j:Nat) (E:Int),k=l.length+1-j∧j≤l.length∧i=.int .i64 j∧E=L-Dq.Sel.cntl l+Dq.Sel.cntl (l.drop j)∧0≤E∧(∀x∈l.take j,Dq.Sel.sm x)∧BU g E w wr)
 case atStart=>exact⟨0,L,rfl,ZX _,rfl,by rw[QL];omega,hL0,by simp,HG.out⟩
 case round =>
  obtain⟨j,E,hk,hj,rfl,aJ,aP,aM,ho⟩:=hrel;have HK:=QA hk;have al:=QA aJ;have az:=QA aM;have R:=QA ho;have bh:=ho.but.size;clear hk aJ aM ho;by_cases hjl:j<l.length
  ·have e6:decide (j<l.length)=true:=decide_eq_true hjl;obtain⟨p,hp⟩:∃z,l[j]?=some z:=⟨l[j],ZL hjl⟩
   have av:l.drop j=p::l.drop (j+1):=by rw[ZG hjl];rw[ZL hjl]at hp;rw[Option.some.inj hp]
   have aT:Hid (E=L-Dq.Sel.cntl l+((1+p.args.length+Dq.cntD p.dirs+Dq.Sel.cntl p.sels)+Dq.Sel.cntl (l.drop (j+1)):Nat)):=by have:=al.out;rw[av,Dq.cntl_cons]at this;exact QA this
   have bg:E≤400:=by have:=al.out;have h3:=Dq.cntl_drop l j;omega
   have aa:=QA (ZE hp);have ad:=QA (HF.out p aa.out);obtain⟨I,o,cs,ha,H,D,ag,B,hd⟩:=HR.out.el j p.d (by rw[ZK,hp];rfl);obtain⟨s1,s2,s3,u1,u2,u3,rfl,a2,a6,aZ⟩:=Dq.Sel.opened hd;have k0:wr.cell? ⟨I,o+j*7,none⟩=_:=(R.out.but.cell (p:=⟨I,o+j*7,none⟩) D H).trans (B 0 _ rfl);have k1:wr.cell? ⟨I,o+j*7+1,none⟩=_:=(R.out.but.cell (p:=⟨I,o+j*7+1,none⟩) D H).trans (B 1 _ rfl);have k2:wr.cell? ⟨I,o+j*7+2,none⟩=_:=(R.out.but.cell (p:=⟨I,o+j*7+2,none⟩) D H).trans (B 2 _ rfl);have k3:wr.cell? ⟨I,o+j*7+3,none⟩=_:=(R.out.but.cell (p:=⟨I,o+j*7+3,none⟩) D H).trans (B 3 _ rfl);have k4:wr.cell? ⟨I,o+j*7+4,none⟩=_:=(R.out.but.cell (p:=⟨I,o+j*7+4,none⟩) D H).trans (B 4 _ rfl);have k5:wr.cell? ⟨I,o+j*7+5,none⟩=_:=(R.out.but.cell (p:=⟨I,o+j*7+5,none⟩) D H).trans (B 5 _ rfl);have k6:wr.cell? ⟨I,o+j*7+6,none⟩=_:=(R.out.but.cell (p:=⟨I,o+j*7+6,none⟩) D H).trans (B 6 _ rfl);subst ha;obtain⟨wb,G⟩:∃q,q=wr.alloc (.cells #[.int .i64 p.kind,.string ⟨p.nick.toArray⟩,.string ⟨p.name.toArray⟩,.slice s1 p.args.length u1,.slice s2 p.dirs.length u2,.slice s3 p.sels.length u3,.int .i64 p.at_] 174):=⟨_,rfl⟩
   have T:wb.heap[g]?=some (.cells #[.int .i64 E] 3 (0,0)):=by rw[G,Lib.alloc_old _ _ _ (by omega)];exact R.out.cell
   have aw:wb.heap[wr.heap.size]?=some (.cells #[.int .i64 p.kind,.string ⟨p.nick.toArray⟩,.string ⟨p.name.toArray⟩,.slice s1 p.args.length u1,.slice s2 p.dirs.length u2,.slice s3 p.sels.length u3,.int .i64 p.at_] 174 (0,0)):=by rw[G];exact AC _ _
   have ay:wb.heap.size=wr.heap.size+1:=by rw[G];simp
   have J:g≠wr.heap.size:=by omega
   obtain⟨w1,M⟩:∃q,q=wb.setCell ⟨g,0,none⟩ (.int .i64 (E-1)):=⟨_,rfl⟩
   have ai:w1.heap[g]?=some (.cells #[.int .i64 (E-1)] 3 (0,0)):=by rw[M];exact Af T
   have aC:w1.heap[wr.heap.size]?=some (.cells #[.int .i64 p.kind,.string ⟨p.nick.toArray⟩,.string ⟨p.name.toArray⟩,.slice s1 p.args.length u1,.slice s2 p.dirs.length u2,.slice s3 p.sels.length u3,.int .i64 p.at_] 174 (0,0)):=by rw[M,AK (λe=>J e.symm)];exact aw
   have bj:w1.heap.size=wr.heap.size+1:=by rw[M,AU];exact ay
   have ak:BU g (E-1) wr w1:=by
    refine⟨?_,by omega,ai⟩;rw[M,G];exact But.setCell (X:=λx=>x=g) (But.alloc (But.refl _ _) _) (p:=⟨g,0,none⟩) (.inl rfl) _
   have f0:=AA T 0 (.int .i64 E) rfl;have f1:=KF T 0;rw[G]at f0 f1;have f9:=AA ai 0 (.int .i64 (E-1)) rfl;have a8:=QA ((R.out.trans ak).stands);have P:=QA aC;have K:=QA (R.out.trans ak);have F:=QA M;rw[G]at F;have HP:=QA hp;clear hp av ag B M ai aC ak T G aw ay;have z1:=AA P.out 1 (.string ⟨p.nick.toArray⟩) rfl;have z2:=AA P.out 2 (.string ⟨p.name.toArray⟩) rfl;have z3:=AA P.out 3 (.slice s1 p.args.length u1) rfl;have z4:=AA P.out 4 (.slice s2 p.dirs.length u2) rfl;have z5:=AA P.out 5 (.slice s3 p.sels.length u3) rfl;rw[F.out]at f9 z1 z2 z3 z4 z5;by_cases h20:E-1<0
   ·have aX:decide ((E-1:Int)<0)=true:=decide_eq_true (by omega);clear h20;go_wp2_with fail;go_ret;exact⟨false,E-1,rfl,by rw[← F.out];exact K.out,by omega,λh=>by cases h⟩
   have aX:decide ((E-1:Int)<0)=false:=decide_eq_false (by omega);by_cases h21:20<deep
   ·have aY:decide ((20:Int)<deep)=true:=decide_eq_true (by omega);clear h21;go_wp2_with fail;go_ret;exact⟨false,E-1,rfl,by rw[← F.out];exact K.out,by omega,λh=>by cases h⟩
   have aY:decide ((20:Int)<deep)=false:=decide_eq_false (by omega);by_cases h22:200<p.name.length
   ·have a7:decide ((200:Int)<(p.name.length:Int))=true:=decide_eq_true (by omega);clear h22;go_wp2_with fail;go_ret;exact⟨false,E-1,rfl,by rw[← F.out];exact K.out,by omega,λh=>by cases h⟩
   have a7:decide ((200:Int)<(p.name.length:Int))=false:=decide_eq_false (by omega);by_cases h23:200<p.nick.length
   ·have aW:decide ((200:Int)<(p.nick.length:Int))=true:=decide_eq_true (by omega);clear h23;go_wp2_with fail;go_ret;exact⟨false,E-1,rfl,by rw[← F.out];exact K.out,by omega,λh=>by cases h⟩
   have aW:decide ((200:Int)<(p.nick.length:Int))=false:=decide_eq_false (by omega);have C:=(Dq.Sel.fits_eq p).1 ad.out;have aS:=C.2.1;have a5:=C.2.2.1;unfold maxLen at aS a5;have A:=QA (Fa p.args C.2.2.2.1.2 s1 u1 w1 g (E-1) (by omega) (by omega) (by have:=C.2.2.2.1.1;unfold maxLen at this;omega) K.out.cell (a2.to a8.out));clear C;rw[F.out]at A;go_wp2_with fail;refine A.out.mono ?_;rw[← F.out];rintro r w2 ⟨b,L2,rfl,ho2,hl2,hle⟩;have aA:=QA hle;have V:=QA (K.out.trans ho2);have O:Hid (w2.heap[wr.heap.size]?=_):=QA ((ho2.but.block wr.heap.size (by omega) (λe=>J e.symm)).trans P.out);have bz:=ho2.but.size;clear hle ho2 z1 z2 z3 z4 z5 A f0 f1 f9 k0 k1 k2 k3 k4 k5 k6;cases b
   ·go_wp2_with fail;go_ret;exact⟨false,L2,rfl,V.out,by omega,λh=>by cases h⟩
   obtain⟨aE,aD,Z⟩:=aA.out (by trivial);have a4:=QA aE;have bb:=QA Z;have aI:L2≤400:=hl2;clear aE Z;have z1:=AA O.out 1 (.string ⟨p.nick.toArray⟩) rfl;have z2:=AA O.out 2 (.string ⟨p.name.toArray⟩) rfl;have z3:=AA O.out 3 (.slice s1 p.args.length u1) rfl;have z4:=AA O.out 4 (.slice s2 p.dirs.length u2) rfl;have z5:=AA O.out 5 (.slice s3 p.sels.length u3) rfl;have C:=(Dq.Sel.fits_eq p).1 ad.out;have A:=QA (DN p.dirs C.2.2.2.2.1.2 s2 u2 w2 g L2 aD aI (by have:=C.2.2.2.2.1.1;unfold maxLen at this;omega) V.out.cell (a6.to V.out.stands));clear C;go_wp2_with fail;refine A.out.mono ?_;rintro r w3 ⟨b,L3,rfl,ho3,hl3,hle⟩;have aB:=QA hle;have S:=QA (V.out.trans ho3);have Q:Hid (w3.heap[wr.heap.size]?=_):=QA ((ho3.but.block wr.heap.size (by omega) (λe=>J e.symm)).trans O.out);have bl:=ho3.but.size;clear hle ho3 z1 z2 z3 z4 z5 A;cases b
   ·go_wp2_with fail;go_ret;exact⟨false,L3,rfl,S.out,by omega,λh=>by cases h⟩
   obtain⟨aK,aF,W⟩:=aB.out (by trivial);have ba:=QA aK;have a9:=QA W;have ax:L3≤400:=hl3;clear aK W;have z1:=AA Q.out 1 (.string ⟨p.nick.toArray⟩) rfl;have z2:=AA Q.out 2 (.string ⟨p.name.toArray⟩) rfl;have z3:=AA Q.out 3 (.slice s1 p.args.length u1) rfl;have z4:=AA Q.out 4 (.slice s2 p.dirs.length u2) rfl;have z5:=AA Q.out 5 (.slice s3 p.sels.length u3) rfl;have C:=(Dq.Sel.fits_eq p).1 ad.out;have a3:Dq.Sel.cntl p.sels<N:=by
    have h1:=Dq.cntl_mem aa.out;have h2:=Dq.Sel.cnt_eq p;have h3:=HN.out;omega
   have A:=QA (λdp=>aU.out p.sels a3 C.2.2.2.2.2.2 s3 u3 w3 g L3 dp aF ax (by have:=C.2.2.2.2.2.1;unfold maxLen at this;omega) S.out.cell (aZ.to S.out.stands));clear C;go_wp2_with fail;refine (A.out _).mono ?_;rintro r w4 ⟨b,L4,rfl,ho4,hl4,hle⟩;have au:=QA hle;have aN:=QA (S.out.trans ho4);have bs:Hid (w4.heap[wr.heap.size]?=_):=QA ((ho4.but.block wr.heap.size (by omega) (λe=>J e.symm)).trans Q.out);have bq:=ho4.but.size;clear hle ho4 z1 z2 z3 z4 z5 A;cases b
   ·go_wp2_with fail;go_ret;exact⟨false,L4,rfl,aN.out,by omega,λh=>by cases h⟩
   obtain⟨aH,bf,Y⟩:=au.out (by trivial);have a1:=QA aH;have a0:=QA Y;have be:L4≤400:=hl4;clear aH Y;have aO:Dq.Sel.sm p:=(Dq.Sel.sm_eq p).2 ⟨by omega,by omega,bb.out,a9.out,a0.out⟩;have U:L4=L-Dq.Sel.cntl l+(Dq.Sel.cntl (l.drop (j+1)):Nat):=by
    have:=aT.out;have hA:Dq.cntA p.args=p.args.length:=rfl;have q2:=a4.out;have q3:=ba.out;have q4:=a1.out;omega
   have aR:=QA U;clear U;go_wp2_with fail;go_roundg (l.length+1-(j+1))
   case measure=>rw[HK.out];omega
   case rel=>exact⟨j+1,L4,rfl,hjl,by go_num,aR.out,by omega,CL HP.out az.out aO,aN.out⟩
  ·have e6:decide (j<l.length)=false:=decide_eq_false hjl;have U:E=L-Dq.Sel.cntl l:=by
    have:=al.out;rw[ZH (by omega)]at this;have h0:Dq.Sel.cntl ([]:List Dq.Sel)=0:=by first|rfl|rw[Dq.Sel.cntl]
    omega
   have aG:∀x∈l,Dq.Sel.sm x:=by
    have:=az.out
    rwa [List.take_of_length_le (by omega)]at this
   go_wp2_with fail;go_ret;exact⟨true,E,rfl,R.out,by omega,λ_=>⟨U,aP,aG⟩⟩
theorem DW:∀N:Nat,J8 N
 | 0=>λl h=>by omega
 | N+1=>λl hN hf a c w g L deep h0 h4 hlen hg hR=>Ib l N (DW N) hN hf a c w g L deep h0 h4 hlen hg hR
end Go.Proofs.YtefjgpkpplkkgaaGreatDoor
