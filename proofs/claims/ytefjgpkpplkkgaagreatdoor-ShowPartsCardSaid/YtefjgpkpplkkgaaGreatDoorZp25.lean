/-
  A document that came in. 'Few' of package rubriclaw08, walked: what it lets by is small. 'args', 'dirs', 'sels' of package rubriclaw09, walked: what they let by is small.
-/
import Derived.Test.YtefjgpkpplkkgaaGreatDoorZp24
import Derived.Test.YtefjgpkpplkkgaaGreatDoorZp3
open Go.Lib renaming hid → QA
open List renaming drop_succ_cons → QE, drop_zero → QL, length_map → QX, mem_of_getElem? → ZC, drop_eq_getElem_cons → ZE, drop_eq_nil_of_le → ZF, getElem?_map → ZI, getElem?_eq_getElem → ZJ
open Nat renaming le_refl → QM, zero_le → ZV
namespace Go.Proofs.YtefjgpkpplkkgaaGreatDoor
set_option linter.unusedSimpArgs false
set_option linter.unusedVariables false
open Go Go.RowKit
namespace Dq
structure Dir where
 name:List UInt8
 args:List Vl.ZA
 at_:Int
inductive Sel where
 | mk (kind:Int) (nick name:List UInt8) (args:List Vl.ZA) (dirs:List Dir) (sels:List Sel) (at_:Int)
structure Var where
 name:List UInt8
 type:List UInt8
 has:Bool
 dflt:Vl.Z
 at_:Int
structure Op where
 kind:Int
 name:List UInt8
 vars:List Var
 dirs:List Dir
 sels:List Sel
 at_:Int
structure Fr where
 name:List UInt8
 on:List UInt8
 dirs:List Dir
 sels:List Sel
 at_:Int
structure Doc where
 ops:List Op
 frags:List Fr
namespace Sel
def kind:Sel→Int|.mk k _ _ _ _ _ _=>k
def nick:Sel→List UInt8|.mk _ a _ _ _ _ _=>a
def name:Sel→List UInt8|.mk _ _ n _ _ _ _=>n
def args:Sel→List Vl.ZA|.mk _ _ _ a _ _ _=>a
def dirs:Sel→List Dir|.mk _ _ _ _ d _ _=>d
def sels:Sel→List Sel|.mk _ _ _ _ _ s _=>s
def at_:Sel→Int|.mk _ _ _ _ _ _ a=>a
end Sel
def Dir.d (x:Dir):D:=.obj [.str x.name,.seq 7 (x.args.map Vl.ZA.d),.int x.at_]
mutual
def Sel.d:Sel→D
 | .mk k al n a d s p=>.obj [.int k,.str al,.str n,.seq 7 (a.map Vl.ZA.d),.seq 3 (d.map Dir.d),.seq 7 (Sel.dl s),.int p]
def Sel.dl:List Sel→List D
 | []=>[]
 | x::r=>Sel.d x::Sel.dl r
end
theorem Sel.dl_map:∀ l:List Sel,Sel.dl l=l.map Sel.d
 | []=>by rw[Sel.dl];rfl
 | x::r=>by rw[Sel.dl,Sel.dl_map r];rfl
theorem Sel.d_eq (x:Sel):x.d=.obj [.int x.kind,.str x.nick,.str x.name,.seq 7 (x.args.map Vl.ZA.d),.seq 3 (x.dirs.map Dir.d),.seq 7 (x.sels.map Sel.d),.int x.at_]:=by
 cases x;rw[Sel.d,Sel.dl_map];rfl
def Var.d (x:Var):D:=.obj [.str x.name,.str x.type,.bool x.has,x.dflt.d,.int x.at_]
def Op.d (x:Op):D:=.obj [.int x.kind,.str x.name,.seq 9 (x.vars.map Var.d),.seq 3 (x.dirs.map Dir.d),.seq 7 (x.sels.map Sel.d),.int x.at_]
def Fr.d (x:Fr):D:=.obj [.str x.name,.str x.on,.seq 3 (x.dirs.map Dir.d),.seq 7 (x.sels.map Sel.d),.int x.at_]
def Doc.d (x:Doc):D:=.obj [.seq 6 (x.ops.map Op.d),.seq 5 (x.frags.map Fr.d)]
-- Sizes that memory allows.
def Dir.fits (x:Dir):Prop:=x.name.length≤maxLen∧x.args.length≤maxLen∧∀ a∈x.args,a.fits
mutual
def Sel.fits:Sel→Prop
 | .mk k al n a d s p=>(-9223372036854775808≤k∧k≤9223372036854775807)∧al.length≤maxLen∧n.length≤maxLen∧(a.length≤maxLen∧∀ x∈a,x.fits)∧(d.length≤maxLen∧∀ x∈d,x.fits)∧s.length≤maxLen∧Sel.fitsl s
def Sel.fitsl:List Sel→Prop
 | []=>True
 | x::r=>Sel.fits x∧Sel.fitsl r
end
theorem Sel.fitsl_iff:∀ {l:List Sel},Sel.fitsl l↔∀ x∈l,x.fits
 | []=>by rw[Sel.fitsl];simp
 | x::r=>by rw[Sel.fitsl,Sel.fitsl_iff (l:=r)];simp
theorem Sel.fits_eq (x:Sel):x.fits↔((-9223372036854775808≤x.kind∧x.kind≤9223372036854775807)∧x.nick.length≤maxLen∧x.name.length≤maxLen∧(x.args.length≤maxLen∧∀ y∈x.args,y.fits)∧(x.dirs.length≤maxLen∧∀ y∈x.dirs,y.fits)∧x.sels.length≤maxLen∧∀ y∈x.sels,y.fits):=by
 cases x;rw[Sel.fits,Sel.fitsl_iff];rfl
def Var.fits (x:Var):Prop:=x.name.length≤maxLen∧x.type.length≤maxLen∧x.dflt.fits
def Op.fits (x:Op):Prop:=(-9223372036854775808≤x.kind∧x.kind≤9223372036854775807)∧x.name.length≤maxLen∧(x.vars.length≤maxLen∧∀ y∈x.vars,y.fits)∧(x.dirs.length≤maxLen∧∀ y∈x.dirs,y.fits)∧(x.sels.length≤maxLen∧∀ y∈x.sels,y.fits)
def Fr.fits (x:Fr):Prop:=x.name.length≤maxLen∧x.on.length≤maxLen∧(x.dirs.length≤maxLen∧∀ y∈x.dirs,y.fits)∧(x.sels.length≤maxLen∧∀ y∈x.sels,y.fits)
def Doc.fits (x:Doc):Prop:=(x.ops.length≤maxLen∧∀ y∈x.ops,y.fits)∧(x.frags.length≤maxLen∧∀ y∈x.frags,y.fits)
end Dq
def docTypes:List TypeId:=[43,40,41,96,102,92,100,93,171,94,174,4,25,22,23,72,3,9]
theorem docNice:niceB Tryz.prog docTypes=true:=by kernel_rfl
theorem dirFields:∃ fs:Array Field,Tryz.prog.underlying 171=some (.struct fs)∧fs.toList.map (·.type)=[9,23,3]:=⟨_,Tryz.underlying171,by kernel_rfl⟩
theorem selFields:∃ fs:Array Field,Tryz.prog.underlying 174=some (.struct fs)∧fs.toList.map (·.type)=[3,9,9,23,93,94,3]:=⟨_,Tryz.underlying174,by kernel_rfl⟩
theorem varFields:∃ fs:Array Field,Tryz.prog.underlying 100=some (.struct fs)∧fs.toList.map (·.type)=[9,9,4,25,3]:=⟨_,Tryz.underlying100,by kernel_rfl⟩
theorem opFields:∃ fs:Array Field,Tryz.prog.underlying 96=some (.struct fs)∧fs.toList.map (·.type)=[3,9,92,93,94,3]:=⟨_,Tryz.underlying96,by kernel_rfl⟩
theorem frFields:∃ fs:Array Field,Tryz.prog.underlying 102=some (.struct fs)∧fs.toList.map (·.type)=[9,9,93,94,3]:=⟨_,Tryz.underlying102,by kernel_rfl⟩
theorem docFields:∃ fs:Array Field,Tryz.prog.underlying 43=some (.struct fs)∧fs.toList.map (·.type)=[40,41]:=⟨_,Tryz.underlying43,by kernel_rfl⟩
theorem cellsDir:Tryz.prog.cellsOf 171=3:=by kernel_rfl
theorem cellsSel:Tryz.prog.cellsOf 174=7:=by kernel_rfl
theorem cellsVar:Tryz.prog.cellsOf 100=9:=by kernel_rfl
theorem cellsOp:Tryz.prog.cellsOf 96=6:=by kernel_rfl
theorem cellsFr:Tryz.prog.cellsOf 102=5:=by kernel_rfl
theorem all_of {α:Type} {f:α→D} {q:α→Prop}:∀ {ds:List D},(∀ d∈ds,∃ z,d=f z∧q z)→∃ zs:List α,ds=zs.map f∧∀ z∈zs,q z
 | [],_=>⟨[],rfl,by simp⟩
 | d::r,h=>by
  obtain ⟨z,rfl,A⟩:=h d (by simp)
  obtain ⟨zs,rfl,o⟩:=all_of (ds:=r) (fun x hx=>h x (by simp[hx]))
  exact ⟨z::zs,rfl,by simpa using ⟨A,o⟩⟩
theorem argl_of {d:D} (h:HasT Tryz.prog 23 d):∃ zs:List Vl.ZA,d=.seq 7 (zs.map Vl.ZA.d)∧zs.length≤maxLen∧∀ z∈zs,z.fits:=by
 obtain ⟨is,rfl,o,A⟩:=h.seq Tryz.underlying23
 obtain ⟨zs,rfl,B⟩:=all_of (fun x hx=>arg_of x (A.mem x hx))
 rw[QX] at o
 exact ⟨zs,by rw[cellsA],o,B⟩
theorem dir_of (d:D) (h0:HasT Tryz.prog 171 d):∃ z:Dq.Dir,d=z.d∧z.fits:=by
 obtain ⟨L,G,E⟩:=dirFields
 obtain ⟨N,rfl,h⟩:=h0.obj G
 clear h0
 rw[E] at h
 obtain ⟨J,M,rfl,C,h⟩:=h.cons
 obtain ⟨O,P,rfl,H,h⟩:=h.cons
 obtain ⟨K,Q,rfl,I,h⟩:=h.cons
 obtain rfl:=h.nil
 obtain ⟨t,rfl,F⟩:=C.str Tryz.underlying9
 obtain ⟨B,rfl,o,A⟩:=argl_of H
 obtain ⟨a,rfl,-⟩:=I.int Tryz.underlying3
 exact ⟨⟨t,B,a⟩,rfl,F,o,A⟩
theorem dirl_of {d:D} (h:HasT Tryz.prog 93 d):∃ zs:List Dq.Dir,d=.seq 3 (zs.map Dq.Dir.d)∧zs.length≤maxLen∧∀ z∈zs,z.fits:=by
 obtain ⟨is,rfl,o,A⟩:=h.seq Tryz.underlying93
 obtain ⟨zs,rfl,B⟩:=all_of (fun x hx=>dir_of x (A.mem x hx))
 rw[QX] at o
 exact ⟨zs,by rw[cellsDir],o,B⟩
theorem sel_all:∀ (n:Nat) (d:D),SizeOf.sizeOf d≤n→HasT Tryz.prog 174 d→∃ z:Dq.Sel,d=z.d∧z.fits
 | 0,d,hn,_=>by cases d<;>simp at hn
 | n+1,d,hn,h0=>by
  obtain ⟨fs,T,N⟩:=selFields
  obtain ⟨ds,rfl,h⟩:=h0.obj T
  clear h0
  rw[N] at h
  obtain ⟨d1,r1,rfl,M,h⟩:=h.cons
  obtain ⟨d2,r2,rfl,U,h⟩:=h.cons
  obtain ⟨d3,r3,rfl,W,h⟩:=h.cons
  obtain ⟨d4,Y,rfl,X,h⟩:=h.cons
  obtain ⟨d5,r5,rfl,L,h⟩:=h.cons
  obtain ⟨Z,r6,rfl,K,h⟩:=h.cons
  obtain ⟨d7,r7,rfl,P,h⟩:=h.cons
  obtain rfl:=h.nil
  obtain ⟨k,rfl,S⟩:=M.int Tryz.underlying3
  obtain ⟨R,rfl,E⟩:=U.str Tryz.underlying9
  obtain ⟨V,rfl,F⟩:=W.str Tryz.underlying9
  obtain ⟨I,rfl,A,C⟩:=argl_of X
  obtain ⟨Q,rfl,G,J⟩:=dirl_of L
  obtain ⟨is,rfl,o,B⟩:=K.seq Tryz.underlying94
  obtain ⟨a,rfl,-⟩:=P.int Tryz.underlying3
  simp only[D.obj.sizeOf_spec,D.seq.sizeOf_spec,List.cons.sizeOf_spec,List.nil.sizeOf_spec] at hn
  obtain ⟨O,rfl,H⟩:=all_of (ds:=is) (fun x hx=>sel_all n x (by have:=List.sizeOf_lt_of_mem hx;omega) (B.mem x hx))
  rw[QX] at o
  refine ⟨.mk k R V I Q O a,?_,?_⟩
  ·rw[Dq.Sel.d,Dq.Sel.dl_map,cellsSel]
  ·rw[Dq.Sel.fits,Dq.Sel.fitsl_iff]
   exact ⟨wf_i64 S,E,F,⟨A,C⟩,⟨G,J⟩,o,H⟩
theorem sell_of {d:D} (h:HasT Tryz.prog 94 d):∃ zs:List Dq.Sel,d=.seq 7 (zs.map Dq.Sel.d)∧zs.length≤maxLen∧∀ z∈zs,z.fits:=by
 obtain ⟨is,rfl,o,A⟩:=h.seq Tryz.underlying94
 obtain ⟨zs,rfl,B⟩:=all_of (fun x hx=>sel_all _ x (QM _) (A.mem x hx))
 rw[QX] at o
 exact ⟨zs,by rw[cellsSel],o,B⟩
theorem var_of (d:D) (h0:HasT Tryz.prog 100 d):∃ z:Dq.Var,d=z.d∧z.fits:=by
 obtain ⟨R,H,C⟩:=varFields
 obtain ⟨U,rfl,h⟩:=h0.obj H
 clear h0
 rw[C] at h
 obtain ⟨O,S,rfl,B,h⟩:=h.cons
 obtain ⟨V,W,rfl,J,h⟩:=h.cons
 obtain ⟨P,Q,rfl,K,h⟩:=h.cons
 obtain ⟨I,M,rfl,L,h⟩:=h.cons
 obtain ⟨T,N,rfl,A,h⟩:=h.cons
 obtain rfl:=h.nil
 obtain ⟨t,rfl,E⟩:=B.str Tryz.underlying9
 obtain ⟨F,rfl,o⟩:=J.str Tryz.underlying9
 obtain ⟨b,rfl⟩:=K.bool Tryz.underlying4
 obtain ⟨v,rfl,G⟩:=val_of I L
 obtain ⟨a,rfl,-⟩:=A.int Tryz.underlying3
 exact ⟨⟨t,F,b,v,a⟩,rfl,E,o,G⟩
theorem op_of (d:D) (h0:HasT Tryz.prog 96 d):∃ z:Dq.Op,d=z.d∧z.fits:=by
 obtain ⟨fs,P,L⟩:=opFields
 obtain ⟨ds,rfl,h⟩:=h0.obj P
 clear h0
 rw[L] at h
 obtain ⟨X,r1,rfl,K,h⟩:=h.cons
 obtain ⟨d2,r2,rfl,Q,h⟩:=h.cons
 obtain ⟨Y,Z,rfl,S,h⟩:=h.cons
 obtain ⟨d4,U,rfl,T,h⟩:=h.cons
 obtain ⟨d5,W,rfl,J,h⟩:=h.cons
 obtain ⟨V,r6,rfl,I,h⟩:=h.cons
 obtain rfl:=h.nil
 obtain ⟨k,rfl,O⟩:=K.int Tryz.underlying3
 obtain ⟨t,rfl,M⟩:=Q.str Tryz.underlying9
 obtain ⟨is,rfl,o,C⟩:=S.seq Tryz.underlying92
 obtain ⟨R,rfl,E⟩:=all_of (fun x hx=>var_of x (C.mem x hx))
 rw[QX] at o
 obtain ⟨N,rfl,B,F⟩:=dirl_of T
 obtain ⟨H,rfl,A,G⟩:=sell_of J
 obtain ⟨a,rfl,-⟩:=I.int Tryz.underlying3
 refine ⟨⟨k,t,R,N,H,a⟩,?_,wf_i64 O,M,⟨o,E⟩,⟨B,F⟩,⟨A,G⟩⟩
 show D.obj _=D.obj _
 rw[cellsVar]
theorem fr_of (d:D) (h0:HasT Tryz.prog 102 d):∃ z:Dq.Fr,d=z.d∧z.fits:=by
 obtain ⟨U,L,I⟩:=frFields
 obtain ⟨X,rfl,h⟩:=h0.obj L
 clear h0
 rw[I] at h
 obtain ⟨R,V,rfl,H,h⟩:=h.cons
 obtain ⟨Y,Z,rfl,M,h⟩:=h.cons
 obtain ⟨S,T,rfl,N,h⟩:=h.cons
 obtain ⟨d4,P,rfl,O,h⟩:=h.cons
 obtain ⟨W,Q,rfl,G,h⟩:=h.cons
 obtain rfl:=h.nil
 obtain ⟨t,rfl,J⟩:=H.str Tryz.underlying9
 obtain ⟨on,rfl,A⟩:=M.str Tryz.underlying9
 obtain ⟨K,rfl,B,C⟩:=dirl_of N
 obtain ⟨F,rfl,o,E⟩:=sell_of O
 obtain ⟨a,rfl,-⟩:=G.int Tryz.underlying3
 exact ⟨⟨t,on,K,F,a⟩,rfl,J,A,⟨B,C⟩,⟨o,E⟩⟩
theorem doc_of (d:D) (h0:HasT Tryz.prog 43 d):∃ z:Dq.Doc,d=z.d∧z.fits:=by
 obtain ⟨M,J,I⟩:=docFields
 obtain ⟨O,rfl,h⟩:=h0.obj J
 clear h0
 rw[I] at h
 obtain ⟨L,N,rfl,H,h⟩:=h.cons
 obtain ⟨Q,R,rfl,K,h⟩:=h.cons
 obtain rfl:=h.nil
 obtain ⟨is,rfl,o,B⟩:=H.seq Tryz.underlying40
 obtain ⟨os,rfl,G⟩:=all_of (fun x hx=>op_of x (B.mem x hx))
 obtain ⟨P,rfl,A,F⟩:=K.seq Tryz.underlying41
 obtain ⟨C,rfl,E⟩:=all_of (fun x hx=>fr_of x (F.mem x hx))
 rw[QX] at o A
 refine ⟨⟨os,C⟩,?_,⟨o,G⟩,⟨A,E⟩⟩
 show D.obj _=D.obj _
 rw[cellsOp,cellsFr]
namespace Dq
section
variable {w : World} {P : Nat → Prop} {cs : List Value}
theorem seq_cells {k:Nat} {xs:List D} (h:Reads w P (.seq k xs) cs):∃ a c,cs=[.slice a xs.length c]:=by
 obtain ⟨a,c,e,-⟩:=h.seq_inv
 exact ⟨a,c,e⟩
theorem Dir.opened {x:Dir} (h:Reads w P x.d cs):∃ (a1:Option Addr) (c1:Nat),cs=[.string ⟨x.name.toArray⟩,.slice a1 x.args.length c1,.int .i64 x.at_]∧Reads w P (.seq 7 (x.args.map Vl.ZA.d)) [.slice a1 x.args.length c1]:=by
 unfold Dir.d at h
 obtain ⟨H,G,rfl,F,B⟩:=h.obj_inv.cons_inv
 obtain ⟨K,L,rfl,o,D⟩:=B.cons_inv
 obtain ⟨J,I,rfl,C,E⟩:=D.cons_inv
 obtain rfl:=F.str_inv
 obtain ⟨b2,A,rfl⟩:=seq_cells o
 obtain rfl:=C.int_inv
 obtain rfl:=E.nil_inv
 simp only[QX] at o ⊢
 exact ⟨b2,A,rfl,o⟩
theorem Sel.opened {x:Sel} (h:Reads w P x.d cs):∃ (a1 a2 a3:Option Addr) (c1 c2 c3:Nat),cs=[.int .i64 x.kind,.string ⟨x.nick.toArray⟩,.string ⟨x.name.toArray⟩,.slice a1 x.args.length c1,.slice a2 x.dirs.length c2,.slice a3 x.sels.length c3,.int .i64 x.at_] ∧
  Reads w P (.seq 7 (x.args.map Vl.ZA.d)) [.slice a1 x.args.length c1]∧Reads w P (.seq 3 (x.dirs.map Dir.d)) [.slice a2 x.dirs.length c2]∧Reads w P (.seq 7 (x.sels.map Sel.d)) [.slice a3 x.sels.length c3]:=by
 rw[Sel.d_eq] at h
 obtain ⟨U,Y,rfl,K,H⟩:=h.obj_inv.cons_inv
 obtain ⟨x2,r2,rfl,G,M⟩:=H.cons_inv
 obtain ⟨S,X,rfl,E,N⟩:=M.cons_inv
 obtain ⟨T,R,rfl,o,O⟩:=N.cons_inv
 obtain ⟨x5,V,rfl,B,F⟩:=O.cons_inv
 obtain ⟨W,r6,rfl,A,C⟩:=F.cons_inv
 obtain ⟨Z,r7,rfl,Q,I⟩:=C.cons_inv
 obtain rfl:=K.int_inv
 obtain rfl:=G.str_inv
 obtain rfl:=E.str_inv
 obtain ⟨b4,L,rfl⟩:=seq_cells o
 obtain ⟨b5,J,rfl⟩:=seq_cells B
 obtain ⟨b6,D,rfl⟩:=seq_cells A
 obtain rfl:=Q.int_inv
 obtain rfl:=I.nil_inv
 simp only[QX] at o B A ⊢
 exact ⟨b4,b5,b6,L,J,D,rfl,o,B,A⟩
theorem Var.opened {x:Var} (h:Reads w P x.d cs):∃ (a1 a2:Option Addr) (c1 c2:Nat),cs=[.string ⟨x.name.toArray⟩,.string ⟨x.type.toArray⟩,.bool x.has,.int .i64 x.dflt.kind,.string ⟨x.dflt.text.toArray⟩,.slice a1 x.dflt.items.length c1,.slice a2 x.dflt.fields.length c2,.int .i64 x.dflt.at_,.int .i64 x.at_] ∧
  Reads w P x.dflt.d (zcells x.dflt a1 a2 c1 c2).toList:=by
 unfold Var.d at h
 obtain ⟨M,Q,rfl,E,D⟩:=h.obj_inv.cons_inv
 obtain ⟨R,S,rfl,C,G⟩:=D.cons_inv
 obtain ⟨K,O,rfl,A,H⟩:=G.cons_inv
 obtain ⟨L,J,rfl,o,I⟩:=H.cons_inv
 obtain ⟨T,N,rfl,F,B⟩:=I.cons_inv
 obtain rfl:=E.str_inv
 obtain rfl:=C.str_inv
 obtain rfl:=A.bool_inv
 obtain ⟨a1,a2,c1,c2,rfl,-,-⟩:=Z_open o
 obtain rfl:=F.int_inv
 obtain rfl:=B.nil_inv
 exact ⟨a1,a2,c1,c2,rfl,o⟩
theorem Op.opened {x:Op} (h:Reads w P x.d cs):∃ (a1 a2 a3:Option Addr) (c1 c2 c3:Nat),cs=[.int .i64 x.kind,.string ⟨x.name.toArray⟩,.slice a1 x.vars.length c1,.slice a2 x.dirs.length c2,.slice a3 x.sels.length c3,.int .i64 x.at_] ∧
  Reads w P (.seq 9 (x.vars.map Var.d)) [.slice a1 x.vars.length c1]∧Reads w P (.seq 3 (x.dirs.map Dir.d)) [.slice a2 x.dirs.length c2]∧Reads w P (.seq 7 (x.sels.map Sel.d)) [.slice a3 x.sels.length c3]:=by
 unfold Op.d at h
 obtain ⟨S,V,rfl,J,H⟩:=h.obj_inv.cons_inv
 obtain ⟨W,X,rfl,F,L⟩:=H.cons_inv
 obtain ⟨Q,r3,rfl,o,M⟩:=L.cons_inv
 obtain ⟨R,O,rfl,B,G⟩:=M.cons_inv
 obtain ⟨Y,T,rfl,A,E⟩:=G.cons_inv
 obtain ⟨U,Z,rfl,N,C⟩:=E.cons_inv
 obtain rfl:=J.int_inv
 obtain rfl:=F.str_inv
 obtain ⟨b4,K,rfl⟩:=seq_cells o
 obtain ⟨b5,I,rfl⟩:=seq_cells B
 obtain ⟨b6,D,rfl⟩:=seq_cells A
 obtain rfl:=N.int_inv
 obtain rfl:=C.nil_inv
 simp only[QX] at o B A ⊢
 exact ⟨b4,b5,b6,K,I,D,rfl,o,B,A⟩
theorem Fr.opened {x:Fr} (h:Reads w P x.d cs):∃ (a2 a3:Option Addr) (c2 c3:Nat),cs=[.string ⟨x.name.toArray⟩,.string ⟨x.on.toArray⟩,.slice a2 x.dirs.length c2,.slice a3 x.sels.length c3,.int .i64 x.at_] ∧
  Reads w P (.seq 3 (x.dirs.map Dir.d)) [.slice a2 x.dirs.length c2]∧Reads w P (.seq 7 (x.sels.map Sel.d)) [.slice a3 x.sels.length c3]:=by
 unfold Fr.d at h
 obtain ⟨N,R,rfl,H,F⟩:=h.obj_inv.cons_inv
 obtain ⟨S,T,rfl,E,I⟩:=F.cons_inv
 obtain ⟨M,L,rfl,A,J⟩:=I.cons_inv
 obtain ⟨U,O,rfl,o,D⟩:=J.cons_inv
 obtain ⟨Q,V,rfl,K,B⟩:=D.cons_inv
 obtain rfl:=H.str_inv
 obtain rfl:=E.str_inv
 obtain ⟨b5,G,rfl⟩:=seq_cells A
 obtain ⟨b6,C,rfl⟩:=seq_cells o
 obtain rfl:=K.int_inv
 obtain rfl:=B.nil_inv
 simp only[QX] at A o ⊢
 exact ⟨b5,b6,G,C,rfl,A,o⟩
theorem Doc.opened {x:Doc} (h:Reads w P x.d cs):∃ (a1 a2:Option Addr) (c1 c2:Nat),cs=[.slice a1 x.ops.length c1,.slice a2 x.frags.length c2] ∧
  Reads w P (.seq 6 (x.ops.map Op.d)) [.slice a1 x.ops.length c1]∧Reads w P (.seq 5 (x.frags.map Fr.d)) [.slice a2 x.frags.length c2]:=by
 unfold Doc.d at h
 obtain ⟨G,F,rfl,o,E⟩:=h.obj_inv.cons_inv
 obtain ⟨H,I,rfl,A,C⟩:=E.cons_inv
 obtain ⟨b5,B,rfl⟩:=seq_cells o
 obtain ⟨b6,D,rfl⟩:=seq_cells A
 obtain rfl:=C.nil_inv
 simp only[QX] at o A ⊢
 exact ⟨b5,b6,B,D,rfl,o,A⟩
end
end Dq
set_option maxRecDepth 10000 in
theorem doc_arg {H:Type} {enc:TypeId×Value→H} {W:World} {v:Value} {x:DataW H} {ps:List MemPlace} {sp:Nat→Bool} {r:Reach} {base:Nat} (hv:Value.okWide Tryz.prog W r base 43 v) (h:DataW.Trod enc Tryz.prog W 0 sp true 43 v x ps) :
  ∃ (z:Dq.Doc) (a1 a2:Option Addr) (c1 c2:Nat),v=.agg #[.slice a1 z.ops.length c1,.slice a2 z.frags.length c2]∧z.fits∧Reads W (fun _=>True) z.d [.slice a1 z.ops.length c1,.slice a2 z.frags.length c2]:=by
 obtain ⟨F,A,E⟩:=docFields
 obtain ⟨B,rfl,-⟩:=Go.WideShapes.okWide_struct A hv
 obtain ⟨d,o,C⟩:=open_arg docNice (List.Mem.head _) h
 obtain ⟨z,rfl,D⟩:=doc_of d C
 have o:Reads W (fun _=>True) z.d B.toList:=o
 obtain ⟨a1,a2,c1,c2,e,-,-⟩:=Dq.Doc.opened o
 refine ⟨z,a1,a2,c1,c2,?_,D,?_⟩
 ·congr 1
  have:=congrArg List.toArray e
  simpa using this
 ·rw[e] at o;exact o
namespace Vl
-- How many values there are in one.
mutual
def Z.vals:Z→Nat
 | .mk _ _ i f _=>1+(Z.valss i+ZA.valss f)
def Z.valss:List Z→Nat
 | []=>0
 | x::r=>Z.vals x+Z.valss r
def ZA.valss:List ZA→Nat
 | []=>0
 | .mk _ v _::r=>Z.vals v+ZA.valss r
end
theorem Z.vals_eq (z:Z):z.vals=1+(Z.valss z.items+ZA.valss z.fields):=by cases z;rw[Z.vals];rfl
theorem ZA.valss_cons (x:ZA) (r:List ZA):ZA.valss (x::r)=x.v.vals+ZA.valss r:=by cases x;rw[ZA.valss];rfl
theorem valss_drop:∀ (l:List Z) (j:Nat),Z.valss (l.drop j)≤Z.valss l
 | [],j=>by rw[List.drop_nil];exact QM _
 | x::r,0=>QM _
 | x::r,j+1=>by
  have:=valss_drop r j
  rw[QE,Z.valss];omega
theorem valssA_drop:∀ (l:List ZA) (j:Nat),ZA.valss (l.drop j)≤ZA.valss l
 | [],j=>by rw[List.drop_nil];exact QM _
 | x::r,0=>QM _
 | x::r,j+1=>by
  have:=valssA_drop r j
  rw[QE,ZA.valss_cons];omega
end Vl
structure OneI (g:Nat) (L:Int) (w0 w:World):Prop where
 but:But (fun x=>x=g) w0 w
 lt:g<w0.heap.size
 cell:w.heap[g]?=some (.cells #[.int .i64 L] 3 (0,0))
theorem OneI.trans {g:Nat} {L L':Int} {a b c:World} (h:OneI g L a b) (k:OneI g L' b c):OneI g L' a c:=⟨h.but.trans k.but,h.lt,k.cell⟩
theorem OneI.stands {g:Nat} {L:Int} {w0 w:World} (h:OneI g L w0 w):Stands w0 (fun x=>x≠g) w (fun x=>x≠g):=Stands.but h.but (fun _ h=>h)
def FewPost (n c g:Nat) (L:Int) (w:World) (r:Ending) (w':World):Prop:=∃ (b:Bool) (L':Int),r=.returned (.bool b)∧OneI g L' w w'∧L'≤400∧(b=true→L'=L-n∧0≤L'∧c+200≤3300*n)
def FewC (N:Nat):Prop:=∀ (x:Vl.Z),x.n≤N→x.fits→∀ (a1 a2:Option Addr) (c1 c2:Nat) (w:World) (g:Nat) (L deep:Int),0≤L→L≤400→w.heap[g]?=some (.cells #[.int .i64 L] 3 (0,0)) →
 Reads w (fun k=>k≠g) x.d (zcells x a1 a2 c1 c2).toList →
 Calls Tryz.prog 31 #[.agg (zcells x a1 a2 c1 c2),.pointer (some ⟨g,0,none⟩),.int .i64 deep] w
  (FewPost x.vals x.cost g L w)
theorem fz_of {w:World} {b:Nat} {cs:Array Value} {T:TypeId} (h:w.heap[b]?=some (.cells cs T (0,0))) (k:Nat):w.frozen? ⟨b,k,none⟩=false:=by
 simp[World.frozen?,h]
set_option maxHeartbeats 2000000 in
set_option maxRecDepth 100000 in
theorem few_step (N:Nat) (IH:FewC N):FewC (N+1):=by
 intro x hN hfit a1 a2 c1 c2 w g L deep hL0 hL4 hg hR
 obtain ⟨x1,x2,x3,x4,ex,aJ,aA⟩:=Z_open hR
 have aE:zcells x a1 a2 c1 c2=zcells x x1 x2 x3 x4:=by simpa [zcells] using congrArg List.toArray ex
 obtain ⟨rfl,rfl,rfl,rfl⟩:a1=x1∧c1=x3∧a2=x2∧c2=x4:=by simpa [zcells,and_assoc] using aE
 clear ex aE hR
 unfold zcells
 have hn:=Vl.Z.n_eq x
 rw[Vl.Z.fits_eq] at hfit
 obtain ⟨-,aQ,a0,aT,ah,af⟩:=hfit
 unfold maxLen at aQ a0 aT
 have B:g<w.heap.size:=block_lt hg
 obtain ⟨wb,ak⟩:∃ q,q=w.alloc (.cells #[.int .i64 x.kind,.string ⟨x.text.toArray⟩,.slice a1 x.items.length c1,.slice a2 x.fields.length c2,.int .i64 x.at_] 25):=⟨_,rfl⟩
 have an:wb.heap[g]?=some (.cells #[.int .i64 L] 3 (0,0)):=by rw[ak,Lib.alloc_old _ _ _ B];exact hg
 obtain ⟨ws,Q⟩:∃ q,q=w.setCell ⟨g,0,none⟩ (.int .i64 (L-1)):=⟨_,rfl⟩
 have aq:ws.heap.size=w.heap.size:=by rw[Q,size_set]
 have aC:ws.heap[g]?=some (.cells #[.int .i64 (L-1)] 3 (0,0)):=by rw[Q];exact heap_set1 hg
 obtain ⟨w1,J⟩:∃ q,q=ws.alloc (.cells #[.int .i64 x.kind,.string ⟨x.text.toArray⟩,.slice a1 x.items.length c1,.slice a2 x.fields.length c2,.int .i64 x.at_] 25):=⟨_,rfl⟩
 have ap:w1.heap[g]?=some (.cells #[.int .i64 (L-1)] 3 (0,0)):=by rw[J,Lib.alloc_old _ _ _ (by omega)];exact aC
 have S:w1.heap[w.heap.size]?=some (.cells #[.int .i64 x.kind,.string ⟨x.text.toArray⟩,.slice a1 x.items.length c1,.slice a2 x.fields.length c2,.int .i64 x.at_] 25 (0,0)):=by rw[J,← aq];exact heap_at_new _ _
 have aj:OneI g (L-1) w w1:=by
  refine ⟨?_,B,ap⟩
  rw[J,Q]
  exact But.alloc (But.setCell (X:=fun x=>x=g) (But.refl _ _) (p:=⟨g,0,none⟩) (.inl rfl) _) _
 have f0:=blk_cell an 0 (.int .i64 L) rfl
 have f1:=fz_of an 0
 have f2:=blk_cell ap 0 (.int .i64 (L-1)) rfl
 have f3:=blk_cell S 1 (.string ⟨x.text.toArray⟩) rfl
 have f4:=blk_cell S 2 (.slice a1 x.items.length c1) rfl
 have f5:=blk_cell S 3 (.slice a2 x.fields.length c2) rfl
 have bz:w1.heap.size=w.heap.size+1:=by rw[J,← aq];simp
 have ao:Stands w (fun k=>k≠g) w1 (fun k=>k≠g):=aj.stands
 have bf:=QA (aJ.to ao)
 have bg:=QA (aA.to ao)
 have F:=QA aj
 have aX:=QA S
 have aZ:Hid (∀ z∈x.fields,z.v.n≤N∧z.fits):=QA (fun z hz=>⟨by have:=Vl.ZA.ns_mem hz;have:=Vl.ZA.n_eq z;omega,Vl.ZA.fitss_mem af z hz⟩)
 have a6:Hid (∀ z∈x.items,z.n≤N∧z.fits):=QA (fun z hz=>⟨by have:=Vl.Z.ns_mem hz;omega,Vl.Z.fitss_mem ah z hz⟩)
 have aB:=QA IH
 have bb:=QA (Vl.Z.vals_eq x)
 have bh:=QA (Vl.Z.cost_eq x)
 have ar:=QA J
 rw[J] at f2 f3 f4 f5 F
 rw[Q] at f2 f3 f4 f5 F ar
 rw[ak] at f0 f1
 have ag:g≠w.heap.size:=by omega
 clear aJ aA IH hn hg an aC aq ap S aj ao ak Q J ah af
 have bv:-1≤L-1:=by omega
 go_enter Tryz.func31,Tryz.ntmps31
 by_cases h1:L-1<0
 ·have e1:decide ((L-1:Int)<0)=true:=decide_eq_true (by omega)
  clear h1
  go_wp2_with fail
  go_ret
  exact ⟨false,L-1,rfl,F.out,by omega,fun h=>by cases h⟩
 have e1:decide ((L-1:Int)<0)=false:=decide_eq_false (by omega)
 by_cases h2:20<deep
 ·have e2:decide ((20:Int)<deep)=true:=decide_eq_true (by omega)
  clear h2
  go_wp2_with fail
  go_ret
  exact ⟨false,L-1,rfl,F.out,by omega,fun h=>by cases h⟩
 have e2:decide ((20:Int)<deep)=false:=decide_eq_false (by omega)
 by_cases h3:500<x.text.length
 ·have e3:decide ((500:Int)<(x.text.length:Int))=true:=decide_eq_true (by omega)
  clear h3
  go_wp2_with fail
  go_ret
  exact ⟨false,L-1,rfl,F.out,by omega,fun h=>by cases h⟩
 have e3:decide ((500:Int)<(x.text.length:Int))=false:=decide_eq_false (by omega)
 by_cases h4:300<x.items.length
 ·have e4:decide ((300:Int)<(x.items.length:Int))=true:=decide_eq_true (by omega)
  clear h4
  go_wp2_with fail
  go_ret
  exact ⟨false,L-1,rfl,F.out,by omega,fun h=>by cases h⟩
 have e4:decide ((300:Int)<(x.items.length:Int))=false:=decide_eq_false (by omega)
 by_cases h5:300<x.fields.length
 ·have e5:decide ((300:Int)<(x.fields.length:Int))=true:=decide_eq_true (by omega)
  clear h5
  go_wp2_with fail
  go_ret
  exact ⟨false,L-1,rfl,F.out,by omega,fun h=>by cases h⟩
 have e5:decide ((300:Int)<(x.fields.length:Int))=false:=decide_eq_false (by omega)
 go_wp2_with fail
 rw[← ar.out]
 rw[← ar.out] at F
 clear f0 f1 f2 f3 f4 f5
 go_loopg [43] (x.items.length+1) (fun k i wr=>∃ (j:Nat) (M:Int),k=x.items.length+1-j∧j≤x.items.length∧i=.int .i64 j∧(M=L-1-Vl.Z.valss x.items+Vl.Z.valss (x.items.drop j)∧Vl.Z.costs x.items+3300*Vl.Z.valss (x.items.drop j)≤3300*Vl.Z.valss x.items+Vl.Z.costs (x.items.drop j))∧0≤M∧OneI g M w1 wr)
 case atStart=>exact ⟨0,L-1,rfl,ZV _,rfl,by rw[QL];omega,by omega,But.refl _ _,by omega,F.out.cell⟩
 case round =>
  obtain ⟨j,M,hk,hj,rfl,aK,ae,ho⟩:=hrel
  have HK:=QA hk
  have ab:=QA aK
  have T:=QA ho
  have Y:Hid (wr.heap[w.heap.size]?=_):=QA ((ho.but.block w.heap.size (by omega) (fun e=>ag e.symm)).trans aX.out)
  have W:=QA (F.out.trans ho)
  clear hk aK ho
  by_cases hjl:j<x.items.length
  ·have e6:decide (j<x.items.length)=true:=decide_eq_true hjl
   obtain ⟨p,K⟩:∃ z,x.items[j]?=some z:=⟨x.items[j],ZJ hjl⟩
   have I:x.items.drop j=p::x.items.drop (j+1):=by rw[ZE hjl];rw[ZJ hjl] at K;rw[Option.some.inj K]
   have O:Hid (M=L-1-Vl.Z.valss x.items+(p.vals+Vl.Z.valss (x.items.drop (j+1)):Nat)∧Vl.Z.costs x.items+3300*(p.vals+Vl.Z.valss (x.items.drop (j+1)))≤3300*Vl.Z.valss x.items+(2+p.cost+Vl.Z.costs (x.items.drop (j+1)))):=by have:=ab.out;rw[I,Vl.Z.valss,Vl.Z.costs] at this;exact QA this
   obtain ⟨P,H⟩:=a6.out p (ZC K)
   obtain ⟨E,o,cs,ha,D,B,R,A,hd⟩:=bf.out.el j p.d (by rw[ZI,K];rfl)
   obtain ⟨p1,p2,u1,u2,rfl,-,-⟩:=Z_open hd
   have k0:wr.cell? ⟨E,o+j*5,none⟩=_:=(T.out.but.cell (p:=⟨E,o+j*5,none⟩) B D).trans (A 0 _ rfl)
   have k1:wr.cell? ⟨E,o+j*5+1,none⟩=_:=(T.out.but.cell (p:=⟨E,o+j*5+1,none⟩) B D).trans (A 1 _ rfl)
   have k2:wr.cell? ⟨E,o+j*5+2,none⟩=_:=(T.out.but.cell (p:=⟨E,o+j*5+2,none⟩) B D).trans (A 2 _ rfl)
   have k3:wr.cell? ⟨E,o+j*5+3,none⟩=_:=(T.out.but.cell (p:=⟨E,o+j*5+3,none⟩) B D).trans (A 3 _ rfl)
   have k4:wr.cell? ⟨E,o+j*5+4,none⟩=_:=(T.out.but.cell (p:=⟨E,o+j*5+4,none⟩) B D).trans (A 4 _ rfl)
   have z1:=blk_cell Y.out 2 (.slice a1 x.items.length c1) rfl
   subst ha
   have ay:M≤400:=by have:=O.out.1;have h2:=congrArg Vl.Z.valss I;rw[Vl.Z.valss] at h2;have h3:Vl.Z.valss (x.items.drop j)≤Vl.Z.valss x.items:=Vl.valss_drop _ _;omega
   have C:=QA (fun d=>aB.out p P H p1 p2 u1 u2 wr g M d ae ay T.out.cell (hd.to T.out.stands))
   unfold zcells at C
   clear K I R A hd P H ab
   go_wp2_with fail
   refine (C.out _).mono ?_
   rintro r w2 ⟨b,L',rfl,ho2,hL'4,hb⟩
   have HB:=QA hb
   have aS:=QA (T.out.trans ho2)
   have aF:=QA (W.out.trans ho2)
   clear hb ho2 k0 k1 k2 k3 k4 z1 C
   cases b
   ·go_wp2_with fail
    go_ret
    exact ⟨false,L',rfl,aF.out,hL'4,fun h=>by cases h⟩
   ·go_wp2_with fail
    go_roundg (x.items.length+1-(j+1))
    case measure=>rw[HK.out];omega
    case rel=>exact ⟨j+1,L',rfl,hjl,by go_num,by have:=O.out;have:=HB.out (by trivial);omega,(HB.out (by trivial)).2.1,aS.out⟩
  ·have e6:decide (j<x.items.length)=false:=decide_eq_false hjl
   have O:Hid (M=L-1-Vl.Z.valss x.items∧Vl.Z.costs x.items≤3300*Vl.Z.valss x.items):=by
    have:=ab.out
    rw[ZF (by omega),Vl.Z.valss,Vl.Z.costs] at this
    exact QA (by omega)
   have z2:=blk_cell Y.out 3 (.slice a2 x.fields.length c2) rfl
   have ad:=QA (bg.out.to T.out.stands)
   have aG:=T.out.but.size
   clear ab
   go_wp2_with fail
   clear z2
   obtain ⟨wq,al⟩:∃ q,q=wr:=⟨_,rfl⟩
   rw[← al]
   rw[← al] at Y W ad aG T
   clear al
   go_loopg [60] (x.fields.length+1) (fun k i wr=>∃ (j:Nat) (U:Int),k=x.fields.length+1-j∧j≤x.fields.length∧i=.int .i64 j∧(U=M-Vl.ZA.valss x.fields+Vl.ZA.valss (x.fields.drop j)∧Vl.ZA.costs x.fields+3300*Vl.ZA.valss (x.fields.drop j)≤3300*Vl.ZA.valss x.fields+Vl.ZA.costs (x.fields.drop j))∧0≤U∧OneI g U wq wr)
   case atStart=>exact ⟨0,M,rfl,ZV _,rfl,by rw[QL];omega,ae,But.refl _ _,by omega,W.out.cell⟩
   case round =>
    obtain ⟨j,U,hk,hj,rfl,aI,ac,ho⟩:=hrel
    have a4:=QA hk
    have ai:=QA aI
    have V:=QA ho
    have be:Hid (wr.heap[w.heap.size]?=_):=QA ((ho.but.block w.heap.size (by omega) (fun e=>ag e.symm)).trans Y.out)
    have am:=QA (W.out.trans ho)
    clear hk aI ho
    by_cases hjl:j<x.fields.length
    ·have e7:decide (j<x.fields.length)=true:=decide_eq_true hjl
     obtain ⟨p,K⟩:∃ z,x.fields[j]?=some z:=⟨x.fields[j],ZJ hjl⟩
     have I:x.fields.drop j=p::x.fields.drop (j+1):=by rw[ZE hjl];rw[ZJ hjl] at K;rw[Option.some.inj K]
     have aL:Hid (U=M-Vl.ZA.valss x.fields+(p.v.vals+Vl.ZA.valss (x.fields.drop (j+1)):Nat)∧Vl.ZA.costs x.fields+3300*(p.v.vals+Vl.ZA.valss (x.fields.drop (j+1)))≤3300*Vl.ZA.valss x.fields+(2+(2+p.name.length+p.v.cost)+Vl.ZA.costs (x.fields.drop (j+1)))):=by have:=ai.out;rw[I,Vl.ZA.valss_cons,Vl.ZA.costs,Vl.ZA.cost_eq] at this;exact QA this
     obtain ⟨P,H⟩:=aZ.out p (ZC K)
     rw[Vl.ZA.fits_eq] at H
     obtain ⟨E,o,cs,ha,D,B,R,A,hd⟩:=ad.out.el j p.d (by rw[ZI,K];rfl)
     obtain ⟨p1,p2,u1,u2,rfl,ax⟩:=ZA_open hd
     have k0:wr.cell? ⟨E,o+j*7,none⟩=_:=(V.out.but.cell (p:=⟨E,o+j*7,none⟩) B D).trans (A 0 _ rfl)
     have k1:wr.cell? ⟨E,o+j*7+1,none⟩=_:=(V.out.but.cell (p:=⟨E,o+j*7+1,none⟩) B D).trans (A 1 _ rfl)
     have k2:wr.cell? ⟨E,o+j*7+2,none⟩=_:=(V.out.but.cell (p:=⟨E,o+j*7+2,none⟩) B D).trans (A 2 _ rfl)
     have k3:wr.cell? ⟨E,o+j*7+3,none⟩=_:=(V.out.but.cell (p:=⟨E,o+j*7+3,none⟩) B D).trans (A 3 _ rfl)
     have k4:wr.cell? ⟨E,o+j*7+4,none⟩=_:=(V.out.but.cell (p:=⟨E,o+j*7+4,none⟩) B D).trans (A 4 _ rfl)
     have k5:wr.cell? ⟨E,o+j*7+5,none⟩=_:=(V.out.but.cell (p:=⟨E,o+j*7+5,none⟩) B D).trans (A 5 _ rfl)
     have k6:wr.cell? ⟨E,o+j*7+6,none⟩=_:=(V.out.but.cell (p:=⟨E,o+j*7+6,none⟩) B D).trans (A 6 _ rfl)
     have z1:=blk_cell be.out 3 (.slice a2 x.fields.length c2) rfl
     subst ha
     have G:U≤400:=by have:=aL.out.1;have:=O.out.1;have h2:=congrArg Vl.ZA.valss I;rw[Vl.ZA.valss_cons] at h2;have h3:Vl.ZA.valss (x.fields.drop j)≤Vl.ZA.valss x.fields:=Vl.valssA_drop _ _;omega
     have C:=QA (fun d=>aB.out p.v P H.2 p1 p2 u1 u2 wr g U d ac G V.out.cell (ax.to V.out.stands))
     have aN:=H.1
     unfold maxLen at aN
     unfold zcells at C
     clear K I R A hd ax P H ai
     by_cases hnm:100<p.name.length
     ·have e8:decide ((100:Int)<(p.name.length:Int))=true:=decide_eq_true (by omega)
      go_wp2_with fail
      go_ret
      exact ⟨false,U,rfl,am.out,G,fun h=>by cases h⟩
     have e8:decide ((100:Int)<(p.name.length:Int))=false:=decide_eq_false (by omega)
     go_wp2_with fail
     refine (C.out _).mono ?_
     rintro r w2 ⟨b,L',rfl,ho2,hL'4,hb⟩
     have HB:=QA hb
     have aR:=QA (V.out.trans ho2)
     have aD:=QA (am.out.trans ho2)
     clear hb ho2 k0 k1 k2 k3 k4 k5 k6 z1 C
     cases b
     ·go_wp2_with fail
      go_ret
      exact ⟨false,L',rfl,aD.out,hL'4,fun h=>by cases h⟩
     ·go_wp2_with fail
      go_roundg (x.fields.length+1-(j+1))
      case measure=>rw[a4.out];omega
      case rel=>exact ⟨j+1,L',rfl,hjl,by go_num,by have:=aL.out;have:=HB.out (by trivial);omega,(HB.out (by trivial)).2.1,aR.out⟩
    ·have e7:decide (j<x.fields.length)=false:=decide_eq_false hjl
     have G:U=L-x.vals∧x.cost+200≤3300*x.vals:=by
      have:=ai.out
      rw[ZF (by omega),Vl.ZA.valss,Vl.ZA.costs] at this
      have h1:=O.out
      have h2:=bb.out
      have h3:=bh.out
      omega
     go_wp2_with fail
     go_ret
     exact ⟨true,U,rfl,am.out,by omega,fun _=>⟨G.1,ac,G.2⟩⟩
theorem below_one {w w1 w2:World} {g:Nat} {L:Int} (hb:Below w.heap.size w w1) (ho:OneI g L w1 w2) (hg:w.heap.size≤g):Below w.heap.size w w2 :=
 ⟨ho.but.os.trans hb.os,ho.but.tape.trans hb.tape,ho.but.output.trans hb.output,Nat.le_trans hb.size ho.but.size,fun k hk=>(ho.but.block k (by have:=hb.size;omega) (fun e=>by have e:k=g:=e;omega)).trans (hb.block k hk)⟩
theorem few_all:∀ N:Nat,FewC N
 | 0=>fun x hN=>by have:=Vl.Z.n_pos x;omega
 | N+1=>few_step N (few_all N)
set_option maxRecDepth 100000 in
theorem few_any (x:Vl.Z) (hfit:x.fits) (a1 a2:Option Addr) (c1 c2:Nat) (w:World) (hR:Reads w (fun _=>True) x.d (zcells x a1 a2 c1 c2).toList) :
  Calls Tryz.prog 9 #[.agg (zcells x a1 a2 c1 c2)] w (fun r w'=>∃ b:Bool,r=.returned (.bool b)∧Below w.heap.size w w'∧(b=true→x.vals≤400∧x.cost≤3300*400)):=by
 obtain ⟨J,A⟩:∃ q,q=w.alloc (.cells (zcells x a1 a2 c1 c2) 25):=⟨_,rfl⟩
 have C:Below w.heap.size w J:=by rw[A];exact (Below.refl _ _).alloc (QM _) _
 obtain ⟨G,B⟩:∃ q,q=J.alloc (.cells #[.int .i64 400] 3):=⟨_,rfl⟩
 have o:Below w.heap.size w G:=by rw[B];exact C.alloc C.size _
 have M:J.heap.size=w.heap.size+1:=by rw[A];simp
 have E:G.heap[w.heap.size+1]?=some (.cells #[.int .i64 400] 3 (0,0)):=by rw[B,← M];exact heap_at_new _ _
 have F:Reads G (fun k=>k≠w.heap.size+1) x.d (zcells x a1 a2 c1 c2).toList:=(hR.to (Stands.sub _ (Q:=fun k=>k<w.heap.size) (fun g E _=>E))).to ⟨o.size,fun g E hp=>⟨by show g≠_;omega,o.block g E⟩⟩
 have I:=QA (few_all x.n x (QM _) hfit a1 a2 c1 c2 G (w.heap.size+1) 400 0 (by omega) (by omega) E F)
 have H:=QA o
 have D:=QA (B.trans (by rw[A]))
 rw[D.out] at I
 unfold zcells at I D ⊢
 clear B A C o M E F hR
 go_enter Tryz.func9,Tryz.ntmps9
 go_wp2_with fail
 refine I.out.mono ?_
 rintro r w2 ⟨b,L',rfl,ho,-,hb⟩
 have L:b=true→x.vals≤400∧x.cost≤3300*400:=fun h=>by have:=hb h;omega
 rw[← D.out] at ho
 have K:=QA (below_one H.out ho (by omega))
 clear ho hb
 go_wp2_with fail
 go_ret
 exact ⟨b,rfl,K.out,L⟩
namespace Dq
def smA (x:Vl.ZA):Prop:=x.name.length≤200∧x.v.vals≤400∧x.v.cost≤3300*400
def cntA:List Vl.ZA→Nat:=List.length
def cntD:List Dir→Nat
 | []=>0
 | x::r=>1+x.args.length+cntD r
def smD (x:Dir):Prop:=x.name.length≤200∧∀ a∈x.args,smA a
mutual
def Sel.cnt:Sel→Nat
 | .mk _ _ _ a d s _=>1+a.length+cntD d+Sel.cntl s
def Sel.cntl:List Sel→Nat
 | []=>0
 | x::r=>Sel.cnt x+Sel.cntl r
end
theorem Sel.cnt_eq (x:Sel):x.cnt=1+x.args.length+cntD x.dirs+Sel.cntl x.sels:=by cases x;rw[Sel.cnt];rfl
mutual
def Sel.sm:Sel→Prop
 | .mk _ al n a d s _=>al.length≤200∧n.length≤200∧(∀ x∈a,smA x)∧(∀ x∈d,smD x)∧Sel.sml s
def Sel.sml:List Sel→Prop
 | []=>True
 | x::r=>Sel.sm x∧Sel.sml r
end
theorem Sel.sml_iff:∀ {l:List Sel},Sel.sml l↔∀ x∈l,x.sm
 | []=>by rw[Sel.sml];simp
 | x::r=>by rw[Sel.sml,Sel.sml_iff (l:=r)];simp
theorem Sel.sm_eq (x:Sel):x.sm↔(x.nick.length≤200∧x.name.length≤200∧(∀ y∈x.args,smA y)∧(∀ y∈x.dirs,smD y)∧∀ y∈x.sels,y.sm):=by
 cases x;rw[Sel.sm,Sel.sml_iff];rfl
theorem cntD_drop:∀ (l:List Dir) (j:Nat),cntD (l.drop j)≤cntD l
 | [],j=>by rw[List.drop_nil];exact QM _
 | x::r,0=>QM _
 | x::r,j+1=>by
  have:=cntD_drop r j
  rw[QE,cntD];omega
theorem cntl_drop:∀ (l:List Sel) (j:Nat),Sel.cntl (l.drop j)≤Sel.cntl l
 | [],j=>by rw[List.drop_nil];exact QM _
 | x::r,0=>QM _
 | x::r,j+1=>by
  have:=cntl_drop r j
  rw[QE,Sel.cntl];omega
theorem cntA_drop (l:List Vl.ZA) (j:Nat):cntA (l.drop j)≤cntA l:=by unfold cntA;rw[List.length_drop];omega
theorem cntA_cons (x:Vl.ZA) (r:List Vl.ZA):cntA (x::r)=1+cntA r:=by unfold cntA;rw[List.length_cons];omega
theorem cntD_cons (x:Dir) (r:List Dir):cntD (x::r)=(1+x.args.length)+cntD r:=by rw[cntD]
theorem cntl_cons (x:Sel) (r:List Sel):Sel.cntl (x::r)=(1+x.args.length+cntD x.dirs+Sel.cntl x.sels)+Sel.cntl r:=by rw[Sel.cntl,Sel.cnt_eq]
theorem cntl_mem:∀ {l:List Sel} {x:Sel},x∈l→x.cnt≤Sel.cntl l
 | y::r,x,h=>by
  rw[Sel.cntl]
  rcases List.mem_cons.1 h with rfl|h
  ·omega
  ·have:=cntl_mem h;omega
def Post (n g:Nat) (S:Prop) (L:Int) (w:World) (r:Ending) (w':World):Prop:=∃ (b:Bool) (L':Int),r=.returned (.bool b)∧OneI g L' w w'∧L'≤400∧(b=true→L'=L-n∧0≤L'∧S)
end Dq
theorem OneI.of_below {g:Nat} {L:Int} {w0 w w':World} (h:OneI g L w0 w) (hb:Below w.heap.size w w'):OneI g L w0 w' :=
 ⟨h.but.trans (But.of_below hb),h.lt,(hb.block g (Nat.lt_of_lt_of_le h.lt h.but.size)).trans h.cell⟩
theorem take_mem {α:Type} {l:List α} {j:Nat} {p:α} {q:α→Prop} (hp:l[j]?=some p) (h:∀ x∈l.take j,q x) (hq:q p):∀ x∈l.take (j+1),q x:=by
 rw[List.take_add_one,hp]
 intro x hx
 rcases List.mem_append.1 hx with hx|hx
 ·exact h x hx
 ·rw[List.mem_singleton.1 hx];exact hq
set_option maxHeartbeats 4000000 in
set_option maxRecDepth 100000 in
theorem dqArgs_any (l:List Vl.ZA) (hf:∀ x∈l,x.fits) (a:Option Addr) (c:Nat) (w:World) (g:Nat) (L:Int) (hL0:0≤L) (hL4:L≤400) (hlen:l.length≤9223372036854775807) (hg:w.heap[g]?=some (.cells #[.int .i64 L] 3 (0,0)))
  (hR:Reads w (fun x=>x≠g) (.seq 7 (l.map Vl.ZA.d)) [.slice a l.length c]) :
  Calls Tryz.prog 114 #[.slice a l.length c,.pointer (some ⟨g,0,none⟩)] w (Dq.Post (Dq.cntA l) g (∀ x∈l,Dq.smA x) L w):=by
 have HF:=QA hf
 have HR:=QA hR
 have HG:Hid (OneI g L w w):=QA ⟨But.refl _ _,block_lt hg,hg⟩
 have aV:=block_lt hg
 clear hf hR hg
 go_enter Tryz.func114,Tryz.ntmps114
 go_wp2_with fail
 go_loopg [9] (l.length+1) (fun k i wr=>∃ (j:Nat) (C:Int),k=l.length+1-j∧j≤l.length∧i=.int .i64 j∧C=L-Dq.cntA l+Dq.cntA (l.drop j)∧0≤C∧(∀ x∈l.take j,Dq.smA x)∧OneI g C w wr)
 case atStart=>exact ⟨0,L,rfl,ZV _,rfl,by rw[QL];omega,hL0,by simp,HG.out⟩
 case round =>
  obtain ⟨j,C,hk,hj,rfl,ai,ad,Z,ho⟩:=hrel
  have HK:=QA hk
  have S:=QA ai
  have aj:=QA Z
  have J:=QA ho
  have aI:=ho.but.size
  clear hk ai Z ho
  by_cases hjl:j<l.length
  ·have e6:decide (j<l.length)=true:=decide_eq_true hjl
   obtain ⟨p,T⟩:∃ z,l[j]?=some z:=⟨l[j],ZJ hjl⟩
   have W:l.drop j=p::l.drop (j+1):=by rw[ZE hjl];rw[ZJ hjl] at T;rw[Option.some.inj T]
   have av:Hid (C=L-Dq.cntA l+((1)+Dq.cntA (l.drop (j+1)):Nat)):=by have:=S.out;rw[W,Dq.cntA_cons] at this;exact QA this
   have aC:C≤400:=by have:=S.out;have h3:=Dq.cntA_drop l j;omega
   have Y:=QA (ZC T)
   have aB:=QA (HF.out p Y.out)
   obtain ⟨G,o,cs,ha,F,B,Q,A,hd⟩:=HR.out.el j p.d (by rw[ZI,T];rfl)
   obtain ⟨s1,s2,u1,u2,rfl,au⟩:=ZA_open hd
   have k0:wr.cell? ⟨G,o+j*7,none⟩=_:=(J.out.but.cell (p:=⟨G,o+j*7,none⟩) B F).trans (A 0 _ rfl)
   have k1:wr.cell? ⟨G,o+j*7+1,none⟩=_:=(J.out.but.cell (p:=⟨G,o+j*7+1,none⟩) B F).trans (A 1 _ rfl)
   have k2:wr.cell? ⟨G,o+j*7+2,none⟩=_:=(J.out.but.cell (p:=⟨G,o+j*7+2,none⟩) B F).trans (A 2 _ rfl)
   have k3:wr.cell? ⟨G,o+j*7+3,none⟩=_:=(J.out.but.cell (p:=⟨G,o+j*7+3,none⟩) B F).trans (A 3 _ rfl)
   have k4:wr.cell? ⟨G,o+j*7+4,none⟩=_:=(J.out.but.cell (p:=⟨G,o+j*7+4,none⟩) B F).trans (A 4 _ rfl)
   have k5:wr.cell? ⟨G,o+j*7+5,none⟩=_:=(J.out.but.cell (p:=⟨G,o+j*7+5,none⟩) B F).trans (A 5 _ rfl)
   have k6:wr.cell? ⟨G,o+j*7+6,none⟩=_:=(J.out.but.cell (p:=⟨G,o+j*7+6,none⟩) B F).trans (A 6 _ rfl)
   subst ha
   obtain ⟨wb,E⟩:∃ q,q=wr.alloc (.cells #[.string ⟨p.name.toArray⟩,.int .i64 p.v.kind,.string ⟨p.v.text.toArray⟩,.slice s1 p.v.items.length u1,.slice s2 p.v.fields.length u2,.int .i64 p.v.at_,.int .i64 p.at_] 72):=⟨_,rfl⟩
   have N:wb.heap[g]?=some (.cells #[.int .i64 C] 3 (0,0)):=by rw[E,Lib.alloc_old _ _ _ (by omega)];exact J.out.cell
   have U:wb.heap[wr.heap.size]?=some (.cells #[.string ⟨p.name.toArray⟩,.int .i64 p.v.kind,.string ⟨p.v.text.toArray⟩,.slice s1 p.v.items.length u1,.slice s2 p.v.fields.length u2,.int .i64 p.v.at_,.int .i64 p.at_] 72 (0,0)):=by rw[E];exact heap_at_new _ _
   have ag:wb.heap.size=wr.heap.size+1:=by rw[E];simp
   have ae:g≠wr.heap.size:=by omega
   obtain ⟨w1,H⟩:∃ q,q=wb.setCell ⟨g,0,none⟩ (.int .i64 (C-1)):=⟨_,rfl⟩
   have R:w1.heap[g]?=some (.cells #[.int .i64 (C-1)] 3 (0,0)):=by rw[H];exact heap_set1 N
   have ah:w1.heap[wr.heap.size]?=some (.cells #[.string ⟨p.name.toArray⟩,.int .i64 p.v.kind,.string ⟨p.v.text.toArray⟩,.slice s1 p.v.items.length u1,.slice s2 p.v.fields.length u2,.int .i64 p.v.at_,.int .i64 p.at_] 72 (0,0)):=by rw[H,heap_set_ne (fun e=>ae e.symm)];exact U
   have aS:w1.heap.size=wr.heap.size+1:=by rw[H,size_set];exact ag
   have O:OneI g (C-1) wr w1:=by
    refine ⟨?_,by omega,R⟩
    rw[H,E]
    exact But.setCell (X:=fun x=>x=g) (But.alloc (But.refl _ _) _) (p:=⟨g,0,none⟩) (.inl rfl) _
   have f0:=blk_cell N 0 (.int .i64 C) rfl
   have f1:=fz_of N 0
   rw[E] at f0 f1
   have f9:=blk_cell R 0 (.int .i64 (C-1)) rfl
   have aA:=QA ((J.out.trans O).stands)
   have ab:=QA ah
   have P:=QA (J.out.trans O)
   have I:=QA H
   rw[E] at I
   have HP:=QA T
   clear T W Q A H R ah O N E U ag
   obtain ⟨z0,z1,z2,z3,z4,z5⟩:=blk6 ab.out rfl rfl rfl rfl rfl rfl
   rw[I.out] at f9 z0 z1 z2 z3 z4 z5
   by_cases h20:C-1<0
   ·have ay:decide ((C-1:Int)<0)=true:=decide_eq_true (by omega)
    clear h20
    go_wp2_with fail
    go_ret
    exact ⟨false,C-1,rfl,by rw[← I.out];exact P.out,by omega,fun h=>by cases h⟩
   have ay:decide ((C-1:Int)<0)=false:=decide_eq_false (by omega)
   by_cases h21:200<p.name.length
   ·have ax:decide ((200:Int)<(p.name.length:Int))=true:=decide_eq_true (by omega)
    clear h21
    go_wp2_with fail
    go_ret
    exact ⟨false,C-1,rfl,by rw[← I.out];exact P.out,by omega,fun h=>by cases h⟩
   have ax:decide ((200:Int)<(p.name.length:Int))=false:=decide_eq_false (by omega)
   have M:=aB.out
   rw[Vl.ZA.fits_eq] at M
   have ar:=M.1
   unfold maxLen at ar
   have D:=QA (few_any p.v M.2 s1 s2 u1 u2 w1 ((au.to aA.out).to (Stands.sub _ (fun _ _ _=>trivial))))
   clear M
   rw[I.out] at D
   unfold zcells at D
   go_wp2_with fail
   refine D.out.mono ?_
   rw[← I.out]
   rintro r w2 ⟨b,rfl,hb2,hle⟩
   have ac:=QA hle
   have V:=QA (P.out.of_below hb2)
   have aO:Hid (w2.heap[wr.heap.size]?=_):=QA ((hb2.block wr.heap.size (by omega)).trans ab.out)
   have a1:=hb2.size
   clear hle hb2 z0 z1 z2 z3 z4 z5 D f0 f1 f9 k0 k1 k2 k3 k4 k5 k6
   cases b
   ·go_wp2_with fail
    go_ret
    exact ⟨false,C-1,rfl,V.out,by omega,fun h=>by cases h⟩
   have ak:=QA (ac.out (by trivial))
   have aa:Dq.smA p:=⟨by omega,ak.out.1,ak.out.2⟩
   have K:C-1=L-Dq.cntA l+(Dq.cntA (l.drop (j+1)):Nat):=by
    have:=av.out
    omega
   have aw:=QA K
   clear K
   go_wp2_with fail
   go_roundg (l.length+1-(j+1))
   case measure=>rw[HK.out];omega
   case rel=>exact ⟨j+1,C-1,rfl,hjl,by go_num,aw.out,by omega,take_mem HP.out aj.out aa,V.out⟩
  ·have e6:decide (j<l.length)=false:=decide_eq_false hjl
   have K:C=L-Dq.cntA l:=by
    have:=S.out
    rw[ZF (by omega)] at this
    have h0:Dq.cntA ([]:List Vl.ZA)=0:=by first|rfl|rw[Dq.cntA]
    omega
   have al:∀ x∈l,Dq.smA x:=by
    have:=aj.out
    rwa [List.take_of_length_le (by omega)] at this
   go_wp2_with fail
   go_ret
   exact ⟨true,C,rfl,J.out,by omega,fun _=>⟨K,ad,al⟩⟩
set_option maxHeartbeats 4000000 in
set_option maxRecDepth 100000 in
theorem dqDirs_any (l:List Dq.Dir) (hf:∀ x∈l,x.fits) (a:Option Addr) (c:Nat) (w:World) (g:Nat) (L:Int) (hL0:0≤L) (hL4:L≤400) (hlen:l.length≤9223372036854775807) (hg:w.heap[g]?=some (.cells #[.int .i64 L] 3 (0,0)))
  (hR:Reads w (fun x=>x≠g) (.seq 3 (l.map Dq.Dir.d)) [.slice a l.length c]) :
  Calls Tryz.prog 48 #[.slice a l.length c,.pointer (some ⟨g,0,none⟩)] w (Dq.Post (Dq.cntD l) g (∀ x∈l,Dq.smD x) L w):=by
 have HF:=QA hf
 have HR:=QA hR
 have HG:Hid (OneI g L w w):=QA ⟨But.refl _ _,block_lt hg,hg⟩
 have aS:=block_lt hg
 clear hf hR hg
 go_enter Tryz.func48,Tryz.ntmps48
 go_wp2_with fail
 go_loopg [9] (l.length+1) (fun k i wr=>∃ (j:Nat) (A:Int),k=l.length+1-j∧j≤l.length∧i=.int .i64 j∧A=L-Dq.cntD l+Dq.cntD (l.drop j)∧0≤A∧(∀ x∈l.take j,Dq.smD x)∧OneI g A w wr)
 case atStart=>exact ⟨0,L,rfl,ZV _,rfl,by rw[QL];omega,hL0,by simp,HG.out⟩
 case round =>
  obtain ⟨j,A,hk,hj,rfl,ak,ag,ab,ho⟩:=hrel
  have HK:=QA hk
  have T:=QA ak
  have al:=QA ab
  have Q:=QA ho
  have aG:=ho.but.size
  clear hk ak ab ho
  by_cases hjl:j<l.length
  ·have e6:decide (j<l.length)=true:=decide_eq_true hjl
   obtain ⟨p,U⟩:∃ z,l[j]?=some z:=⟨l[j],ZJ hjl⟩
   have Z:l.drop j=p::l.drop (j+1):=by rw[ZE hjl];rw[ZJ hjl] at U;rw[Option.some.inj U]
   have aq:Hid (A=L-Dq.cntD l+((1+p.args.length)+Dq.cntD (l.drop (j+1)):Nat)):=by have:=T.out;rw[Z,Dq.cntD_cons] at this;exact QA this
   have aB:A≤400:=by have:=T.out;have h3:=Dq.cntD_drop l j;omega
   have aa:=QA (ZC U)
   have S:=QA (HF.out p aa.out)
   obtain ⟨V,o,cs,ha,R,G,O,B,hd⟩:=HR.out.el j p.d (by rw[ZI,U];rfl)
   obtain ⟨s1,u1,rfl,ar⟩:=Dq.Dir.opened hd
   have k0:wr.cell? ⟨V,o+j*3,none⟩=_:=(Q.out.but.cell (p:=⟨V,o+j*3,none⟩) G R).trans (B 0 _ rfl)
   have k1:wr.cell? ⟨V,o+j*3+1,none⟩=_:=(Q.out.but.cell (p:=⟨V,o+j*3+1,none⟩) G R).trans (B 1 _ rfl)
   have k2:wr.cell? ⟨V,o+j*3+2,none⟩=_:=(Q.out.but.cell (p:=⟨V,o+j*3+2,none⟩) G R).trans (B 2 _ rfl)
   subst ha
   obtain ⟨wb,D⟩:∃ q,q=wr.alloc (.cells #[.string ⟨p.name.toArray⟩,.slice s1 p.args.length u1,.int .i64 p.at_] 171):=⟨_,rfl⟩
   have J:wb.heap[g]?=some (.cells #[.int .i64 A] 3 (0,0)):=by rw[D,Lib.alloc_old _ _ _ (by omega)];exact Q.out.cell
   have W:wb.heap[wr.heap.size]?=some (.cells #[.string ⟨p.name.toArray⟩,.slice s1 p.args.length u1,.int .i64 p.at_] 171 (0,0)):=by rw[D];exact heap_at_new _ _
   have ai:wb.heap.size=wr.heap.size+1:=by rw[D];simp
   have K:g≠wr.heap.size:=by omega
   obtain ⟨w1,E⟩:∃ q,q=wb.setCell ⟨g,0,none⟩ (.int .i64 (A-1)):=⟨_,rfl⟩
   have P:w1.heap[g]?=some (.cells #[.int .i64 (A-1)] 3 (0,0)):=by rw[E];exact heap_set1 J
   have aj:w1.heap[wr.heap.size]?=some (.cells #[.string ⟨p.name.toArray⟩,.slice s1 p.args.length u1,.int .i64 p.at_] 171 (0,0)):=by rw[E,heap_set_ne (fun e=>K e.symm)];exact W
   have aQ:w1.heap.size=wr.heap.size+1:=by rw[E,size_set];exact ai
   have N:OneI g (A-1) wr w1:=by
    refine ⟨?_,by omega,P⟩
    rw[E,D]
    exact But.setCell (X:=fun x=>x=g) (But.alloc (But.refl _ _) _) (p:=⟨g,0,none⟩) (.inl rfl) _
   have f0:=blk_cell J 0 (.int .i64 A) rfl
   have f1:=fz_of J 0
   rw[D] at f0 f1
   have f9:=blk_cell P 0 (.int .i64 (A-1)) rfl
   have aA:=QA ((Q.out.trans N).stands)
   have ad:=QA aj
   have I:=QA (Q.out.trans N)
   have F:=QA E
   rw[D] at F
   have HP:=QA U
   clear U Z O B E P aj N J D W ai
   obtain ⟨z0,z1⟩:=blk2 ad.out rfl rfl
   rw[F.out] at f9 z0 z1
   by_cases h20:A-1<0
   ·have aw:decide ((A-1:Int)<0)=true:=decide_eq_true (by omega)
    clear h20
    go_wp2_with fail
    go_ret
    exact ⟨false,A-1,rfl,by rw[← F.out];exact I.out,by omega,fun h=>by cases h⟩
   have aw:decide ((A-1:Int)<0)=false:=decide_eq_false (by omega)
   by_cases h21:200<p.name.length
   ·have av:decide ((200:Int)<(p.name.length:Int))=true:=decide_eq_true (by omega)
    clear h21
    go_wp2_with fail
    go_ret
    exact ⟨false,A-1,rfl,by rw[← F.out];exact I.out,by omega,fun h=>by cases h⟩
   have av:decide ((200:Int)<(p.name.length:Int))=false:=decide_eq_false (by omega)
   have aJ:p.name.length≤9223372036854775807:=S.out.1
   have C:=QA (dqArgs_any p.args S.out.2.2 s1 u1 w1 g (A-1) (by omega) (by omega) (by have:=S.out.2.1;unfold maxLen at this;omega) I.out.cell (ar.to aA.out))
   rw[F.out] at C
   go_wp2_with fail
   refine C.out.mono ?_
   rw[← F.out]
   rintro r w2 ⟨b,L2,rfl,ho2,hl2,hle⟩
   have af:=QA hle
   have Y:=QA (I.out.trans ho2)
   have aM:Hid (w2.heap[wr.heap.size]?=_):=QA ((ho2.but.block wr.heap.size (by omega) (fun e=>K e.symm)).trans ad.out)
   have aX:=ho2.but.size
   clear hle ho2 z0 z1 C f0 f1 f9 k0 k1 k2
   cases b
   ·go_wp2_with fail
    go_ret
    exact ⟨false,L2,rfl,Y.out,by omega,fun h=>by cases h⟩
   obtain ⟨ae,aC,M⟩:=af.out (by trivial)
   have ay:=QA ae
   have az:=QA M
   have aD:L2≤400:=hl2
   clear ae M
   have ac:Dq.smD p:=⟨by omega,az.out⟩
   have H:L2=L-Dq.cntD l+(Dq.cntD (l.drop (j+1)):Nat):=by
    have:=aq.out
    have hA:Dq.cntA p.args=p.args.length:=rfl;have q2:=ay.out;omega
   have au:=QA H
   clear H
   go_wp2_with fail
   go_roundg (l.length+1-(j+1))
   case measure=>rw[HK.out];omega
   case rel=>exact ⟨j+1,L2,rfl,hjl,by go_num,au.out,by omega,take_mem HP.out al.out ac,Y.out⟩
  ·have e6:decide (j<l.length)=false:=decide_eq_false hjl
   have H:A=L-Dq.cntD l:=by
    have:=T.out
    rw[ZF (by omega)] at this
    have h0:Dq.cntD ([]:List Dq.Dir)=0:=by first|rfl|rw[Dq.cntD]
    omega
   have am:∀ x∈l,Dq.smD x:=by
    have:=al.out
    rwa [List.take_of_length_le (by omega)] at this
   go_wp2_with fail
   go_ret
   exact ⟨true,A,rfl,Q.out,by omega,fun _=>⟨H,ag,am⟩⟩
def DqSelsC (N:Nat):Prop:=∀ (l:List Dq.Sel),Dq.Sel.cntl l<N→(∀ x∈l,x.fits)→∀ (a:Option Addr) (c:Nat) (w:World) (g:Nat) (L deep:Int),0≤L→L≤400→l.length≤9223372036854775807→w.heap[g]?=some (.cells #[.int .i64 L] 3 (0,0)) →
 Reads w (fun x=>x≠g) (.seq 7 (l.map Dq.Sel.d)) [.slice a l.length c] →
 Calls Tryz.prog 49 #[.slice a l.length c,.pointer (some ⟨g,0,none⟩),.int .i64 deep] w (Dq.Post (Dq.Sel.cntl l) g (∀ x∈l,x.sm) L w)
set_option maxHeartbeats 4000000 in
set_option maxRecDepth 100000 in
theorem dqSels_step (l:List Dq.Sel) (N:Nat) (IH:DqSelsC N) (hN:Dq.Sel.cntl l<N+1) (hf:∀ x∈l,x.fits) (a:Option Addr) (c:Nat) (w:World) (g:Nat) (L deep:Int) (hL0:0≤L) (hL4:L≤400) (hlen:l.length≤9223372036854775807) (hg:w.heap[g]?=some (.cells #[.int .i64 L] 3 (0,0)))
  (hR:Reads w (fun x=>x≠g) (.seq 7 (l.map Dq.Sel.d)) [.slice a l.length c]) :
  Calls Tryz.prog 49 #[.slice a l.length c,.pointer (some ⟨g,0,none⟩),.int .i64 deep] w (Dq.Post (Dq.Sel.cntl l) g (∀ x∈l,Dq.Sel.sm x) L w):=by
 have HF:=QA hf
 have HR:=QA hR
 have HG:Hid (OneI g L w w):=QA ⟨But.refl _ _,block_lt hg,hg⟩
 have bs:=block_lt hg
 have aY:=QA IH
 have HN:=QA hN
 clear hf hR hg IH hN
 go_enter Tryz.func49,Tryz.ntmps49
 go_wp2_with fail
 go_loopg [11] (l.length+1) (fun k i wr=>∃ (j:Nat) (E:Int),k=l.length+1-j∧j≤l.length∧i=.int .i64 j∧E=L-Dq.Sel.cntl l+Dq.Sel.cntl (l.drop j)∧0≤E∧(∀ x∈l.take j,Dq.Sel.sm x)∧OneI g E w wr)
 case atStart=>exact ⟨0,L,rfl,ZV _,rfl,by rw[QL];omega,hL0,by simp,HG.out⟩
 case round =>
  obtain ⟨j,E,hk,hj,rfl,aL,aG,ay,ho⟩:=hrel
  have HK:=QA hk
  have al:=QA aL
  have aM:=QA ay
  have R:=QA ho
  have bg:=ho.but.size
  clear hk aL ay ho
  by_cases hjl:j<l.length
  ·have e6:decide (j<l.length)=true:=decide_eq_true hjl
   obtain ⟨p,hp⟩:∃ z,l[j]?=some z:=⟨l[j],ZJ hjl⟩
   have aw:l.drop j=p::l.drop (j+1):=by rw[ZE hjl];rw[ZJ hjl] at hp;rw[Option.some.inj hp]
   have aV:Hid (E=L-Dq.Sel.cntl l+((1+p.args.length+Dq.cntD p.dirs+Dq.Sel.cntl p.sels)+Dq.Sel.cntl (l.drop (j+1)):Nat)):=by have:=al.out;rw[aw,Dq.cntl_cons] at this;exact QA this
   have bc:E≤400:=by have:=al.out;have h3:=Dq.cntl_drop l j;omega
   have W:=QA (ZC hp)
   have ak:=QA (HF.out p W.out)
   obtain ⟨J,o,cs,ha,H,D,af,B,hd⟩:=HR.out.el j p.d (by rw[ZI,hp];rfl)
   obtain ⟨s1,s2,s3,u1,u2,u3,rfl,aZ,a9,a0⟩:=Dq.Sel.opened hd
   have k0:wr.cell? ⟨J,o+j*7,none⟩=_:=(R.out.but.cell (p:=⟨J,o+j*7,none⟩) D H).trans (B 0 _ rfl)
   have k1:wr.cell? ⟨J,o+j*7+1,none⟩=_:=(R.out.but.cell (p:=⟨J,o+j*7+1,none⟩) D H).trans (B 1 _ rfl)
   have k2:wr.cell? ⟨J,o+j*7+2,none⟩=_:=(R.out.but.cell (p:=⟨J,o+j*7+2,none⟩) D H).trans (B 2 _ rfl)
   have k3:wr.cell? ⟨J,o+j*7+3,none⟩=_:=(R.out.but.cell (p:=⟨J,o+j*7+3,none⟩) D H).trans (B 3 _ rfl)
   have k4:wr.cell? ⟨J,o+j*7+4,none⟩=_:=(R.out.but.cell (p:=⟨J,o+j*7+4,none⟩) D H).trans (B 4 _ rfl)
   have k5:wr.cell? ⟨J,o+j*7+5,none⟩=_:=(R.out.but.cell (p:=⟨J,o+j*7+5,none⟩) D H).trans (B 5 _ rfl)
   have k6:wr.cell? ⟨J,o+j*7+6,none⟩=_:=(R.out.but.cell (p:=⟨J,o+j*7+6,none⟩) D H).trans (B 6 _ rfl)
   subst ha
   obtain ⟨wb,G⟩:∃ q,q=wr.alloc (.cells #[.int .i64 p.kind,.string ⟨p.nick.toArray⟩,.string ⟨p.name.toArray⟩,.slice s1 p.args.length u1,.slice s2 p.dirs.length u2,.slice s3 p.sels.length u3,.int .i64 p.at_] 174):=⟨_,rfl⟩
   have U:wb.heap[g]?=some (.cells #[.int .i64 E] 3 (0,0)):=by rw[G,Lib.alloc_old _ _ _ (by omega)];exact R.out.cell
   have av:wb.heap[wr.heap.size]?=some (.cells #[.int .i64 p.kind,.string ⟨p.nick.toArray⟩,.string ⟨p.name.toArray⟩,.slice s1 p.args.length u1,.slice s2 p.dirs.length u2,.slice s3 p.sels.length u3,.int .i64 p.at_] 174 (0,0)):=by rw[G];exact heap_at_new _ _
   have aI:wb.heap.size=wr.heap.size+1:=by rw[G];simp
   have I:g≠wr.heap.size:=by omega
   obtain ⟨w1,P⟩:∃ q,q=wb.setCell ⟨g,0,none⟩ (.int .i64 (E-1)):=⟨_,rfl⟩
   have ag:w1.heap[g]?=some (.cells #[.int .i64 (E-1)] 3 (0,0)):=by rw[P];exact heap_set1 U
   have aK:w1.heap[wr.heap.size]?=some (.cells #[.int .i64 p.kind,.string ⟨p.nick.toArray⟩,.string ⟨p.name.toArray⟩,.slice s1 p.args.length u1,.slice s2 p.dirs.length u2,.slice s3 p.sels.length u3,.int .i64 p.at_] 174 (0,0)):=by rw[P,heap_set_ne (fun e=>I e.symm)];exact av
   have bn:w1.heap.size=wr.heap.size+1:=by rw[P,size_set];exact aI
   have ac:OneI g (E-1) wr w1:=by
    refine ⟨?_,by omega,ag⟩
    rw[P,G]
    exact But.setCell (X:=fun x=>x=g) (But.alloc (But.refl _ _) _) (p:=⟨g,0,none⟩) (.inl rfl) _
   have f0:=blk_cell U 0 (.int .i64 E) rfl
   have f1:=fz_of U 0
   rw[G] at f0 f1
   have f9:=blk_cell ag 0 (.int .i64 (E-1)) rfl
   have ba:=QA ((R.out.trans ac).stands)
   have O:=QA aK
   have K:=QA (R.out.trans ac)
   have F:=QA P
   rw[G] at F
   have HP:=QA hp
   clear hp aw af B P ag aK ac U G av aI
   have z1:=blk_cell O.out 1 (.string ⟨p.nick.toArray⟩) rfl
   have z2:=blk_cell O.out 2 (.string ⟨p.name.toArray⟩) rfl
   have z3:=blk_cell O.out 3 (.slice s1 p.args.length u1) rfl
   have z4:=blk_cell O.out 4 (.slice s2 p.dirs.length u2) rfl
   have z5:=blk_cell O.out 5 (.slice s3 p.sels.length u3) rfl
   rw[F.out] at f9 z1 z2 z3 z4 z5
   by_cases h20:E-1<0
   ·have a4:decide ((E-1:Int)<0)=true:=decide_eq_true (by omega)
    clear h20
    go_wp2_with fail
    go_ret
    exact ⟨false,E-1,rfl,by rw[← F.out];exact K.out,by omega,fun h=>by cases h⟩
   have a4:decide ((E-1:Int)<0)=false:=decide_eq_false (by omega)
   by_cases h21:20<deep
   ·have a2:decide ((20:Int)<deep)=true:=decide_eq_true (by omega)
    clear h21
    go_wp2_with fail
    go_ret
    exact ⟨false,E-1,rfl,by rw[← F.out];exact K.out,by omega,fun h=>by cases h⟩
   have a2:decide ((20:Int)<deep)=false:=decide_eq_false (by omega)
   by_cases h22:200<p.name.length
   ·have aT:decide ((200:Int)<(p.name.length:Int))=true:=decide_eq_true (by omega)
    clear h22
    go_wp2_with fail
    go_ret
    exact ⟨false,E-1,rfl,by rw[← F.out];exact K.out,by omega,fun h=>by cases h⟩
   have aT:decide ((200:Int)<(p.name.length:Int))=false:=decide_eq_false (by omega)
   by_cases h23:200<p.nick.length
   ·have aR:decide ((200:Int)<(p.nick.length:Int))=true:=decide_eq_true (by omega)
    clear h23
    go_wp2_with fail
    go_ret
    exact ⟨false,E-1,rfl,by rw[← F.out];exact K.out,by omega,fun h=>by cases h⟩
   have aR:decide ((200:Int)<(p.nick.length:Int))=false:=decide_eq_false (by omega)
   have C:=(Dq.Sel.fits_eq p).1 ak.out
   have aU:=C.2.1
   have aW:=C.2.2.1
   unfold maxLen at aU aW
   have A:=QA (dqArgs_any p.args C.2.2.2.1.2 s1 u1 w1 g (E-1) (by omega) (by omega) (by have:=C.2.2.2.1.1;unfold maxLen at this;omega) K.out.cell (aZ.to ba.out))
   clear C
   rw[F.out] at A
   go_wp2_with fail
   refine A.out.mono ?_
   rw[← F.out]
   rintro r w2 ⟨b,L2,rfl,ho2,hl2,hle⟩
   have aF:=QA hle
   have T:=QA (K.out.trans ho2)
   have M:Hid (w2.heap[wr.heap.size]?=_):=QA ((ho2.but.block wr.heap.size (by omega) (fun e=>I e.symm)).trans O.out)
   have bC:=ho2.but.size
   clear hle ho2 z1 z2 z3 z4 z5 A f0 f1 f9 k0 k1 k2 k3 k4 k5 k6
   cases b
   ·go_wp2_with fail
    go_ret
    exact ⟨false,L2,rfl,T.out,by omega,fun h=>by cases h⟩
   obtain ⟨aC,ax,aa⟩:=aF.out (by trivial)
   have a6:=QA aC
   have a8:=QA aa
   have az:L2≤400:=hl2
   clear aC aa
   have z1:=blk_cell M.out 1 (.string ⟨p.nick.toArray⟩) rfl
   have z2:=blk_cell M.out 2 (.string ⟨p.name.toArray⟩) rfl
   have z3:=blk_cell M.out 3 (.slice s1 p.args.length u1) rfl
   have z4:=blk_cell M.out 4 (.slice s2 p.dirs.length u2) rfl
   have z5:=blk_cell M.out 5 (.slice s3 p.sels.length u3) rfl
   have C:=(Dq.Sel.fits_eq p).1 ak.out
   have A:=QA (dqDirs_any p.dirs C.2.2.2.2.1.2 s2 u2 w2 g L2 ax az (by have:=C.2.2.2.2.1.1;unfold maxLen at this;omega) T.out.cell (a9.to T.out.stands))
   clear C
   go_wp2_with fail
   refine A.out.mono ?_
   rintro r w3 ⟨b,L3,rfl,ho3,hl3,hle⟩
   have aA:=QA hle
   have V:=QA (T.out.trans ho3)
   have Q:Hid (w3.heap[wr.heap.size]?=_):=QA ((ho3.but.block wr.heap.size (by omega) (fun e=>I e.symm)).trans M.out)
   have bo:=ho3.but.size
   clear hle ho3 z1 z2 z3 z4 z5 A
   cases b
   ·go_wp2_with fail
    go_ret
    exact ⟨false,L3,rfl,V.out,by omega,fun h=>by cases h⟩
   obtain ⟨aN,aD,Z⟩:=aA.out (by trivial)
   have bb:=QA aN
   have a3:=QA Z
   have aE:L3≤400:=hl3
   clear aN Z
   have z1:=blk_cell Q.out 1 (.string ⟨p.nick.toArray⟩) rfl
   have z2:=blk_cell Q.out 2 (.string ⟨p.name.toArray⟩) rfl
   have z3:=blk_cell Q.out 3 (.slice s1 p.args.length u1) rfl
   have z4:=blk_cell Q.out 4 (.slice s2 p.dirs.length u2) rfl
   have z5:=blk_cell Q.out 5 (.slice s3 p.sels.length u3) rfl
   have C:=(Dq.Sel.fits_eq p).1 ak.out
   have aX:Dq.Sel.cntl p.sels<N:=by
    have h1:=Dq.cntl_mem W.out
    have h2:=Dq.Sel.cnt_eq p
    have h3:=HN.out
    omega
   have A:=QA (fun dp=>aY.out p.sels aX C.2.2.2.2.2.2 s3 u3 w3 g L3 dp aD aE (by have:=C.2.2.2.2.2.1;unfold maxLen at this;omega) V.out.cell (a0.to V.out.stands))
   clear C
   go_wp2_with fail
   refine (A.out _).mono ?_
   rintro r w4 ⟨b,L4,rfl,ho4,hl4,hle⟩
   have aJ:=QA hle
   have au:=QA (V.out.trans ho4)
   have bt:Hid (w4.heap[wr.heap.size]?=_):=QA ((ho4.but.block wr.heap.size (by omega) (fun e=>I e.symm)).trans Q.out)
   have br:=ho4.but.size
   clear hle ho4 z1 z2 z3 z4 z5 A
   cases b
   ·go_wp2_with fail
    go_ret
    exact ⟨false,L4,rfl,au.out,by omega,fun h=>by cases h⟩
   obtain ⟨aO,bf,Y⟩:=aJ.out (by trivial)
   have a7:=QA aO
   have aS:=QA Y
   have be:L4≤400:=hl4
   clear aO Y
   have aB:Dq.Sel.sm p:=(Dq.Sel.sm_eq p).2 ⟨by omega,by omega,a8.out,a3.out,aS.out⟩
   have S:L4=L-Dq.Sel.cntl l+(Dq.Sel.cntl (l.drop (j+1)):Nat):=by
    have:=aV.out
    have hA:Dq.cntA p.args=p.args.length:=rfl;have q2:=a6.out;have q3:=bb.out;have q4:=a7.out;omega
   have a1:=QA S
   clear S
   go_wp2_with fail
   go_roundg (l.length+1-(j+1))
   case measure=>rw[HK.out];omega
   case rel=>exact ⟨j+1,L4,rfl,hjl,by go_num,a1.out,by omega,take_mem HP.out aM.out aB,au.out⟩
  ·have e6:decide (j<l.length)=false:=decide_eq_false hjl
   have S:E=L-Dq.Sel.cntl l:=by
    have:=al.out
    rw[ZF (by omega)] at this
    have h0:Dq.Sel.cntl ([]:List Dq.Sel)=0:=by first|rfl|rw[Dq.Sel.cntl]
    omega
   have aP:∀ x∈l,Dq.Sel.sm x:=by
    have:=aM.out
    rwa [List.take_of_length_le (by omega)] at this
   go_wp2_with fail
   go_ret
   exact ⟨true,E,rfl,R.out,by omega,fun _=>⟨S,aG,aP⟩⟩
theorem dqSels_all:∀ N:Nat,DqSelsC N
 | 0=>fun l h=>by omega
 | N+1=>fun l hN hf a c w g L deep h0 h4 hlen hg hR=>dqSels_step l N (dqSels_all N) hN hf a c w g L deep h0 h4 hlen hg hR
end Go.Proofs.YtefjgpkpplkkgaaGreatDoor
