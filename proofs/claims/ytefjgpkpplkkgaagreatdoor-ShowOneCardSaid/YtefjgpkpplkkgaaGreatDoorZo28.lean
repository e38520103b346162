/-
  Documents have one text just if they are the same (plain). The writer of documents: types, values, defaults, walked. The writer of documents: defaults, arguments, directives, walked. The writer of documents: directives, selections, walked.
-/
import Derived.Test.YtefjgpkpplkkgaaGreatDoorZo27
import Derived.Test.YtefjgpkpplkkgaaGreatDoorZo23
import Derived.Test.YtefjgpkpplkkgaaGreatDoorZo15
import Derived.Test.YtefjgpkpplkkgaaGreatDoorZo25
import Derived.Test.YtefjgpkpplkkgaaGreatDoorZo5
import Derived.Test.YtefjgpkpplkkgaaGreatDoorZo8
open Bool renaming and_eq_true → ZF
open Go.Lib renaming hid → QA
open List renaming drop_succ_cons → QE, take_succ_cons → QF, drop_zero → QL, take_zero → QN, length_cons → QO, length_nil → QS, mem_of_getElem? → ZE, take_length → ZI, getElem?_map → ZK, getElem?_eq_getElem → ZL
open Nat renaming le_refl → QM, le_trans → QR, reduceAdd → ZB, add_zero → ZC, zero_le → ZX
namespace Go.Proofs.YtefjgpkpplkkgaaGreatDoor
set_option maxRecDepth 100000
set_option maxHeartbeats 4000000
set_option linter.unusedSimpArgs false
set_option linter.unusedVariables false
namespace Dq
theorem NK {x y:Doc} (hx:x.good=true) (hy:y.good=true) (e:x.txt=y.txt):x.same y=true:=by
 rw[Hb hx,Hb hy]at e;have o:=Lx.words_one _ _ (GD hx) (GD hy) (List.append_cancel_right e);unfold Doc.wds at o;rw[Vl.kts_app,Vl.kts_app]at o;obtain⟨-,B,E⟩:=Dg hx;obtain⟨-,C,A⟩:=Dg hy;obtain⟨F,D⟩:=OP _ _ _ _ _ _ _ _ B C E A o;unfold Doc.same;rw[F,D];rfl
theorem DX {α:Type} {f:α→α→Bool} {t:α→List UInt8} (h:∀x y,f x y=true→t x=t y) (sep:List UInt8):∀(b:Bool) (l m:List α),sameL f l m=true→Vl.joinT t sep b l=Vl.joinT t sep b m
 | _,[],[],_=>rfl
 | b,x::r,y::q,hs=>by
  rw[sameL,ZF]at hs;rw[Vl.joinT,Vl.joinT,h x y hs.1,DX h sep false r q hs.2]
 | _,[],_::_,hs=>by cases hs
 | _,_::_,[],hs=>by cases hs
theorem CY {α:Type} {f:α→α→Bool} {t:α→List UInt8} (h:∀x y,f x y=true→t x=t y):∀(l m:List α),sameL f l m=true→l.flatMap t=m.flatMap t
 | [],[],_=>rfl
 | x::r,y::q,hs=>by
  rw[sameL,ZF]at hs;rw[List.flatMap_cons,List.flatMap_cons,h x y hs.1,CY h r q hs.2]
 | [],_::_,hs=>by cases hs
 | _::_,[],hs=>by cases hs
theorem Hs {l m:List Vl.ZA} (h:sameL Vl.ZA.same l m=true):argsT l=argsT m:=by
 unfold argsT;rw[BP h,DX (t:=Vl.ZA.str) (λx y hs=>(Vl.sameA_str x y hs).1) _ _ _ _ h]
theorem FM {l m:List Dir} (h:sameL Dir.same l m=true):dirsT l=dirsT m:=CY (λx y hs=>by
 unfold Dir.same at hs;simp only[ZF,decide_eq_true_eq]at hs;unfold dirT;rw[hs.1,Hs hs.2]) l m h
mutual
theorem Nw:∀x y:Sel,x.same y=true→x.txt=y.txt
 | .mk k al n a d s p,.mk k' al' n' a' d' s' p',h=>by
  rw[Sel.same]at h;simp only[ZF,decide_eq_true_eq]at h;obtain⟨rfl,rfl,rfl,D,C,B⟩:=h;obtain⟨o,A⟩:=Ds s s' B;rw[Sel.txt,Sel.txt,Hs D,FM C,o,A]
theorem Ds:∀l m:List Sel,Sel.sames l m=true→(∀b,Sel.txts b l=Sel.txts b m)∧l.length=m.length
 | [],[],_=>⟨λ_=>rfl,rfl⟩
 | x::r,y::q,h=>by
  rw[Sel.sames,ZF]at h;obtain⟨o,A⟩:=Ds r q h.2;exact⟨λb=>by rw[Sel.txts,Sel.txts,Nw x y h.1,o],by rw[QO,QO,A]⟩
 | [],_::_,h=>by rw[Sel.sames]at h;cases h
 | _::_,[],h=>by rw[Sel.sames]at h;cases h
end
theorem Np (x y:Var) (h:x.same y=true):varT x=varT y:=by
 unfold Var.same at h;simp only[ZF,decide_eq_true_eq]at h;unfold varT gvT;rw[h.1,h.2.1,h.2.2.1,(Vl.same_str _ _ h.2.2.2).1]
theorem Oq (x y:Op) (h:x.same y=true):opT x=opT y:=by
 unfold Op.same at h;simp only[ZF,decide_eq_true_eq]at h;obtain⟨B,C,D,A,o⟩:=h;rw[← Sel.sames_l]at A;unfold opT varsT selsT;rw[B,C,FM D,(Ds _ _ A).1,BP o,DX Np _ _ _ _ o]
theorem OX (x y:Fr) (h:x.same y=true):frT x=frT y:=by
 unfold Fr.same at h;simp only[ZF,decide_eq_true_eq]at h;obtain⟨B,A,C,o⟩:=h;rw[← Sel.sames_l]at o;unfold frT selsT;rw[B,A,FM C,(Ds _ _ o).1]
theorem MW {x y:Doc} (h:x.same y=true):x.txt=y.txt:=by
 unfold Doc.same at h;rw[ZF]at h;unfold Doc.txt;rw[CY Oq _ _ h.1,CY OX _ _ h.2]
theorem txt_same {x y:Doc} (hx:x.good=true) (hy:y.good=true):decide (x.txt=y.txt)=x.same y:=by
 cases hs:x.same y with
 | true=>exact decide_eq_true (MW hs)
 | false=>exact decide_eq_false (λe=>by rw[NK hx hy e]at hs;cases hs)
end Dq
end Go.Proofs.YtefjgpkpplkkgaaGreatDoor
namespace Go.Proofs.YtefjgpkpplkkgaaGreatDoor
set_option linter.unusedSimpArgs false
set_option linter.unusedVariables false
open Go Go.RowKit
theorem Lj (w0:World) (b:Nat) (s:Vl.Sh) (w:World) (h:WW w0 b s w) (hE:Env w0) (h3:3≤w0.heap.size) (t:List UInt8) (ht:t.length≤1000000000) (hl:s.out.length+t.length≤1000000000000) :
  Calls Tryz.prog 117 #[.pointer (some ⟨b,0,none⟩),.string ⟨t.toArray⟩] w (BE w0 b s w (Dq.kindOk t) t t.length):=by
 have H:=QA h;obtain⟨ok,A⟩:∃ok,ok=Dq.kindOk t:=⟨_,rfl⟩
 have W:=QA (Li ⟨t.toArray⟩ w (by show t.length≤_;omega) (hE.below h.bel) (by have:=h.bel.size;omega));have F:Hid (ok=(decide ((Vl.parseType t).1.err=0)&&decide ((Vl.parseType t).2=t))):=QA A;rw[← A];clear A h hE;go_enter Tryz.func117,Tryz.ntmps117;go_wp2_with fail;refine W.out.mono ?_;rintro e w1 ⟨hb1,hres⟩;have S:=QA (H.out.below hb1);have U:=QA (Ab (b:=b) hb1);have V:=hb1.size;clear hb1;rcases hres with⟨he,rfl⟩|⟨he,rfl⟩
 ·have o:(Vl.parseType t).1.err=0:=he;obtain⟨T,O⟩:∃T,T=(Vl.parseType t).2:=⟨_,rfl⟩
  have E:(Vl.parseType (⟨t.toArray⟩:ByteArray).data.toList).2=T:=O.symm;rw[E];obtain⟨q,L⟩:∃q,q=(T==t):=⟨_,rfl⟩
  have G:Hid (ok=q):=QA (by rw[F.out,decide_eq_true o,← O,L,Bool.true_and,Bool.eq_iff_iff,beq_iff_eq,decide_eq_true_iff]);have N:=QA L;clear he o O E L;go_wp2_with fail;rw[← N.out];refine (S.out.need q).mono ?_;rintro e w2 ⟨rfl,s2,h2,e2,o2,z2⟩;have D:=QA h2;have M:=QA e2;have Q:=QA (U.out.trans o2);have J:=e2.len;clear h2 e2 o2;go_wp2_with fail;refine (BV w0 b s2 _ (D.out.alloc _) _ t _ (AC _ _) (by have:=D.out.lt;simp;omega) (by decide) (by omega)).mono ?_;rintro e w3 ⟨rfl,s3,h3,e3,o3,z3⟩;have I:=QA h3;have R:=QA (M.out.comp e3);have P:=QA ((Q.out.alloc _).trans o3);have B:w.heap.size≤w3.heap.size:=by simp at z3;omega
  clear h3 e3 o3;go_wp2_with fail;go_end0;exact⟨rfl,s3,I.out,R.out.to (by rw[G.out,Bool.and_true]) (λ_=>rfl) (by omega),P.out,B⟩
 ·have o:(Vl.parseType t).1.err≠0:=he;obtain⟨c,K⟩:∃c,c=(Vl.parseType t).1.err:=⟨_,rfl⟩
  have C:(Vl.parseType (⟨t.toArray⟩:ByteArray).data.toList).1.err=c:=K.symm;rw[C];have G:Hid (ok=false):=QA (by rw[F.out,decide_eq_false o,Bool.false_and]);have X:((c:Int)==0)=false:=by rw[beq_eq_false_iff_ne];rw[K];omega
  clear he o K C;go_wp2_with fail;refine (S.out.need false).mono ?_;rintro e w2 ⟨rfl,s2,h2,e2,o2,z2⟩;have D:=QA h2;have M:=QA e2;have Q:=QA (U.out.trans o2);have J:=e2.len;clear h2 e2 o2;go_wp2_with fail;refine (BV w0 b s2 _ (D.out.alloc _) _ t _ (AC _ _) (by have:=D.out.lt;simp;omega) (by decide) (by omega)).mono ?_;rintro e w3 ⟨rfl,s3,h3,e3,o3,z3⟩;have I:=QA h3;have R:=QA (M.out.comp e3);have P:=QA ((Q.out.alloc _).trans o3);have B:w.heap.size≤w3.heap.size:=by simp at z3;omega
  clear h3 e3 o3;go_wp2_with fail;go_end0;exact⟨rfl,s3,I.out,R.out.to (by rw[G.out];rfl) (λ_=>rfl) (by omega),P.out,B⟩
theorem FE (w0:World) (b:Nat) (s:Vl.Sh) (w:World) (h:WW w0 b s w) (hE:Env w0) (h3:3≤w0.heap.size) (z:Vl.Z) (hz:z.cost≤1000000000) (a1 a2:Option Addr) (n1 n2:Nat) (hR:Reads w0 (λ_=>True) z.d (AN z a1 a2 n1 n2).toList) (hl:s.out.length+z.cost≤1000000000000) :
  Calls Tryz.prog 179 #[.pointer (some ⟨b,0,none⟩),.agg (AN z a1 a2 n1 n2)] w (BE w0 b s w (z.good 0) z.str z.cost):=by
 have H:=QA (h.alloc (.cells (AN z a1 a2 n1 n2) 25));have M:=QA ((Lib.OthersKept.refl 5 (some b) w).alloc (.cells (AN z a1 a2 n1 n2) 25));have L:=QA (Kn z a1 a2 n1 n2 _ (hE.below H.out.bel) (by have:=H.out.bel.size;omega) hz (hR.to (AE.below H.out.bel)));have Q:=Vl.str_le z;unfold AN at H M L ⊢;clear h hE hR;go_enter Tryz.func179,Tryz.ntmps179;go_wp2_with fail;refine L.out.mono ?_;rintro e w1 ⟨hb1,hres⟩;have N:=QA (H.out.below hb1);have O:=QA (M.out.trans (Ab (b:=b) hb1));have P:w.heap.size≤w1.heap.size:=by have:=hb1.size;simp at this;omega
 clear hb1;cases hg:z.good 0
 ·have o:(Vl.shown z).bad=true:=Vl.shown_bad hg;rw[o]at hres;rcases hres with⟨h,-⟩|⟨-,rfl⟩
  ·cases h
  have D:=QA hg;clear hg o;go_wp2_with fail;refine (N.out.need false).mono ?_;rintro e w2 ⟨rfl,s2,h2,e2,o2,z2⟩;have B:=QA h2;have F:=QA e2;have J:=QA (O.out.trans o2);have G:=e2.len;clear h2 e2 o2;go_wp2_with fail;refine (BV w0 b s2 _ (B.out.alloc _) _ [] _ (AC _ _) (by have:=B.out.lt;simp;omega) (by decide) (by simp;omega)).mono ?_;rintro e w3 ⟨rfl,s3,h3,e3,o3,z3⟩;have I:=QA h3;have E:=QA (F.out.comp e3);have K:=QA ((J.out.alloc _).trans o3);have A:w.heap.size≤w3.heap.size:=by simp at z3;omega
  clear h3 e3 o3;go_wp2_with fail;go_end0;exact⟨rfl,s3,I.out,E.out.to (by rw[D.out];rfl) (λe=>by rw[D.out]at e;cases e) (by simp),K.out,A⟩
 ·have C:Vl.shown z=⟨z.str,false⟩:=Vl.shown_good hg;rw[C]at hres;rcases hres with⟨-,rfl⟩|⟨h,-⟩;rotate_left
  ·cases h
  have D:=QA hg;clear hg C;go_wp2_with fail;refine (N.out.need true).mono ?_;rintro e w2 ⟨rfl,s2,h2,e2,o2,z2⟩;have B:=QA h2;have F:=QA e2;have J:=QA (O.out.trans o2);have G:=e2.len;clear h2 e2 o2;go_wp2_with fail;refine (BV w0 b s2 _ (B.out.alloc _) _ z.str _ (AC _ _) (by have:=B.out.lt;simp;omega) (by decide) (by omega)).mono ?_;rintro e w3 ⟨rfl,s3,h3,e3,o3,z3⟩;have I:=QA h3;have E:=QA (F.out.comp e3);have K:=QA ((J.out.alloc _).trans o3);have A:w.heap.size≤w3.heap.size:=by simp at z3;omega
  clear h3 e3 o3;go_wp2_with fail;go_end0;exact⟨rfl,s3,I.out,E.out.to (by rw[D.out];rfl) (λ_=>rfl) (by omega),K.out,A⟩
theorem Bf (w:World) (c:Array Value) (T:TypeId):(w.alloc (.cells c T)).heap[w.heap.size]?=some (.cells c T (0,0)):=AC _ _
theorem GJ (w:World) (c:Array Value) (T:TypeId) (c1:Array Value) (T1:TypeId) (c2:Array Value) (T2:TypeId):(((w.alloc (.cells c T)).alloc (.cells c1 T1)).alloc (.cells c2 T2)).heap[w.heap.size]?=some (.cells c T (0,0)):=by
 rw[Lib.alloc_old _ _ _ (by simp;omega),Lib.alloc_old _ _ _ (by simp)];exact AC _ _
theorem GM (w:World) (c:Array Value) (T:TypeId) (c1:Array Value) (T1:TypeId) (c2:Array Value) (T2:TypeId):(((w.alloc (.cells c1 T1)).alloc (.cells c T)).alloc (.cells c2 T2)).heap[w.heap.size+1]?=some (.cells c T (0,0)):=by
 rw[Lib.alloc_old _ _ _ (by simp)];have:=AC (w.alloc (.cells c1 T1)) (.cells c T)
 rwa [show (w.alloc (.cells c1 T1)).heap.size=w.heap.size+1 by simp]at this
theorem F7 (w:World) (c:Array Value) (T:TypeId) (c1:Array Value) (T1:TypeId) (c2:Array Value) (T2:TypeId):(((w.alloc (.cells c1 T1)).alloc (.cells c2 T2)).alloc (.cells c T)).heap[w.heap.size+2]?=some (.cells c T (0,0)):=by
 have:=AC ((w.alloc (.cells c1 T1)).alloc (.cells c2 T2)) (.cells c T)
 rwa [show ((w.alloc (.cells c1 T1)).alloc (.cells c2 T2)).heap.size=w.heap.size+2 by simp]at this
theorem EC (w:World) (c:Array Value) (T:TypeId) (c1:Array Value) (T1:TypeId):((w.alloc (.cells c T)).alloc (.cells c1 T1)).heap[w.heap.size]?=some (.cells c T (0,0)):=by
 rw[Lib.alloc_old _ _ _ (by simp)];exact AC _ _
theorem B0 (w:World) (c:Array Value) (T:TypeId) (c1:Array Value) (T1:TypeId):((w.alloc (.cells c1 T1)).alloc (.cells c T)).heap[w.heap.size+1]?=some (.cells c T (0,0)):=by
 have:=AC (w.alloc (.cells c1 T1)) (.cells c T)
 rwa [show (w.alloc (.cells c1 T1)).heap.size=w.heap.size+1 by simp]at this
theorem JM (w:World) (P:Nat→Prop):Reads w P Dq.zero.d [.int .i64 0,.string ⟨#[]⟩,.slice none 0 0,.slice none 0 0,.int .i64 0]:=by
 unfold Dq.zero;rw[Vl.Z.d,Vl.Z.dl,Vl.ZA.dl];exact .obj (.cons (.int 0) (.cons (.str []) (.cons (.seq .nil) (.cons (.seq .nil) (.cons (.int 0) .nil)))))
theorem JO (w0:World) (b:Nat) (hE:Env w0) (h3:3≤w0.heap.size) (s:Vl.Sh) (w:World) (h:WW w0 b s w) (has:Bool) (z:Vl.Z) (hz:z.cost≤1000000000) (a1 a2:Option Addr) (n1 n2:Nat) (hR:Reads w0 (λ_=>True) z.d (AN z a1 a2 n1 n2).toList) (hl:s.out.length+z.cost+3≤1000000000000) :
  Calls Tryz.prog 118 #[.pointer (some ⟨b,0,none⟩),.bool has,.agg (AN z a1 a2 n1 n2)] w (BE w0 b s w (Dq.gvG has z) (Dq.gvT has z) (z.cost+3)):=by
 have aC:=Vl.Z.n_cost z;obtain⟨wb,B⟩:∃q,q=(w.alloc (.cells #[.int .i64 z.kind,.string ⟨z.text.toArray⟩,.slice a1 z.items.length n1,.slice a2 z.fields.length n2,.int .i64 z.at_] 25)):=⟨_,rfl⟩
 have H0:Hid (WW w0 b s wb):=by rw[B];exact QA (h.alloc (.cells #[.int .i64 z.kind,.string ⟨z.text.toArray⟩,.slice a1 z.items.length n1,.slice a2 z.fields.length n2,.int .i64 z.at_] 25))
 have O0:Hid (OK8 b w wb):=by rw[B];exact QA ((Lib.OthersKept.refl 5 (some b) w).alloc _)
 have Z0:Hid (w.heap.size≤wb.heap.size):=by rw[B];exact QA (by simp)
 have E0:=QA (Vl.Eff.refl s);have W:Hid (wb.heap[w.heap.size]?=some (.cells #[.int .i64 z.kind,.string ⟨z.text.toArray⟩,.slice a1 z.items.length n1,.slice a2 z.fields.length n2,.int .i64 z.at_] 25 (0,0))):=by rw[B];exact QA (Bf w _ _)
 have K:w.heap.size≠b:=by have:=h.lt;omega
 have aA:w.heap.size+1=wb.heap.size:=by rw[B];simp
 have ab:=QA B;clear h B;have HR:=QA hR;have HE:=QA hE;unfold AN at HR ⊢;clear hR hE;cases has
 ·go_enter Tryz.func118,Tryz.ntmps118;obtain⟨A,C,F,D,E⟩:=BD W.out rfl rfl rfl rfl rfl;go_wp2_with fail;rw[← ab.out];refine (Dl 1000000000 (by decide) z Dq.zero (by omega) a1 a2 none none n1 n2 0 0 wb (λ_=>True) (HR.out.to (AE.below H0.out.bel)) (JM _ _)).mono ?_;rintro e w1 ⟨rfl,hb⟩;have H1:=QA (H0.out.below hb);have E1:=E0;have O1:=QA (O0.out.trans (Ab hb));have Z1:=QA (QR Z0.out hb.size);clear A C F D E hb;go_wp2_with fail;refine (H1.out.need (z.same Dq.zero)).mono ?_;rintro e w2 ⟨rfl,s2,h,e,o,z⟩;have O:=e.len
  try simp only[QO,QS,ZC]at O
  have H2:=QA h;have E2:=QA (E1.out.comp e);have O2:=QA (O1.out.trans o);have Z2:=QA (QR Z1.out z);clear h e o z;go_wp2_with fail;go_end0;exact⟨rfl,s2,H2.out,E2.out.to (by unfold Dq.gvG;rw[Bool.true_and];rfl) (λ_=>by unfold Dq.gvT;rfl) (by omega),O2.out,Z2.out⟩
 ·go_enter Tryz.func118,Tryz.ntmps118;obtain⟨A,C,F,D,E⟩:=BD W.out rfl rfl rfl rfl rfl;go_wp2_with fail;rw[← ab.out];refine (A8 w0 b s _ H0.out [32,61,32] (by show _+3≤_;omega)).mono ?_;rintro e w1 ⟨rfl,s1,h,e,o,z⟩;have ai:=e.len
  try simp only[QO,QS,ZC]at ai
  have H1:=QA h;have E1:=QA (E0.out.comp e);have O1:=QA (O0.out.trans o);have Z1:=QA (QR Z0.out z);have ad:=QA (AD o W.out K (by decide));clear A C F D E;clear h e o z;obtain⟨R,X,Y,T,N⟩:=BD ad.out rfl rfl rfl rfl rfl;go_wp2_with fail;refine (FE w0 b s1 _ H1.out HE.out h3 z hz a1 a2 n1 n2 HR.out (by omega)).mono ?_;rintro e w2 ⟨rfl,s2,h,e,o,z⟩;have O:=e.len
  try simp only[QO,QS,ZC]at O
  have H2:=QA h;have E2:=QA (E1.out.comp e);have O2:=QA (O1.out.trans o);have Z2:=QA (QR Z1.out z);have V:=QA (AD o ad.out K (by decide));clear R X Y T N;clear h e o z;obtain⟨L,I,U,S,M⟩:=BD V.out rfl rfl rfl rfl rfl;go_wp2_with fail;refine (GU 1000000000 (by decide) z (by omega) a1 a2 n1 n2 _ (λ_=>True) (HR.out.to (AE.below H2.out.bel))).mono ?_;rintro e w3 ⟨rfl,hb⟩;have H3:=QA (H2.out.below hb);have E3:=E2;have O3:=QA (O2.out.trans (Ab hb));have Z3:=QA (QR Z2.out hb.size);have ac:=QA ((hb.block w.heap.size (block_lt V.out)).trans V.out);clear L I U S M;clear hb;obtain⟨G,J,P,H,Q⟩:=BD ac.out rfl rfl rfl rfl rfl;go_wp2_with fail;refine (H3.out.need (z.nov)).mono ?_;rintro e w4 ⟨rfl,s4,h,e,o,z⟩;have ag:=e.len
  try simp only[QO,QS,ZC]at ag
  have H4:=QA h;have E4:=QA (E3.out.comp e);have O4:=QA (O3.out.trans o);have Z4:=QA (QR Z3.out z);have aG:=QA (AD o ac.out K (by decide));clear G J P H Q;clear h e o z;go_wp2_with fail;go_end0;exact⟨rfl,s4,H4.out,E4.out.to (by unfold Dq.gvG;simp) (λ_=>by unfold Dq.gvT;simp) (by simp;omega),O4.out,Z4.out⟩
theorem HU (cap:Array Value) (w:World) (i:Int):Sem.run Tryz.prog (callFunc 181 (#[.int .i64 i]++cap)) w=.ok (.enter 181 (#[.int .i64 i]++cap)) w:=by kernel_rfl
theorem JJ (w0:World) (b:Nat) (hE:Env w0) (h3:3≤w0.heap.size) (l:List Vl.ZA) (at_:Nat) (hat:at_≤1000) (a:Option Addr) (c:Nat) (hR:Reads w0 (λ_=>True) (.seq 7 (l.map Vl.ZA.d)) [.slice a l.length c]) (t3 t4 t5:Nat) (n3:t3≠b) (n4:t4≠b) (n5:t5≠b)
  (i:Nat) (x:Vl.ZA) (hx:l[i]?=some x) (hc:x.cost≤1000000000) (hll:l.length≤1000000000) (s:Vl.Sh) (w:World) (h:WW w0 b s w) (h3':w.heap[t3]?=some (.cells #[.pointer (some ⟨b,0,none⟩)] 175 (0,0))) (h4':w.heap[t4]?=some (.cells #[.slice a l.length c] 23 (0,0))) (h5':w.heap[t5]?=some (.cells #[.int .i64 at_] 3 (0,0)))
  (hl:s.out.length+x.cost≤1000000000000) :
  Calls Tryz.prog 181 (#[.int .i64 i]++#[.pointer (some ⟨t3,0,none⟩),.pointer (some ⟨t4,0,none⟩),.pointer (some ⟨t5,0,none⟩)]) w (BE w0 b s w (Dq.argG at_ x) x.str x.cost):=by
 have aN:i<l.length:=by
  rcases Nat.lt_or_ge i l.length with h'|h'
  ·exact h'
  ·rw[List.getElem?_eq_none h']at hx;cases hx
 have a7:=Vl.ZA.cost_eq x;have bh:=Vl.Z.n_cost x.v;have a9:=Vl.dep_le x.v;obtain⟨g,B,cs,ha,-,C,ar,A,hd⟩:=hR.el i x.d (by rw[ZK,hx];rfl);obtain⟨a1,a2,n1,n2,rfl,am⟩:=BZ hd;subst ha;have bl:Hid (∀w',WW w0 b s w'→True):=QA (λ_ _=>trivial);have D:Hid (∀(w':World),Below w0.heap.size w0 w'→(w'.cell? ⟨g,B+i*7,none⟩=some (.string ⟨x.name.toArray⟩)∧w'.cell? ⟨g,B+i*7+1,none⟩=some (.int .i64 x.v.kind)∧w'.cell? ⟨g,B+i*7+2,none⟩=some (.string ⟨x.v.text.toArray⟩)∧w'.cell? ⟨g,B+i*7+3,none⟩=some (.slice a1 x.v.items.length n1)∧w'.cell? ⟨g,B+i*7+4,none⟩=some (.slice a2 x.v.fields.length n2)∧w'.cell? ⟨g,B+i*7+5,none⟩=some (.int .i64 x.v.at_))):=QA (λw' hb =>
  ⟨(hb.cell (p:=⟨g,B+i*7,none⟩) C).trans (A 0 _ rfl),(hb.cell (p:=⟨g,B+i*7+1,none⟩) C).trans (A 1 _ rfl),(hb.cell (p:=⟨g,B+i*7+2,none⟩) C).trans (A 2 _ rfl),(hb.cell (p:=⟨g,B+i*7+3,none⟩) C).trans (A 3 _ rfl),(hb.cell (p:=⟨g,B+i*7+4,none⟩) C).trans (A 4 _ rfl),(hb.cell (p:=⟨g,B+i*7+5,none⟩) C).trans (A 5 _ rfl)⟩)
 have HR:=QA (show Reads w0 (λ_=>True) x.v.d (AN x.v a1 a2 n1 n2).toList from am);have e9:decide (i<l.length)=true:=decide_eq_true aN;have H0:=QA h;have E0:=QA (Vl.Eff.refl s);have O0:=QA (Lib.OthersKept.refl 5 (some b) w);have Z0:=QA (QM w.heap.size);have ao:=QA h3';have av:=QA h4';have aB:=QA h5';have HE:=QA hE;clear h h3' h4' h5' hd am A ar hR hE hx C;show Calls Tryz.prog 181 #[.int .i64 i,.pointer (some ⟨t3,0,none⟩),.pointer (some ⟨t4,0,none⟩),.pointer (some ⟨t5,0,none⟩)] w _;go_enter Tryz.func181,Tryz.ntmps181;obtain⟨k0,k1,k2,k3,k4,k5⟩:=D.out w H0.out.bel;have T:=AA ao.out 0 (.pointer (some ⟨b,0,none⟩)) rfl;have af:=AA av.out 0 (.slice (some ⟨g,B,none⟩) l.length c) rfl;have ah:=AA aB.out 0 (.int .i64 at_) rfl;go_wp2_with fail;refine AF [6] (by kernel_rfl) (by kernel_rfl) ?_;simp only[Ae,QF,QN,QE,QL,Nat.sub_zero,Nat.reduceSub,ZB]
 repeat (go_big_quiet_step (fail))
 refine wpQuiet_nil ?_;rintro _ ⟨nq,rfl⟩;go_wp2_with fail;refine (A1 w0 b s _ (H0.out.drewN nq) x.name (by omega)).mono ?_;rintro e w1 ⟨rfl,s1,h,e,o,z⟩;have o:OK8 b w w1:=o;have z:(w).heap.size≤w1.heap.size:=z;have aJ:=e.len
 try simp only[QO,QS,ZC]at aJ
 have H1:=QA h;have E1:=QA (E0.out.comp e);have O1:=QA (O0.out.trans o);have Z1:=QA (QR Z0.out z);have K:=QA (AD o ao.out n3 (by decide));have E:=QA (AD o av.out n4 (by decide));have F:=QA (AD o aB.out n5 (by decide));clear T af ah;clear h e o z;go_wp2_with fail;refine wpQuiet_nil ?_;rintro _ ⟨nr,rfl⟩;obtain⟨a4,hw⟩:∃q,q=w1.drewN nr:=⟨_,rfl⟩
 have ab:=H1.out.drewN nr;have W:OK8 b w (w1.drewN nr):=O1.out;have ae:w.heap.size≤(w1.drewN nr).heap.size:=Z1.out;have J:(w1.drewN nr).heap[t3]?=_:=K.out;have I:(w1.drewN nr).heap[t4]?=_:=E.out;have O:(w1.drewN nr).heap[t5]?=_:=F.out;rw[← hw]at ab W ae J I O ⊢;clear H1 O1 Z1 K E F;have H1:=QA ab;have O1:=QA W;have Z1:=QA ae;have K:=QA J;have E:=QA I;have F:=QA O;clear hw ab W ae J I O;clear k0 k1 k2 k3 k4 k5;have Y:=AA K.out 0 (.pointer (some ⟨b,0,none⟩)) rfl;have X:=AA E.out 0 (.slice (some ⟨g,B,none⟩) l.length c) rfl;have ag:=AA F.out 0 (.int .i64 at_) rfl;go_wp2_with fail;refine (A8 w0 b s1 _ H1.out [58,32] (by show _+2≤_;omega)).mono ?_;rintro e w2 ⟨rfl,s2,h,e,o,z⟩;have aT:=e.len
 try simp only[QO,QS,ZC]at aT
 have H2:=QA h;have E2:=QA (E1.out.comp e);have O2:=QA (O1.out.trans o);have Z2:=QA (QR Z1.out z);have au:=QA (AD o K.out n3 (by decide));have an:=QA (AD o E.out n4 (by decide));have ay:=QA (AD o F.out n5 (by decide));clear Y X ag;clear h e o z;obtain⟨k0,k1,k2,k3,k4,k5⟩:=D.out w2 H2.out.bel;have aA:=HR;unfold AN at aA;have V:=AA au.out 0 (.pointer (some ⟨b,0,none⟩)) rfl;have ac:=AA an.out 0 (.slice (some ⟨g,B,none⟩) l.length c) rfl;have ad:=AA ay.out 0 (.int .i64 at_) rfl;go_wp2_with fail;refine AF [6] (by kernel_rfl) (by kernel_rfl) ?_;simp only[Ae,QF,QN,QE,QL,Nat.sub_zero,Nat.reduceSub,ZB]
 repeat (go_big_quiet_step (fail))
 refine wpQuiet_nil ?_;rintro _ ⟨nq,rfl⟩;go_wp2_with fail;refine (FE w0 b s2 _ (H2.out.drewN nq) HE.out h3 x.v (by omega) a1 a2 n1 n2 HR.out (by omega)).mono ?_;rintro e w3 ⟨rfl,s3,h,e,o,z⟩;have o:OK8 b w2 w3:=o;have z:(w2).heap.size≤w3.heap.size:=z;have aK:=e.len
 try simp only[QO,QS,ZC]at aK
 have S:=QA h;have E3:=QA (E2.out.comp e);have O3:=QA (O2.out.trans o);have Z3:=QA (QR Z2.out z);have G:=QA (AD o au.out n3 (by decide));have P:=QA (AD o an.out n4 (by decide));have N:=QA (AD o ay.out n5 (by decide));clear V ac ad;clear h e o z;go_wp2_with fail;refine wpQuiet_nil ?_;rintro _ ⟨nr,rfl⟩;obtain⟨Q,hw⟩:∃q,q=w3.drewN nr:=⟨_,rfl⟩
 have U:=S.out.drewN nr;have ai:OK8 b w (w3.drewN nr):=O3.out;have aa:w.heap.size≤(w3.drewN nr).heap.size:=Z3.out;have H:(w3.drewN nr).heap[t3]?=_:=G.out;have M:(w3.drewN nr).heap[t4]?=_:=P.out;have L:(w3.drewN nr).heap[t5]?=_:=N.out;rw[← hw]at U ai aa H M L ⊢;clear S O3 Z3 G P N;have S:=QA U;have O3:=QA ai;have Z3:=QA aa;have G:=QA H;have P:=QA M;have N:=QA L;clear hw U ai aa H M L;clear k0 k1 k2 k3 k4 k5;have R:=S.out.badCell;cases hbd:s3.bad
 ·rw[hbd]at R;obtain⟨k0,k1,k2,k3,k4,k5⟩:=D.out Q S.out.bel;have aV:Hid (∀q:Later Q,_):=QA (λq=>Ij 1000000000 (by decide) x.v (by omega) a1 a2 n1 n2 q.1 (λ_=>True) (aA.out.to (AE.below (S.out.bel.trans (q.2.mono S.out.bel.size)))));have bd:=Later.cell k1;have a8:=Later.cell k2;have bf:=Later.cell k3;have bc:=Later.cell k4;have ba:=Later.cell k5;have bi:=Later.cell R;have Lp:=Later.cell (AA G.out 0 (.pointer (some ⟨b,0,none⟩)) rfl);have Ll:=Later.cell (AA P.out 0 (.slice (some ⟨g,B,none⟩) l.length c) rfl);have La:=Later.cell (AA N.out 0 (.int .i64 at_) rfl);clear k0 k1 k2 k3 k4 k5;have ax:=QA hbd;clear hbd R;go_wp2_with fail;refine EZ [16] (by kernel_rfl) (by kernel_rfl) ?_;simp only[D9,QF,QN,QE,QL,Nat.sub_zero,Nat.reduceSub,ZB]
  repeat (go_big_quiet_step (with_reducible exact Later.call (aV.out _)))
  refine wpQuiet_nil ?_;rintro _ ⟨q,rfl⟩;go_wp2_with fail;rw[show decide ((at_:Int)+(x.v.dep:Int)≤16)=decide (at_+x.v.dep≤16) from by rw[decide_eq_decide];omega];refine ((S.out.below q.2).need (decide (at_+x.v.dep≤16))).mono ?_;rintro e w4 ⟨rfl,s4,h,e,o,z⟩;have H4:=QA h;have aP:=e.len;have E4:=QA (E3.out.comp e);have O4:=QA ((O3.out.trans (Ab q.2)).trans o);have Z4:=QA (QR Z3.out (QR q.2.size z));clear h e o z;go_wp2_with fail;refine wpQuiet_nil ?_;rintro _ ⟨nr,rfl⟩;go_wp2_with fail;go_end0;exact⟨rfl,s4,H4.out.below nr.2,E4.out.to (by unfold Dq.argG;simp) (λ_=>by cases x;rw[Vl.ZA.str];simp[Vl.ZA.name,Vl.ZA.v]) (by simp;omega),O4.out.trans (Ab nr.2),QR Z4.out nr.2.size⟩
 ·rw[hbd]at R;have ax:=QA hbd;clear hbd;have aQ:=AA G.out 0 (.pointer (some ⟨b,0,none⟩)) rfl;have aO:=AA P.out 0 (.slice (some ⟨g,B,none⟩) l.length c) rfl;have aL:=AA N.out 0 (.int .i64 at_) rfl;go_wp2_with fail;refine AF [16] (by kernel_rfl) (by kernel_rfl) ?_;simp only[Ae,QF,QN,QE,QL,Nat.sub_zero,Nat.reduceSub,ZB]
  repeat (go_big_quiet_step (fail))
  refine wpQuiet_nil ?_;rintro _ ⟨nq,rfl⟩;go_wp2_with fail;refine ((S.out.drewN nq).need true).mono ?_;rintro e w4 ⟨rfl,s4,h,e,o,z⟩;have o:OK8 b Q w4:=o;have z:(Q).heap.size≤w4.heap.size:=z;have H4:=QA h;have aP:=e.len;have E4:Hid (Vl.Eff s (Dq.argG at_ x) x.str (x.cost) s4):=QA ((E3.out.comp ((Vl.Eff.skip ax.out (decide (at_+x.v.dep≤16)) []).comp e)).to (by unfold Dq.argG;simp) (λ_=>by cases x;rw[Vl.ZA.str];simp[Vl.ZA.name,Vl.ZA.v]) (by simp;omega));have O4:=QA (O3.out.trans o);have Z4:=QA (QR Z3.out z);clear h e o z;go_wp2_with fail;refine wpQuiet_nil ?_;rintro _ ⟨nr,rfl⟩;go_wp2_with fail;go_end0;exact⟨rfl,s4,H4.out.drewN nr,E4.out.to rfl (λ_=>rfl) (by omega),O4.out,Z4.out⟩
theorem Kq (l:List Vl.ZA):l.length≤Dq.argsC l∧∀x∈l,x.cost≤Dq.argsC l:=by
 unfold Dq.argsC;refine⟨?_,λx hx=>by have:=Vl.sumC_mem Vl.ZA.cost 2 hx;omega⟩
 induction l with
 | nil=>exact ZX _
 | cons x r ih=>rw[Vl.sumC,QO];omega
theorem GP (w0:World) (b:Nat) (hE:Env w0) (h3:3≤w0.heap.size) (l:List Vl.ZA) (at_:Nat) (hat:at_≤1000) (a:Option Addr) (c:Nat) (hR:Reads w0 (λ_=>True) (.seq 7 (l.map Vl.ZA.d)) [.slice a l.length c]) (hc:Dq.argsC l≤1000000000)
  (s:Vl.Sh) (w:World) (h:WW w0 b s w) (hl:s.out.length+Dq.argsC l≤1000000000000) :
  Calls Tryz.prog 119 #[.pointer (some ⟨b,0,none⟩),.slice a l.length c,.int .i64 at_] w (BE w0 b s w (Dq.argsG at_ l) (Dq.argsT l) (Dq.argsC l)):=by
 obtain⟨an,aa⟩:=Kq l;have ad:=QA aa;have av:Dq.argsC l=2+Vl.sumC Vl.ZA.cost 2 l:=rfl;obtain⟨R,A⟩:∃q,q=(((w.alloc (.cells #[.pointer (some ⟨b,0,none⟩)] 175)).alloc (.cells #[.slice a l.length c] 23)).alloc (.cells #[.int .i64 at_] 3)):=⟨_,rfl⟩
 have H0:Hid (WW w0 b s R):=by rw[A];exact QA (((h.alloc (.cells #[.pointer (some ⟨b,0,none⟩)] 175)).alloc (.cells #[.slice a l.length c] 23)).alloc (.cells #[.int .i64 at_] 3))
 have O0:Hid (OK8 b w R):=by rw[A];exact QA ((((Lib.OthersKept.refl 5 (some b) w).alloc _).alloc _).alloc _)
 have Z0:Hid (w.heap.size≤R.heap.size):=by rw[A];exact QA (by simp;omega)
 have E0:=QA (Vl.Eff.refl s);have L:Hid (R.heap[w.heap.size]?=some (.cells #[.pointer (some ⟨b,0,none⟩)] 175 (0,0))):=by rw[A];exact QA (GJ w _ _ _ _ _ _)
 have F:w.heap.size≠b:=by have:=h.lt;omega
 have U:Hid (R.heap[w.heap.size+1]?=some (.cells #[.slice a l.length c] 23 (0,0))):=by rw[A];exact QA (GM w _ _ _ _ _ _)
 have D:w.heap.size+1≠b:=by have:=h.lt;omega
 have V:Hid (R.heap[w.heap.size+2]?=some (.cells #[.int .i64 at_] 3 (0,0))):=by rw[A];exact QA (F7 w _ _ _ _ _ _)
 have C:w.heap.size+2≠b:=by have:=h.lt;omega
 have ax:w.heap.size+3=R.heap.size:=by rw[A];simp
 have X:=QA A;clear h A;have HR:=QA hR;have HE:=QA hE;clear hR hE aa;by_cases h0:l.length=0
 ·have e0:((l.length:Int)==0)=true:=eqT (by omega);have I:=QA (List.length_eq_zero_iff.1 h0);clear h0;go_enter Tryz.func119,Tryz.ntmps119;have B:=AA L.out 0 (.pointer (some ⟨b,0,none⟩)) rfl;have E:=AA U.out 0 (.slice a l.length c) rfl;have G:=AA V.out 0 (.int .i64 at_) rfl;go_wp2_with fail;rw[← X.out];go_end0;exact⟨rfl,s,H0.out,E0.out.to (by rw[I.out];rfl) (λ_=>by rw[I.out];rfl) (ZX _),O0.out,Z0.out⟩
 have e0:((l.length:Int)==0)=false:=eqF (by omega);have I:=QA h0;clear h0;go_enter Tryz.func119,Tryz.ntmps119;have B:=AA L.out 0 (.pointer (some ⟨b,0,none⟩)) rfl;have E:=AA U.out 0 (.slice a l.length c) rfl;have G:=AA V.out 0 (.int .i64 at_) rfl;go_wp2_with fail;rw[← X.out];refine (A8 w0 b s _ H0.out [40] (by show _+1≤_;omega)).mono ?_;rintro e w1 ⟨rfl,s1,h,e,o,z⟩;have af:=e.len
 try simp only[QO,QS,ZC]at af
 have H1:=QA h;have E1:=QA (E0.out.comp e);have O1:=QA (O0.out.trans o);have Z1:=QA (QR Z0.out z);have K:=QA (AD o L.out F (by decide));have O:=QA (AD o U.out D (by decide));have P:=QA (AD o V.out C (by decide));clear B E G;clear h e o z;have ag:Hid (∀(i:Nat),i<l.length→∀s9 w9,WW w0 b s9 w9→OK8 b w1 w9→s9.out.length+Vl.ats l Vl.ZA.cost 0 i≤1000000000000→Calls Tryz.prog 181 (#[.int .i64 i]++#[.pointer (some ⟨w.heap.size,0,none⟩),.pointer (some ⟨w.heap.size+1,0,none⟩),.pointer (some ⟨w.heap.size+2,0,none⟩)]) w9 (BE w0 b s9 w9 (Vl.ats l (Dq.argG at_) true i) (Vl.ats l Vl.ZA.str [] i) (Vl.ats l Vl.ZA.cost 0 i))):=QA (λi hi s9 w9 h9 o9 hl9=>by
  obtain⟨x,W⟩:∃x,l[i]?=some x:=⟨l[i],ZL hi⟩
  rw[Vl.ats_some W]at hl9;rw[Vl.ats_some W,Vl.ats_some W,Vl.ats_some W];have ae:=ZE W;exact JJ w0 b HE.out h3 l at_ hat a c HR.out _ _ _ F D C i x W (by have:=ad.out x ae;omega) (by omega) s9 w9 h9 (AD o9 K.out F (by decide)) (AD o9 O.out D (by decide)) (AD o9 P.out C (by decide)) hl9)
 have H:=Vl.cds_sum l Vl.ZA.cost 2 l.length (QM _);rw[ZI]at H;have ai:=QA H;have T:=AA K.out 0 (.pointer (some ⟨b,0,none⟩)) rfl;have Q:=AA O.out 0 (.slice a l.length c) rfl;have N:=AA P.out 0 (.int .i64 at_) rfl;go_wp2_with fail;refine (FX w0 b l.length [44,32] _ _ (Vl.ats l (Dq.argG at_) true) (Vl.ats l Vl.ZA.str []) (Vl.ats l Vl.ZA.cost 0) (λw i=>HU _ w i) s1 _ H1.out (by show _+Vl.cds _ 2 _≤_;rw[H];omega) (by omega) (λi hi s9 w9 h9 o9 _ hl9=>ag.out i hi s9 w9 h9 o9 hl9)).mono ?_;rintro e w2 ⟨rfl,s2,h,e,o,z⟩;have Y:=e.len
 try simp only[QO,QS,ZC]at Y
 have H2:=QA h;have E2:=QA (E1.out.comp e);have O2:=QA (O1.out.trans o);have Z2:=QA (QR Z1.out z);have ab:=QA (AD o K.out F (by decide));have ac:=QA (AD o O.out D (by decide));have Z:=QA (AD o P.out C (by decide));clear T Q N;clear h e o z;have al:s2.out.length≤s1.out.length+Vl.sumC Vl.ZA.cost 2 l:=by have:=Y;rw[← H];exact this
 clear H;have J:=AA ab.out 0 (.pointer (some ⟨b,0,none⟩)) rfl;have M:=AA ac.out 0 (.slice a l.length c) rfl;have S:=AA Z.out 0 (.int .i64 at_) rfl;go_wp2_with fail;refine (A8 w0 b s2 _ H2.out [41] (by show _+1≤_;omega)).mono ?_;rintro e w3 ⟨rfl,s3,h,e,o,z⟩;have ah:=e.len
 try simp only[QO,QS,ZC]at ah
 have H3:=QA h;have E3:=QA (E2.out.comp e);have O3:=QA (O2.out.trans o);have Z3:=QA (QR Z2.out z);have ay:=QA (AD o ab.out F (by decide));have aK:=QA (AD o ac.out D (by decide));have ar:=QA (AD o Z.out C (by decide));clear J M S;clear h e o z;go_wp2_with fail;go_end0;exact⟨rfl,s3,H3.out,E3.out.to (by unfold Dq.argsG;rw[Vl.gds_all l _ _ (QM _),ZI];simp) (λ_=>by unfold Dq.argsT;rw[if_neg I.out,Vl.tds_join l _ _ _ (QM _),ZI];simp) (by have:=ai.out;simp only[QO,QS,Nat.zero_add,ZB];omega),O3.out,Z3.out⟩
theorem Cb {α:Type} (f:α→List UInt8):∀(b:Bool) (l:List α),Vl.joinT f [] b l=l.flatMap f
 | _,[]=>by rw[Vl.joinT];rfl
 | b,x::r=>by rw[Vl.joinT,Cb f false r,List.flatMap_cons];cases b<;>rfl
theorem CQ (w0:World) (b:Nat) (hE:Env w0) (h3:3≤w0.heap.size) (l:List Dq.Dir) (at_:Nat) (hat:at_≤1000) (a:Option Addr) (c:Nat) (hR:Reads w0 (λ_=>True) (.seq 3 (l.map Dq.Dir.d)) [.slice a l.length c]) (hc:Dq.dirsC l≤1000000000) (hll:l.length≤1000000000)
  (s:Vl.Sh) (w:World) (h:WW w0 b s w) (hl:s.out.length+Dq.dirsC l≤1000000000000) :
  Calls Tryz.prog 54 #[.pointer (some ⟨b,0,none⟩),.slice a l.length c,.int .i64 at_] w (BE w0 b s w (Dq.dirsG at_ l) (Dq.dirsT l) (Dq.dirsC l)):=by
 have HH:=QA h;have HR:=QA hR;have HE:=QA hE;have U:=QA (Vl.cds_sum l Dq.dirC 0);have aE:Dq.dirsC l=Vl.sumC Dq.dirC 0 l:=rfl;have an:=QA (λ(j:Nat) (hj:j<l.length)=>Vl.cds_le (Vl.ats l Dq.dirC 0) 0 hj);clear h hR hE;go_enter Tryz.func54,Tryz.ntmps54;go_wp2_with fail
 go_loopg [10] (l.length+1) (λk i wr=>∃(j:Nat) (P:Vl.Sh),k=l.length+1-j∧j≤l.length∧i=.int .i64 j∧WW w0 b P wr∧Vl.Eff s (Vl.gds (Vl.ats l (Dq.dirG at_) true) j) (Vl.tds (Vl.ats l Dq.dirT []) [] j) (Vl.cds (Vl.ats l Dq.dirC 0) 0 j) P∧OK8 b w wr∧w.heap.size≤wr.heap.size)
 case atStart=>exact⟨0,s,rfl,ZX _,rfl,HH.out,Vl.Eff.refl s,Lib.OthersKept.refl _ _ _,QM _⟩
 case round =>
  obtain⟨j,P,W,hj,rfl,D,X,Z,z1⟩:=hrel;have HK:=QA W;have ax:=X.len;clear W;by_cases hjn:j<l.length;rotate_left
  ·have e5:decide (j<l.length)=false:=decide_eq_false hjn;obtain rfl:j=l.length:=by omega
   have H1:=QA D;have E1:=QA X;have O1:=QA Z;have Z1:=QA z1;clear D X Z z1;go_wp2_with fail;go_end0;exact⟨rfl,P,H1.out,E1.out.to (by rw[Vl.gds_all l _ _ (QM _),ZI];rfl) (λ_=>by rw[Vl.tds_join l _ _ _ (QM _),ZI,Cb];rfl) (by rw[U.out _ (QM _),ZI];exact QM _),O1.out,Z1.out⟩
  have e5:decide (j<l.length)=true:=decide_eq_true hjn;obtain⟨x,hx⟩:∃x,l[j]?=some x:=⟨l[j],ZL hjn⟩
  have ab:=an.out j hjn;have aJ:Vl.cds (Vl.ats l Dq.dirC 0) 0 l.length=Dq.dirsC l:=by rw[U.out _ (QM _),ZI];rfl
  have aI:=Vl.cds_mono (Vl.ats l Dq.dirC 0) 0 (show j+1≤l.length from hjn);rw[Vl.ats_some hx]at ab;have aA:Dq.dirC x=2+x.name.length+Dq.argsC x.args:=rfl;obtain⟨g,O,cs,ha,-,C,V,A,hd⟩:=HR.out.el j x.d (by rw[ZK,hx];rfl);obtain⟨a1,n1,rfl,S⟩:=Dq.Dir.opened hd;subst ha;have ac:=QA S;have k0:wr.cell? ⟨g,O+j*3,none⟩=_:=(D.bel.cell (p:=⟨g,O+j*3,none⟩) C).trans (A 0 _ rfl);have k1:wr.cell? ⟨g,O+j*3+1,none⟩=_:=(D.bel.cell (p:=⟨g,O+j*3+1,none⟩) C).trans (A 1 _ rfl);have k2:wr.cell? ⟨g,O+j*3+2,none⟩=_:=(D.bel.cell (p:=⟨g,O+j*3+2,none⟩) C).trans (A 2 _ rfl);obtain⟨Y,B⟩:∃q,q=(wr.alloc (.cells #[.string ⟨x.name.toArray⟩,.slice a1 x.args.length n1,.int .i64 x.at_] 171)):=⟨_,rfl⟩
  have H0:Hid (WW w0 b P Y):=by rw[B];exact QA (D.alloc _)
  have O0:Hid (OK8 b w Y):=by rw[B];exact QA (Z.alloc _)
  have Z0:Hid (w.heap.size≤Y.heap.size):=by rw[B];exact QA (by simp;omega)
  have E0:=QA X;have T:Hid (Y.heap[wr.heap.size]?=some (.cells #[.string ⟨x.name.toArray⟩,.slice a1 x.args.length n1,.int .i64 x.at_] 171 (0,0))):=by rw[B];exact QA (Bf wr _ _)
  have N:wr.heap.size≠b:=by have:=D.lt;omega
  have aG:wr.heap.size+1=Y.heap.size:=by rw[B];simp
  have ag:=QA B;have HX:=QA hx;clear D X Z z1 B hx hd S A V C;obtain⟨E,K,J⟩:=Bw T.out rfl rfl rfl;go_wp2_with fail;rw[← ag.out];refine (A8 w0 b P _ H0.out [32,64] (by show _+2≤_;omega)).mono ?_;rintro e w1 ⟨rfl,sp,h,e,o,z⟩;have ak:=e.len
  try simp only[QO,QS,ZC]at ak
  have H1:=QA h;have E1:=QA (E0.out.comp e);have O1:=QA (O0.out.trans o);have Z1:=QA (QR Z0.out z);have R:=QA (AD o T.out N (by decide));clear E K J;clear h e o z;clear k0 k1 k2;obtain⟨I,F,M⟩:=Bw R.out rfl rfl rfl;go_wp2_with fail;refine (A1 w0 b sp _ H1.out x.name (by omega)).mono ?_;rintro e w2 ⟨rfl,s2,h,e,o,z⟩;have ao:=e.len
  try simp only[QO,QS,ZC]at ao
  have H2:=QA h;have E2:=QA (E1.out.comp e);have O2:=QA (O1.out.trans o);have Z2:=QA (QR Z1.out z);have Q:=QA (AD o R.out N (by decide));clear I F M;clear h e o z;obtain⟨L,G,H⟩:=Bw Q.out rfl rfl rfl;go_wp2_with fail;refine (GP w0 b HE.out h3 x.args at_ hat a1 n1 ac.out (by omega) s2 _ H2.out (by omega)).mono ?_;rintro e w3 ⟨rfl,s3,h,e,o,z⟩;have ae:=e.len
  try simp only[QO,QS,ZC]at ae
  have H3:=QA h;have E3:=QA (E2.out.comp e);have O3:=QA (O2.out.trans o);have Z3:=QA (QR Z2.out z);have aF:=QA (AD o Q.out N (by decide));clear L G H;clear h e o z;have EE:Hid (Vl.Eff s (Vl.gds (Vl.ats l (Dq.dirG at_) true) (j+1)) (Vl.tds (Vl.ats l Dq.dirT []) [] (j+1)) (Vl.cds (Vl.ats l Dq.dirC 0) 0 (j+1)) s3):=QA (E3.out.to (by rw[Vl.gds,Vl.ats_some HX.out];unfold Dq.dirG;simp[Bool.and_assoc]) (λ_=>by rw[Vl.tds,Vl.ats_some HX.out];unfold Dq.dirT;simp) (by rw[Vl.cds,Vl.ats_some HX.out];simp only[QO,QS];omega));go_wp2_with fail;go_roundg (l.length+1-(j+1))
  case measure=>rw[HK.out];omega
  case rel=>exact⟨j+1,s3,rfl,hjn,by go_num,H3.out,EE.out,O3.out,Z3.out⟩
def Eo (w0:World) (b:Nat) (at_:Nat):Prop:=∀(l:List Dq.Sel) (a:Option Addr) (c:Nat),Reads w0 (λ_=>True) (.seq 7 (l.map Dq.Sel.d)) [.slice a l.length c]→Dq.Sel.costs l≤1000000000→∀(s:Vl.Sh) (w:World),WW w0 b s w→s.out.length+Dq.Sel.costs l+2≤1000000000000 →
 Calls Tryz.prog 55 #[.pointer (some ⟨b,0,none⟩),.slice a l.length c,.int .i64 at_] w (BE w0 b s w (Dq.selsG at_ l) (Dq.selsT l) (2+Dq.Sel.costs l))
def Ol (w0:World) (b:Nat) (at_:Nat):Prop:=∀(x:Dq.Sel) (a1 a2 a4:Option Addr) (n1 n2 n4:Nat),Reads w0 (λ_=>True) x.d [.int .i64 x.kind,.string ⟨x.nick.toArray⟩,.string ⟨x.name.toArray⟩,.slice a1 x.args.length n1,.slice a2 x.dirs.length n2,.slice a4 x.sels.length n4,.int .i64 x.at_]→x.cost≤1000000000→∀(s:Vl.Sh) (w:World),WW w0 b s w→s.out.length+x.cost≤1000000000000→∀D:Int,D=at_ →
 Calls Tryz.prog 121 #[.pointer (some ⟨b,0,none⟩),.agg #[.int .i64 x.kind,.string ⟨x.nick.toArray⟩,.string ⟨x.name.toArray⟩,.slice a1 x.args.length n1,.slice a2 x.dirs.length n2,.slice a4 x.sels.length n4,.int .i64 x.at_],.int .i64 D] w (BE w0 b s w (x.good at_) x.txt x.cost)
theorem IW (cap:Array Value) (w:World) (i:Int):Sem.run Tryz.prog (callFunc 120 (#[.int .i64 i]++cap)) w=.ok (.enter 120 (#[.int .i64 i]++cap)) w:=by kernel_rfl
theorem C5 {s s':Vl.Sh} {t:List UInt8} {c:Nat} (h:Vl.Eff s false t c s'):s'.bad=true:=by
 cases hb:s.bad
 ·exact h.no hb rfl
 ·exact h.bad hb
theorem Fq:∀l:List Dq.Sel,l.length≤Dq.Sel.costs l
 | []=>ZX _
 | x::r=>by have:=Fq r;rw[Dq.Sel.costs,QO];omega
theorem Iz (w0:World) (b:Nat) (hE:Env w0) (h3:3≤w0.heap.size) (l:List Dq.Sel) (at_:Nat) (hat:at_<16) (IH:Ol w0 b (at_+1)) (a:Option Addr) (c:Nat) (hR:Reads w0 (λ_=>True) (.seq 7 (l.map Dq.Sel.d)) [.slice a l.length c]) (t3 t4 t5:Nat) (n3:t3≠b) (n4:t4≠b) (n5:t5≠b)
  (i:Nat) (x:Dq.Sel) (hx:l[i]?=some x) (hc:x.cost≤1000000000) (hll:l.length≤1000000000) (s:Vl.Sh) (w:World) (h:WW w0 b s w) (h3':w.heap[t3]?=some (.cells #[.pointer (some ⟨b,0,none⟩)] 175 (0,0))) (h4':w.heap[t4]?=some (.cells #[.slice a l.length c] 94 (0,0))) (h5':w.heap[t5]?=some (.cells #[.int .i64 at_] 3 (0,0)))
  (hl:s.out.length+x.cost≤1000000000000) :
  Calls Tryz.prog 120 (#[.int .i64 i]++#[.pointer (some ⟨t3,0,none⟩),.pointer (some ⟨t4,0,none⟩),.pointer (some ⟨t5,0,none⟩)]) w (BE w0 b s w (x.good (at_+1)) x.txt x.cost):=by
 have Z:i<l.length:=by
  rcases Nat.lt_or_ge i l.length with h'|h'
  ·exact h'
  ·rw[List.getElem?_eq_none h']at hx;cases hx
 obtain⟨g,C,cs,ha,-,B,Q,A,W⟩:=hR.el i x.d (by rw[ZK,hx];rfl);obtain⟨a1,a2,a4,u1,u2,u4,rfl,-⟩:=Dq.Sel.opened W;subst ha;have k0:w.cell? ⟨g,C+i*7,none⟩=_:=(h.bel.cell (p:=⟨g,C+i*7,none⟩) B).trans (A 0 _ rfl);have k1:w.cell? ⟨g,C+i*7+1,none⟩=_:=(h.bel.cell (p:=⟨g,C+i*7+1,none⟩) B).trans (A 1 _ rfl);have k2:w.cell? ⟨g,C+i*7+2,none⟩=_:=(h.bel.cell (p:=⟨g,C+i*7+2,none⟩) B).trans (A 2 _ rfl);have k3:w.cell? ⟨g,C+i*7+3,none⟩=_:=(h.bel.cell (p:=⟨g,C+i*7+3,none⟩) B).trans (A 3 _ rfl);have k4:w.cell? ⟨g,C+i*7+4,none⟩=_:=(h.bel.cell (p:=⟨g,C+i*7+4,none⟩) B).trans (A 4 _ rfl);have k5:w.cell? ⟨g,C+i*7+5,none⟩=_:=(h.bel.cell (p:=⟨g,C+i*7+5,none⟩) B).trans (A 5 _ rfl);have k6:w.cell? ⟨g,C+i*7+6,none⟩=_:=(h.bel.cell (p:=⟨g,C+i*7+6,none⟩) B).trans (A 6 _ rfl);have HR:=QA W;have e9:decide (i<l.length)=true:=decide_eq_true Z;have H0:=QA h;have E0:=QA (Vl.Eff.refl s);have O0:=QA (Lib.OthersKept.refl 5 (some b) w);have Z0:=QA (QM w.heap.size);have P:=QA h3';have R:=QA h4';have S:=QA h5';have X:=QA IH;clear h h3' h4' h5' W A Q hR hx B IH;show Calls Tryz.prog 120 #[.int .i64 i,.pointer (some ⟨t3,0,none⟩),.pointer (some ⟨t4,0,none⟩),.pointer (some ⟨t5,0,none⟩)] w _;go_enter Tryz.func120,Tryz.ntmps120;have G:=AA P.out 0 (.pointer (some ⟨b,0,none⟩)) rfl;have H:=AA R.out 0 (.slice (some ⟨g,C,none⟩) l.length c) rfl;have N:=AA S.out 0 (.int .i64 at_) rfl;go_wp2_with fail;refine AF [7] (by kernel_rfl) (by kernel_rfl) ?_;simp only[Ae,QF,QN,QE,QL,Nat.sub_zero,Nat.reduceSub,ZB]
 repeat (go_big_quiet_step (fail))
 refine wpQuiet_nil ?_;rintro _ ⟨nq,rfl⟩;go_wp2_with fail;refine (X.out x a1 a2 a4 u1 u2 u4 HR.out (by omega) s _ (H0.out.drewN nq) (by omega) _ (by omega)).mono ?_;rintro e w1 ⟨rfl,s1,h,e,o,z⟩;have o:OK8 b w w1:=o;have z:(w).heap.size≤w1.heap.size:=z;have Y:=e.len
 try simp only[QO,QS,ZC]at Y
 have U:=QA h;have E1:=QA (E0.out.comp e);have V:=QA (O0.out.trans o);have T:=QA (QR Z0.out z);have I:=QA (AD o P.out n3 (by decide));have L:=QA (AD o R.out n4 (by decide));have M:=QA (AD o S.out n5 (by decide));clear G H N;clear h e o z;go_wp2_with fail;refine wpQuiet_nil ?_;rintro _ ⟨nr,rfl⟩;obtain⟨ak,hw⟩:∃q,q=w1.drewN nr:=⟨_,rfl⟩
 have J:=U.out.drewN nr;have K:OK8 b w (w1.drewN nr):=V.out;have O:w.heap.size≤(w1.drewN nr).heap.size:=T.out;have E:(w1.drewN nr).heap[t3]?=_:=I.out;have D:(w1.drewN nr).heap[t4]?=_:=L.out;have F:(w1.drewN nr).heap[t5]?=_:=M.out;rw[← hw]at J K O E D F ⊢;clear U V T I L M;have U:=QA J;have V:=QA K;have T:=QA O;have I:=QA E;have L:=QA D;have M:=QA F;clear hw J K O E D F;go_wp2_with fail;go_end0;exact⟨rfl,s1,U.out,E1.out.to (Bool.true_and _) (λ_=>rfl) (by omega),V.out,T.out⟩
theorem Ez (w0:World) (b:Nat) (hE:Env w0) (h3:3≤w0.heap.size) (at_:Nat) (hat:at_≤16) (IH:at_<16→Ol w0 b (at_+1)):Eo w0 b at_:=by
 intro l a c hR hc s w h hl;have aG:=Fq l;have az:Hid (∀x∈l,1+x.cost≤Dq.Sel.costs l):=QA (λx V=>by rw[Dq.Sel.costs_sum];exact Vl.sumC_mem Dq.Sel.cost 1 V);have aB:=Dq.Sel.costs_sum l;obtain⟨wb,D⟩:∃q,q=(((w.alloc (.cells #[.pointer (some ⟨b,0,none⟩)] 175)).alloc (.cells #[.slice a l.length c] 94)).alloc (.cells #[.int .i64 at_] 3)):=⟨_,rfl⟩
 have H0:Hid (WW w0 b s wb):=by rw[D];exact QA (((h.alloc (.cells #[.pointer (some ⟨b,0,none⟩)] 175)).alloc (.cells #[.slice a l.length c] 94)).alloc (.cells #[.int .i64 at_] 3))
 have O0:Hid (OK8 b w wb):=by rw[D];exact QA ((((Lib.OthersKept.refl 5 (some b) w).alloc _).alloc _).alloc _)
 have Z0:Hid (w.heap.size≤wb.heap.size):=by rw[D];exact QA (by simp;omega)
 have E0:=QA (Vl.Eff.refl s);have O:Hid (wb.heap[w.heap.size]?=some (.cells #[.pointer (some ⟨b,0,none⟩)] 175 (0,0))):=by rw[D];exact QA (GJ w _ _ _ _ _ _)
 have I:w.heap.size≠b:=by have:=h.lt;omega
 have Q:Hid (wb.heap[w.heap.size+1]?=some (.cells #[.slice a l.length c] 94 (0,0))):=by rw[D];exact QA (GM w _ _ _ _ _ _)
 have H:w.heap.size+1≠b:=by have:=h.lt;omega
 have P:Hid (wb.heap[w.heap.size+2]?=some (.cells #[.int .i64 at_] 3 (0,0))):=by rw[D];exact QA (F7 w _ _ _ _ _ _)
 have J:w.heap.size+2≠b:=by have:=h.lt;omega
 have aP:w.heap.size+3=wb.heap.size:=by rw[D];simp
 have ab:=QA D;clear h D;have HR:=QA hR;have HE:=QA hE;have aq:=QA IH;clear hR hE IH;by_cases h0:l.length=0
 ·have e0:decide ((0:Int)<(l.length:Int))=false:=decide_eq_false (by omega);have e1:decide (0<l.length)=false:=decide_eq_false (by omega);have U:Hid (Dq.selsG at_ l=false):=QA (by unfold Dq.selsG;rw[e1];rfl);clear h0;go_enter Tryz.func55,Tryz.ntmps55;have A:=AA O.out 0 (.pointer (some ⟨b,0,none⟩)) rfl;have B:=AA Q.out 0 (.slice a l.length c) rfl;have C:=AA P.out 0 (.int .i64 at_) rfl;go_wp2_with fail;rw[← ab.out];refine (H0.out.need (false)).mono ?_;rintro e w1 ⟨rfl,s1,h,e,o,z⟩;have R:=e.len
  try simp only[QO,QS,ZC]at R
  have T:=QA h;have W:=QA (E0.out.comp e);have O1:=QA (O0.out.trans o);have Z1:=QA (QR Z0.out z);have M:=QA (AD o O.out I (by decide));have K:=QA (AD o Q.out H (by decide));have L:=QA (AD o P.out J (by decide));clear A B C;clear h e o z;have N:=T.out.badCell;rw[C5 W.out]at N;have F:=AA M.out 0 (.pointer (some ⟨b,0,none⟩)) rfl;have E:=AA K.out 0 (.slice a l.length c) rfl;have G:=AA L.out 0 (.int .i64 at_) rfl;go_wp2_with fail;go_end0;exact⟨rfl,s1,T.out,W.out.to (by rw[U.out];rfl) (λe=>by rw[U.out]at e;cases e) (by omega),O1.out,Z1.out⟩
 have e0:decide ((0:Int)<(l.length:Int))=true:=decide_eq_true (by omega);have e1:decide (0<l.length)=true:=decide_eq_true (by omega);by_cases h16:at_<16;rotate_left
 ·have e2:decide ((at_:Int)<16)=false:=decide_eq_false (by omega);have U:Hid (Dq.selsG at_ l=false):=QA (by unfold Dq.selsG;rw[e1,decide_eq_false h16];rfl);clear h0 h16;go_enter Tryz.func55,Tryz.ntmps55;have A:=AA O.out 0 (.pointer (some ⟨b,0,none⟩)) rfl;have B:=AA Q.out 0 (.slice a l.length c) rfl;have C:=AA P.out 0 (.int .i64 at_) rfl;go_wp2_with fail;rw[← ab.out];refine (H0.out.need (false)).mono ?_;rintro e w1 ⟨rfl,s1,h,e,o,z⟩;have R:=e.len
  try simp only[QO,QS,ZC]at R
  have T:=QA h;have W:=QA (E0.out.comp e);have O1:=QA (O0.out.trans o);have Z1:=QA (QR Z0.out z);have M:=QA (AD o O.out I (by decide));have K:=QA (AD o Q.out H (by decide));have L:=QA (AD o P.out J (by decide));clear A B C;clear h e o z;have N:=T.out.badCell;rw[C5 W.out]at N;have F:=AA M.out 0 (.pointer (some ⟨b,0,none⟩)) rfl;have E:=AA K.out 0 (.slice a l.length c) rfl;have G:=AA L.out 0 (.int .i64 at_) rfl;go_wp2_with fail;go_end0;exact⟨rfl,s1,T.out,W.out.to (by rw[U.out];rfl) (λe=>by rw[U.out]at e;cases e) (by omega),O1.out,Z1.out⟩
 have e2:decide ((at_:Int)<16)=true:=decide_eq_true (by omega);have U:Hid (Dq.selsG at_ l=Dq.Sel.goods (at_+1) l):=QA (by unfold Dq.selsG;rw[e1,decide_eq_true h16];rfl);have X:=QA h16;clear h0 h16;go_enter Tryz.func55,Tryz.ntmps55;have A:=AA O.out 0 (.pointer (some ⟨b,0,none⟩)) rfl;have B:=AA Q.out 0 (.slice a l.length c) rfl;have C:=AA P.out 0 (.int .i64 at_) rfl;go_wp2_with fail;rw[← ab.out];refine (H0.out.need (true)).mono ?_;rintro e w1 ⟨rfl,s1,h,e,o,z⟩;have R:=e.len
 try simp only[QO,QS,ZC]at R
 have T:=QA h;have W:=QA (E0.out.comp e);have O1:=QA (O0.out.trans o);have Z1:=QA (QR Z0.out z);have M:=QA (AD o O.out I (by decide));have K:=QA (AD o Q.out H (by decide));have L:=QA (AD o P.out J (by decide));clear A B C;clear h e o z;have N:=T.out.badCell;cases hbd:s1.bad
 ·rw[hbd]at N;clear hbd;have F:=AA M.out 0 (.pointer (some ⟨b,0,none⟩)) rfl;have E:=AA K.out 0 (.slice a l.length c) rfl;have G:=AA L.out 0 (.int .i64 at_) rfl;go_wp2_with fail;refine (A8 w0 b s1 _ T.out [123] (by show _+1≤_;omega)).mono ?_;rintro e w2 ⟨rfl,s2,h,e,o,z⟩;have aD:=e.len
  try simp only[QO,QS,ZC]at aD
  have H2:=QA h;have E2:=QA (W.out.comp e);have O2:=QA (O1.out.trans o);have Z2:=QA (QR Z1.out z);have af:=QA (AD o M.out I (by decide));have Z:=QA (AD o K.out H (by decide));have ah:=QA (AD o L.out J (by decide));clear F E G;clear h e o z;clear N;have aA:Hid (∀(i:Nat),i<l.length→∀s9 w9,WW w0 b s9 w9→OK8 b w2 w9→s9.out.length+Vl.ats l Dq.Sel.cost 0 i≤1000000000000→Calls Tryz.prog 120 (#[.int .i64 i]++#[.pointer (some ⟨w.heap.size,0,none⟩),.pointer (some ⟨w.heap.size+1,0,none⟩),.pointer (some ⟨w.heap.size+2,0,none⟩)]) w9 (BE w0 b s9 w9 (Vl.ats l (Dq.Sel.good (at_+1)) true i) (Vl.ats l Dq.Sel.txt [] i) (Vl.ats l Dq.Sel.cost 0 i))):=QA (λi hi s9 w9 h9 o9 hl9=>by
   obtain⟨x,V⟩:∃x,l[i]?=some x:=⟨l[i],ZL hi⟩
   rw[Vl.ats_some V]at hl9;rw[Vl.ats_some V,Vl.ats_some V,Vl.ats_some V];have av:=ZE V;exact Iz w0 b HE.out h3 l at_ X.out (aq.out X.out) a c HR.out _ _ _ I H J i x V (by have:=az.out x av;omega) (by omega) s9 w9 h9 (AD o9 af.out I (by decide)) (AD o9 Z.out H (by decide)) (AD o9 ah.out J (by decide)) hl9)
  have S:=Vl.cds_sum l Dq.Sel.cost 1 l.length (QM _);rw[ZI]at S;have aw:=QA S;have Y:=AA af.out 0 (.pointer (some ⟨b,0,none⟩)) rfl;have ac:=AA Z.out 0 (.slice a l.length c) rfl;have ag:=AA ah.out 0 (.int .i64 at_) rfl;go_wp2_with fail;refine (FX w0 b l.length [32] _ _ (Vl.ats l (Dq.Sel.good (at_+1)) true) (Vl.ats l Dq.Sel.txt []) (Vl.ats l Dq.Sel.cost 0) (λw i=>IW _ w i) s2 _ H2.out (by show _+Vl.cds _ 1 _≤_;rw[S];omega) (by omega) (λi hi s9 w9 h9 o9 _ hl9=>aA.out i hi s9 w9 h9 o9 hl9)).mono ?_;rintro e w3 ⟨rfl,s3,h,e,o,z⟩;have al:=e.len
  try simp only[QO,QS,ZC]at al
  have H3:=QA h;have E3:=QA (E2.out.comp e);have O3:=QA (O2.out.trans o);have Z3:=QA (QR Z2.out z);have am:=QA (AD o af.out I (by decide));have ao:=QA (AD o Z.out H (by decide));have an:=QA (AD o ah.out J (by decide));clear Y ac ag;clear h e o z;have aF:s3.out.length≤s2.out.length+Vl.sumC Dq.Sel.cost 1 l:=by have:=al;rw[← S];exact this
  clear S;have ae:=AA am.out 0 (.pointer (some ⟨b,0,none⟩)) rfl;have ad:=AA ao.out 0 (.slice a l.length c) rfl;have aa:=AA an.out 0 (.int .i64 at_) rfl;go_wp2_with fail;refine (A8 w0 b s3 _ H3.out [125] (by show _+1≤_;omega)).mono ?_;rintro e w4 ⟨rfl,s4,h,e,o,z⟩;have ay:=e.len
  try simp only[QO,QS,ZC]at ay
  have H4:=QA h;have E4:=QA (E3.out.comp e);have O4:=QA (O3.out.trans o);have Z4:=QA (QR Z3.out z);have aQ:=QA (AD o am.out I (by decide));have a0:=QA (AD o ao.out H (by decide));have aR:=QA (AD o an.out J (by decide));clear ae ad aa;clear h e o z;go_wp2_with fail;go_end0;exact⟨rfl,s4,H4.out,E4.out.to (by rw[U.out,Dq.Sel.goods_all,Vl.gds_all l _ _ (QM _),ZI];simp) (λ_=>by unfold Dq.selsT;rw[Dq.Sel.txts_join,Vl.tds_join l _ _ _ (QM _),ZI];simp) (by have:=aw.out;simp only[QO,QS,Nat.zero_add,ZB];omega),O4.out,Z4.out⟩
 ·rw[hbd]at N;have aE:=QA hbd;clear hbd;have F:=AA M.out 0 (.pointer (some ⟨b,0,none⟩)) rfl;have E:=AA K.out 0 (.slice a l.length c) rfl;have G:=AA L.out 0 (.int .i64 at_) rfl;go_wp2_with fail;go_end0;exact⟨rfl,s1,T.out,(W.out.comp (Vl.Eff.skip aE.out (Dq.Sel.goods (at_+1) l) (Dq.selsT l))).to (by rw[U.out];simp) (λ_=>by simp) (by omega),O1.out,Z1.out⟩
end Go.Proofs.YtefjgpkpplkkgaaGreatDoor
