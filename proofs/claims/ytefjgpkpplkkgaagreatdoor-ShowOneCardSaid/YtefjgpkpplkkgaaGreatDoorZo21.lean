/-
  What the listed variables give; a world for the witnesses. The shower of values: value, inner, walked. The writer of documents: put, name, walked. The shower of values: variables, numbers, strings, walked. The shower of values: true, false, null, enums' names, walked.
-/
import Derived.Test.YtefjgpkpplkkgaaGreatDoorCards
import Derived.Test.YtefjgpkpplkkgaaGreatDoorTie
import Derived.Test.YtefjgpkpplkkgaaGreatDoorZo7
import Derived.WalkKit
import Derived.ProofKit
import Derived.OpenShut
import Derived.Deep.DeepHandedRow
import Derived.Lib.LaidTab
import Derived.Lib.LaidIn
import Derived.Lib.LaidU8T
import Derived.Test.YtefjgpkpplkkgaaGreatDoorZo8
import Derived.Test.YtefjgpkpplkkgaaGreatDoorZo3
import Derived.Test.YtefjgpkpplkkgaaGreatDoorZo10
import Derived.Test.YtefjgpkpplkkgaaGreatDoorZo14
import Derived.Test.YtefjgpkpplkkgaaGreatDoorZo18
import Derived.Test.YtefjgpkpplkkgaaGreatDoorZo11
import Derived.Test.YtefjgpkpplkkgaaGreatDoorZo5
open Go.Lib renaming hid → QA
open List renaming drop_succ_cons → QE, take_succ_cons → QF, drop_zero → QL, take_zero → QN
open Nat renaming reduceAdd → ZB
namespace Go.Proofs.YtefjgpkpplkkgaaGreatDoor
set_option maxRecDepth 100000
set_option maxHeartbeats 4000000
set_option linter.unusedSimpArgs false
set_option linter.unusedVariables false
open Go Go.RowKit
open Go.ChangeShapes Go.WideShapes Go.ChangeAt
open Go.ChangeMaps (open_string shut_string)
theorem own:ownKnob Tryz.prog.godebug=none:=by kernel_rfl
abbrev laidList : List (String × DataW Unit) := [("unicode/utf8.acceptRanges", Rows.laid_unicode_utf8_acceptRanges), ("unicode/utf8.first", Rows.laid_unicode_utf8_first)]
theorem env_of {W:World} (hL:laidMet Tryz.prog laidList W) (hS:W.ShapedOpen Tryz.prog):Env W∧3≤W.heap.size:=by
 have o:∃m,W.cell? ⟨2,0,none⟩=some (.int .i64 m):=cell_of_shapedOpen_int (zero:=#[.int .i64 0]) (t:=3) hS (of_decide_eq_true (by kernel_rfl)) (by kernel_rfl) rfl (by kernel_rfl) (by kernel_rfl) Tryz.underlying3;have A:Lib.Utf8Tabs 0 1 W :=
  utf8Tabs_of_readsT (U8Types.of260 Tryz.lays260) ⟨by kernel_rfl,by kernel_rfl,by kernel_rfl,by kernel_rfl,by kernel_rfl,by kernel_rfl,by kernel_rfl⟩ (Lib.laidMet.reads hL (.tail _ (.head _))) (Lib.laidMet.reads hL (.head _))
 refine⟨⟨A,o⟩,?_⟩;obtain⟨m,h⟩:=o;have:=Ct h;exact this
noncomputable def laidWorld (os:Os):World :=
 let w0:=World.holding Tryz.prog os ⟨#[],#[],[]⟩
 let put (h:Array Obj) (g:Nat) (cs:Array Value):Array Obj:=h.modify g fun
  | .cells _ t frozen=>.cells cs t frozen
  | o=>o
 let h1:=put w0.heap 0 (Lib.firstTab.map λz=>Value.int .u8 z).toArray
 let h2:=put h1 1 ((List.range 16).flatMap λi=>[Value.int .u8 (Lib.accLo i),Value.int .u8 (Lib.accHi i)]).toArray
 { w0 with heap:=h2 }
theorem laid_met (os:Os) (args:Array Value):laidMet Tryz.prog laidList ((laidWorld os).forCall (λ_ _=>0) ⟨#[],args,[]⟩).memory :=
 (LaidIn.of_run (l:=laidList) [0,1] 8 (by kernel_rfl) (by kernel_rfl) (by kernel_rfl) (by kernel_rfl)).met
theorem Hf (t:List UInt8) (k:Nat) (w:World) (hl:t.length≤9223372036854775807) (hE:Env w) (h3:3≤w.heap.size) :
  Calls Tryz.prog 89 #[.string ⟨t.toArray⟩,.int .i64 k] w λr w'=>r=.returned (.bool (Vl.one t k))∧Below w.heap.size w w':=by
 obtain⟨O,H⟩:∃O,O=Vl.one t k:=⟨_,rfl⟩
 have G:=QA H;have M:=QA hE;rw[← H];clear H hE;go_enter Tryz.func89,Tryz.ntmps89;go_wp2_with fail;refine (KD ⟨t.toArray⟩ w hl M.out h3).mono ?_;rintro r w1 ⟨hb1,hres⟩;have D:=QA hb1;rcases hres with⟨ts,v,hlx,rfl,ht,hstd⟩|⟨a,c,hlx,rfl,hc⟩
 ·obtain⟨C,A⟩:=Jm hlx hstd;obtain⟨g,P,rfl,Q,o⟩:=ht.openRow A;have I:ts.length≤9223372036854775807:=by have:=C.len;omega
  have E:=QA (show Lx.lex t=.ok ts from hlx);have K:=QA o;clear hb1 hstd C Q hlx ht o;by_cases h2:ts.length=2;rotate_left
  ·have L:((ts.length:Int)==2)=false:=eqF (by omega);have B:Hid (O=false):=QA (by
    rw[G.out];unfold Vl.one;rw[E.out]
    match ts,h2 with
    | [],_=>rfl
    | [_],_=>rfl
    | [_,_],h=>exact absurd rfl h
    | _::_::_::_,_=>rfl)
   clear h2;go_wp2_with fail;go_ret;exact⟨by rw[B.out];rfl,D.out⟩
  have L:((ts.length:Int)==2)=true:=eqT (by omega);obtain⟨x,y,rfl⟩:∃x y,ts=[x,y]:=by
   match ts,h2 with
   | [x,y],_=>exact⟨x,y,rfl⟩
  have U:w1.cell? ⟨g,0,none⟩=_:=K.out.kind 0 x rfl;have k1:w1.cell? ⟨g,1,none⟩=_:=K.out.text 0 x rfl;have S:w1.cell? ⟨g,2,none⟩=_:=K.out.at_ 0 x rfl;have B:Hid (O=(decide (x.kind=k)&&decide (x.text=t))):=QA (by rw[G.out];unfold Vl.one;rw[E.out]);clear h2 L A I;by_cases hk:x.kind=k;rotate_left
  ·have N:((x.kind:Int)==(k:Int))=false:=eqF (by omega);have F:Hid (O=false):=QA (by rw[B.out,decide_eq_false hk];rfl);clear hk;go_wp2_with fail;go_ret;exact⟨by rw[F.out];rfl,D.out⟩
  have N:((x.kind:Int)==(k:Int))=true:=eqT (by omega);have F:Hid (O=decide (x.text=t)):=QA (by rw[B.out,decide_eq_true hk];rfl);clear hk;by_cases ht:x.text=t
  ·have R:(x.text==t)=true:=by rw[beq_iff_eq];exact ht
   have J:Hid (O=true):=QA (by rw[F.out,decide_eq_true ht]);clear ht;go_wp2_with fail;go_ret;exact⟨by rw[J.out];rfl,D.out⟩
  ·have R:(x.text==t)=false:=by rw[beq_eq_false_iff_ne];exact ht
   have J:Hid (O=false):=QA (by rw[F.out,decide_eq_false ht]);clear ht;go_wp2_with fail;go_ret;exact⟨by rw[J.out];rfl,D.out⟩
 ·have T:((c:Int)==0)=false:=eqF (by omega);have B:Hid (O=false):=QA (by
   rw[G.out];unfold Vl.one;rw[show Lx.lex t=.err a c from hlx])
  clear hb1 hlx;go_wp2_with fail;go_ret;exact⟨by rw[B.out];rfl,D.out⟩
structure SW (w0:World) (b:Nat) (s:Vl.Sh) (w:World):Prop where
 sh:SH w0.heap.size b s.out s.bad w
 bel:Below w0.heap.size w0 w
theorem SW.badCell {w0 w:World} {b:Nat} {s:Vl.Sh} (h:SW w0 b s w):w.cell? ⟨b,2,none⟩=some (.bool s.bad):=by
 obtain⟨-,p,v,-,o,-⟩:=h.sh;rw[Lib.cell_of_heap o];rfl
abbrev OK8 (b:Nat) (w w':World):Prop:=Lib.OthersKept 5 (some b) w w'
section
variable {w0 w w' : World} {b : Nat} {s : Vl.Sh}
theorem SW.need (h:SW w0 b s w) (ok:Bool):Calls Tryz.prog 86 #[.pointer (some ⟨b,0,none⟩),.bool ok] w λe w'=>e=.returned (.tuple #[])∧SW w0 b (Vl.need ok s) w'∧OK8 b w w':=by
 refine (PU _ b s.out s.bad ok w h.sh).mono ?_;rintro e w' ⟨rfl,h1,h2,h3⟩;exact⟨rfl,⟨h1,h.bel.trans h2⟩,h3⟩
theorem SW.str (h:SW w0 b s w) (l:List UInt8) (hl:s.out.length+l.length≤10000000000):Calls Tryz.prog 88 #[.pointer (some ⟨b,0,none⟩),.string ⟨l.toArray⟩] w λe w'=>(∃n:Int,e=.returned (.tuple #[.int .i64 n,.nilIface]))∧SW w0 b (Vl.put l s) w'∧OK8 b w w':=by
 refine (Pm _ b s.out l s.bad w h.sh hl h.bel.size).mono ?_;rintro e w' ⟨he,h1,h2,h3⟩;exact⟨he,⟨h1,h.bel.trans h2⟩,h3⟩
theorem SW.byte (h:SW w0 b s w) (c:UInt8) (hl:s.out.length≤10000000000):Calls Tryz.prog 162 #[.pointer (some ⟨b,0,none⟩),.int .u8 c.toNat] w λe w'=>e=.returned .nilIface∧SW w0 b (Vl.put [c] s) w'∧OK8 b w w':=by
 refine (On _ b s.out s.bad c w h.sh hl h.bel.size).mono ?_;rintro e w' ⟨he,h1,h2,h3⟩;exact⟨he,⟨h1,h.bel.trans h2⟩,h3⟩
theorem SW.below (h:SW w0 b s w) (hb:Below w.heap.size w w'):SW w0 b s w':=by
 refine⟨?_,h.bel.trans (hb.mono h.bel.size)⟩;obtain⟨hB,p,v,C,A,B,o⟩:=h.sh;refine⟨hB,p,v,C,?_,?_,o⟩
 ·rw[hb.block b (Cd A)];exact A
 ·exact B.kept (row:=some b) ⟨hb.os,hb.tape,hb.output,hb.size,λk hk _=>hb.block k hk⟩ (Or.inr o)
theorem SW.alloc (h:SW w0 b s w) (o:Obj):SW w0 b s (w.alloc o):=h.below ((Below.refl _ _).alloc (Nat.le_refl _) _)
theorem Ab (hb:Below w.heap.size w w'):OK8 b w w':=λk o hk _ _=>by rw[hb.block k (Cd hk)];exact hk
theorem AD (h:OK8 b w w') {x:Nat} {cs:Array Value} {T:TypeId} {fz:Nat×Nat} (hx:w.heap[x]?=some (.cells cs T fz)) (hxb:x≠b) (hT:T≠5):w'.heap[x]?=some (.cells cs T fz) :=
 h x _ hx (λe=>hxb (Option.some.inj e)) (λc f e=>hT (by cases e;rfl))
end
theorem SW.drewN {w0 w:World} {b:Nat} {s:Vl.Sh} (h:SW w0 b s w) (n:Nat):SW w0 b s (w.drewN n):=⟨⟨h.sh.hB,h.sh.ex⟩,Below.drewN h.bel n⟩
theorem OE (t:List UInt8):(⟨#[36]⟩:ByteArray)++⟨t.toArray⟩=⟨(36::t).toArray⟩:=by
 have h:((⟨#[36]⟩:ByteArray)++⟨t.toArray⟩).data.toList=36::t:=by simp
 have:∀a:ByteArray,a=⟨a.data.toList.toArray⟩:=λa=>by cases a;simp
 rw[this (_++_),h]
theorem Vl.quoteOf_le (t:List UInt8):(Vl.quoteOf t).length≤6*t.length+2:=by
 unfold Vl.quoteOf;split
 ·exact F6 t
 ·simp
def Dz (N:Nat):Prop:=∀(z:Vl.Z),z.n≤N→(z.kind=8∨z.kind=9)→∀(deep:Nat),deep≤16→∀(w0:World) (b:Nat) (s:Vl.Sh) (a1 a2:Option Addr) (n1 n2:Nat) (w:World),Env w0→3≤w0.heap.size→SW w0 b s w→s.out.length+z.cost≤1000000000 →
 Reads w0 (λ_=>True) z.d (AN z a1 a2 n1 n2).toList →
 Calls Tryz.prog 91 #[.pointer (some ⟨b,0,none⟩),.agg (AN z a1 a2 n1 n2),.int .i64 deep] w (λe w'=>e=.returned (.tuple #[])∧SW w0 b (z.inner deep s) w'∧OK8 b w w')
noncomputable def Bd:Code:=(Tryz.f32.body.map (λc=>Lg (Lg c))).getD .skip
structure WW (w0:World) (b:Nat) (s:Vl.Sh) (w:World):Prop where
 wh:WH w0.heap.size b s.out s.bad w
 bel:Below w0.heap.size w0 w
theorem WW.badCell {w0 w:World} {b:Nat} {s:Vl.Sh} (h:WW w0 b s w):w.cell? ⟨b,2,none⟩=some (.bool s.bad):=by
 obtain⟨-,p,v,-,o,-⟩:=h.wh;rw[Lib.cell_of_heap o];rfl
theorem WW.lt {w0 w:World} {b:Nat} {s:Vl.Sh} (h:WW w0 b s w):b<w.heap.size:=h.wh.lt
def BE (w0:World) (b:Nat) (s:Vl.Sh) (w:World) (g:Bool) (t:List UInt8) (c:Nat) (e:Ending) (w':World):Prop :=
 e=.returned (.tuple #[])∧∃s',WW w0 b s' w'∧Vl.Eff s g t c s'∧OK8 b w w'∧w.heap.size≤w'.heap.size
section
variable {w0 w w' : World} {b : Nat} {s : Vl.Sh}
theorem WW.below (h:WW w0 b s w) (hb:Below w.heap.size w w'):WW w0 b s w':=by
 refine⟨?_,h.bel.trans (hb.mono h.bel.size)⟩;obtain⟨hB,p,v,C,A,B,o⟩:=h.wh;refine⟨hB,p,v,C,?_,?_,o⟩
 ·rw[hb.block b (Cd A)];exact A
 ·exact B.kept (row:=some b) ⟨hb.os,hb.tape,hb.output,hb.size,λk hk _=>hb.block k hk⟩ (Or.inr o)
theorem WW.alloc (h:WW w0 b s w) (o:Obj):WW w0 b s (w.alloc o):=h.below ((Below.refl _ _).alloc (Nat.le_refl _) _)
theorem WW.drewN (h:WW w0 b s w) (n:Nat):WW w0 b s (w.drewN n):=⟨⟨h.wh.hB,h.wh.ex⟩,Below.drewN h.bel n⟩
theorem WW.need (h:WW w0 b s w) (ok:Bool):Calls Tryz.prog 50 #[.pointer (some ⟨b,0,none⟩),.bool ok] w (BE w0 b s w ok [] 0):=by
 refine (OV _ b s.out s.bad ok w h.wh).mono ?_;rintro e w' ⟨rfl,h1,h2,h3⟩;exact⟨rfl,Vl.need ok s,⟨h1,h.bel.trans h2⟩,Vl.Eff.need ok s,h3,h2.size⟩
theorem WW.str (h:WW w0 b s w) (l:List UInt8) (hl:s.out.length+l.length≤1000000000000):Calls Tryz.prog 88 #[.pointer (some ⟨b,0,none⟩),.string ⟨l.toArray⟩] w λe w'=>(∃n:Int,e=.returned (.tuple #[.int .i64 n,.nilIface]))∧WW w0 b (Vl.put l s) w'∧OK8 b w w'∧w.heap.size≤w'.heap.size:=by
 refine (P5 _ b s.out l s.bad w h.wh hl h.bel.size).mono ?_;rintro e w' ⟨he,h1,h2,h3⟩;exact⟨he,⟨h1,h.bel.trans h2⟩,h3,h2.size⟩
end
theorem BV (w0:World) (b:Nat) (s:Vl.Sh) (w:World) (h:WW w0 b s w) (g:Nat) (l:List UInt8) (T:TypeId) (hg:w.heap[g]?=some (.cells #[.string ⟨l.toArray⟩] T (0,0))) (hgb:g≠b) (hT:T≠5) (hl:s.out.length+l.length≤1000000000000) :
  Calls Tryz.prog 52 #[.pointer (some ⟨b,0,none⟩),.slice (some ⟨g,0,none⟩) 1 1] w (BE w0 b s w true l l.length):=by
 have H:=QA h;have C:=QA hg;clear h hg;go_enter Tryz.func52,Tryz.ntmps52;go_wp2_with fail
 go_loopg [8] 2 (λk i wr=>(k=2∧i=.int .i64 0∧wr=w)∨(k=1∧i=.int .i64 1∧WW w0 b (Vl.put l s) wr∧OK8 b w wr∧w.heap.size≤wr.heap.size))
 case atStart=>exact .inl ⟨rfl,rfl,rfl⟩
 case round =>
  rcases hrel with⟨hk,rfl,hw⟩|⟨hk,rfl,h1,h2,h3⟩
  ·obtain rfl:=hw.symm;have E:=QA hk;clear hk hw;have D:=AA C.out 0 (.string ⟨l.toArray⟩) rfl;go_wp2_with fail;refine (H.out.str l hl).mono ?_;rintro e w1 ⟨⟨n,rfl⟩,h1,h2,h3⟩;have A:=QA h1;have o:=QA h2;have B:=QA h3;clear h1 h2 h3 D;go_wp2_with fail;go_roundg 1
   case measure=>rw[E.out];omega
   case rel=>exact .inr ⟨rfl,rfl,A.out,o.out,B.out⟩
  ·have A:=QA h1;have o:=QA h2;have B:=QA h3;clear h1 h2 h3 hk;go_wp2_with fail;go_end0;exact⟨rfl,_,A.out,Vl.Eff.put l s,o.out,B.out⟩
theorem Bb {b:Nat} {w w':World} {o:Obj} (h:OK8 b (w.alloc o) w'):OK8 b w w':=((Lib.OthersKept.refl _ _ w).alloc o).trans h
theorem A8 (w0:World) (b:Nat) (s:Vl.Sh) (w:World) (h:WW w0 b s w) (l:List UInt8) (hl:s.out.length+l.length≤1000000000000) :
  Calls Tryz.prog 52 #[.pointer (some ⟨b,0,none⟩),.slice (some ⟨w.heap.size,0,none⟩) 1 1] (w.alloc (.cells #[.string ⟨l.toArray⟩] 9)) (BE w0 b s w true l l.length):=by
 refine (BV w0 b s _ (h.alloc _) _ l _ (AC _ _) (by have:=h.lt;omega) (by decide) hl).mono ?_;rintro e w3 ⟨rfl,s3,h3,e3,k3,z3⟩;exact⟨rfl,s3,h3,e3,Bb k3,by simp at z3;omega⟩
theorem A1 (w0:World) (b:Nat) (s:Vl.Sh) (w:World) (h:WW w0 b s w) (l:List UInt8) (hl:s.out.length+l.length≤1000000000000) :
  Calls Tryz.prog 53 #[.pointer (some ⟨b,0,none⟩),.string ⟨l.toArray⟩] w (BE w0 b s w (Lx.isName l) l l.length):=by
 have H:=QA h;obtain⟨ok,o⟩:∃ok,ok=Lx.isName l:=⟨_,rfl⟩
 have B:Hid (Calls Tryz.prog 87 #[.string ⟨l.toArray⟩] w λe w'=>e=.returned (.bool ok)∧w'=w):=QA ((BG ⟨l.toArray⟩ w (by show l.length≤_;omega)).mono (by rintro e w' ⟨rfl,rfl⟩;exact⟨by rw[o],rfl⟩));rw[← o];clear o h;go_enter Tryz.func53,Tryz.ntmps53;go_wp2_with fail;refine B.out.mono ?_;rintro e w1 ⟨rfl,hw1⟩;obtain rfl:=hw1.symm;clear hw1;go_wp2_with fail;refine (H.out.need ok).mono ?_;rintro e w2 ⟨rfl,s2,h2,e2,k2,z2⟩;have A:=QA h2;have F:=QA e2;have E:=QA k2;have G:s2.out.length≤s.out.length:=by have:=e2.len;omega
 clear h2 e2 k2;go_wp2_with fail;refine (BV w0 b s2 _ (A.out.alloc _) _ l _ (AC _ _) (by have:=A.out.lt;simp;omega) (by decide) (by omega)).mono ?_;rintro e w3 ⟨rfl,s3,h3,e3,k3,z3⟩;have I:=QA h3;have J:=QA e3;have D:=QA ((E.out.alloc _).trans k3);have C:w.heap.size≤w3.heap.size:=by simp at z3;omega
 clear h3 e3 k3 z2 z3;go_wp2_with fail;go_end0;exact⟨rfl,s3,I.out,(F.out.comp J.out).to (Bool.and_true _) (λ_=>rfl) (by omega),D.out,C⟩
theorem LJ (N:Nat) (INN:Dz N) (w0:World) (b:Nat) (s:Vl.Sh) (z:Vl.Z) (deep x:Nat) (a1 a2:Option Addr) (n1 n2:Nat) (w:World) (hN:z.n≤N) (HE:Hid (Env w0)) (h3:3≤w0.heap.size) (hdp:deep≤16) (hk:z.kind=1) (L:Bool×List UInt8) (HLF:Hid (L=(Lx.isName z.text,36::z.text)))
  (HS:Hid (SW w0 b s w)) (hlen:s.out.length+z.cost≤1000000000) (HX:Hid (w.heap[x]?=some (.cells #[.int .i64 z.kind,.string ⟨z.text.toArray⟩,.slice a1 z.items.length n1,.slice a2 z.fields.length n2,.int .i64 z.at_] 25 (0,0)))) (hxb:x≠b) (HRD:Hid (Reads w0 (λ_=>True) z.d (AN z a1 a2 n1 n2).toList))
  (Q:Exit→Act→World→Prop) (c3 c5 c6 c7 c8 c9 c10 c11 c12 c13 c14 c15 c16 c17 c18 c19 c20 c21 c22 c23 c24 c25 c26 c27 c28 c29 c30 c31 c32 c33 c34 c35 c36 c37 c38 c39 c40 c41 c42 c43 c44 c45 c46 c47 c48 c49 c50 c51 c52 c53 c54 c55 c56 c57 c58 c59 c60 c61 c62 c63 c64 c65 c66 c67 c68 c69 c70 c71 c72 c73 c74 c75 c76 c77 c78 c79 c80 c81 c82 c83 c84 c85 c86 c87 c88 c89 c90 c91 c92 c93 c94 c95 c96 c97 c98 c99 c100 c101 c102 c103 c104 c105 c106 c107 c108 c109 c110 c111 c112 c113 c114 c115 c116 c117 c118 c119 c120 c121 c122 c123 c124 c125 c126 c127 c128 c129 c130 c131 c132 c133 c134 c135 c136 c137 c138 c139 c140 c141 c142 c143 c144 c145 c146 c147 c148 c149 c150 c151 c152 c153 c154 c155 c156 c157 c158 c159 c160 c161 c162 c163 c164 c165 c166 c167 c168 c169:Value) (HQ:Hid (∀(tm:Array Value) (w':World),SW w0 b (Vl.put L.2 (Vl.need L.1 s)) w'→OK8 b w w'→Q .normal ⟨tm,[]⟩ w')) :
  Code.wp Tryz.prog Bd Q ⟨#[.pointer (some ⟨b,0,none⟩),.agg #[.int .i64 z.kind,.string ⟨z.text.toArray⟩,.slice a1 z.items.length n1,.slice a2 z.fields.length n2,.int .i64 z.at_],.int .i64 (deep:Nat),c3,.pointer (some ⟨x,0,none⟩),c5,c6,c7,c8,c9,c10,c11,c12,c13,c14,c15,c16,c17,c18,c19,c20,c21,c22,c23,c24,c25,c26,c27,c28,c29,c30,c31,c32,c33,c34,c35,c36,c37,c38,c39,c40,c41,c42,c43,c44,c45,c46,c47,c48,c49,c50,c51,c52,c53,c54,c55,c56,c57,c58,c59,c60,c61,c62,c63,c64,c65,c66,c67,c68,c69,c70,c71,c72,c73,c74,c75,c76,c77,c78,c79,c80,c81,c82,c83,c84,c85,c86,c87,c88,c89,c90,c91,c92,c93,c94,c95,c96,c97,c98,c99,c100,c101,c102,c103,c104,c105,c106,c107,c108,c109,c110,c111,c112,c113,c114,c115,c116,c117,c118,c119,c120,c121,c122,c123,c124,c125,c126,c127,c128,c129,c130,c131,c132,c133,c134,c135,c136,c137,c138,c139,c140,c141,c142,c143,c144,c145,c146,c147,c148,c149,c150,c151,c152,c153,c154,c155,c156,c157,c158,c159,c160,c161,c162,c163,c164,c165,c166,c167,c168,c169],[]⟩ w:=by
 have G:=Vl.Z.cost_eq z;have F:Hid (L.2=(36::z.text)):=QA (by rw[HLF.out]);have Y:(z.kind==1)=true:=by rw[beq_iff_eq];exact hk
 have q2:(z.kind==2)=false:=by rw[beq_eq_false_iff_ne];omega
 have q3:(z.kind==3)=false:=by rw[beq_eq_false_iff_ne];omega
 have X:(z.kind==4)=false:=by rw[beq_eq_false_iff_ne];omega
 have q5:(z.kind==5)=false:=by rw[beq_eq_false_iff_ne];omega
 have q6:(z.kind==6)=false:=by rw[beq_eq_false_iff_ne];omega
 have q7:(z.kind==7)=false:=by rw[beq_eq_false_iff_ne];omega
 have q8:(z.kind==8)=false:=by rw[beq_eq_false_iff_ne];omega
 have q9:(z.kind==9)=false:=by rw[beq_eq_false_iff_ne];omega
 have hz:z.text.length≤1000000000:=by omega
 clear hk hN INN HRD;obtain⟨W,U,O,R,T⟩:=BD HX.out rfl rfl rfl rfl rfl;have S:=QA (HE.out.below HS.out.bel);have V:3≤w.heap.size:=by have:=HS.out.bel.size;omega
 have P:Hid (OK8 b w w):=QA (Lib.OthersKept.refl _ _ w)
 conv=>arg 2;whnf
 conv=>arg 4;zeta
 obtain⟨ok,o⟩:∃ok,ok=Lx.isName z.text:=⟨_,rfl⟩
 have J:Hid (ok=L.1):=QA (by rw[o,HLF.out]);have M:Hid (Calls Tryz.prog 87 #[.string ⟨z.text.toArray⟩] w λe w'=>e=.returned (.bool ok)∧Below w.heap.size w w'):=QA ((BG ⟨z.text.toArray⟩ w (by show z.text.length≤_;omega)).mono (by rintro e w' ⟨rfl,rfl⟩;exact⟨by rw[o],Below.refl _ _⟩));clear o;go_wp2_with fail;refine M.out.mono ?_;rintro r w1 ⟨rfl,hb1⟩;have C:=QA (HS.out.below hb1);have D:=QA ((hb1.block x (Cd HX.out)).trans HX.out);have K:=QA (Ab (b:=b) hb1);clear hb1 W U O R T M;go_wp2_with fail;refine (C.out.need ok).mono ?_;rintro r w2 ⟨rfl,hs2,hk2⟩;rw[J.out]at hs2;have I:=QA hs2;have H:=QA (K.out.trans hk2);have B:=QA (AD hk2 D.out hxb (by decide));clear hs2 hk2;have y1:=AA B.out 1 (.string ⟨z.text.toArray⟩) rfl;go_wp2_with fail;refine AF [6] (by kernel_rfl) (by kernel_rfl) ?_;simp only[Ae,QF,QN,QE,QL,Nat.sub_zero,Nat.reduceSub,ZB]
 repeat (go_big_quiet_step (fail))
 refine wpQuiet_nil ?_;rintro _ ⟨nq,rfl⟩;go_wp2_with fail;rw[OE z.text];refine ((I.out.drewN nq).str (36::z.text) (by rw[Vl.need_out];simp only[List.length_cons];omega)).mono ?_;rintro r w3 ⟨⟨m,rfl⟩,hs3,hk3⟩;have E:=QA hs3;have A:Hid (OK8 b w w3):=QA (H.out.trans hk3);clear hs3 hk3;go_wp2;refine wpQuiet_nil ?_;rintro _ ⟨nr,rfl⟩;go_wp2;exact HQ.out _ _ (by rw[F.out];exact E.out.drewN nr) A.out
theorem LL (N:Nat) (INN:Dz N) (w0:World) (b:Nat) (s:Vl.Sh) (z:Vl.Z) (deep x:Nat) (a1 a2:Option Addr) (n1 n2:Nat) (w:World) (hN:z.n≤N) (HE:Hid (Env w0)) (h3:3≤w0.heap.size) (hdp:deep≤16) (hk:z.kind=2) (L:Bool×List UInt8) (HLF:Hid (L=(Vl.one z.text 2,z.text)))
  (HS:Hid (SW w0 b s w)) (hlen:s.out.length+z.cost≤1000000000) (HX:Hid (w.heap[x]?=some (.cells #[.int .i64 z.kind,.string ⟨z.text.toArray⟩,.slice a1 z.items.length n1,.slice a2 z.fields.length n2,.int .i64 z.at_] 25 (0,0)))) (hxb:x≠b) (HRD:Hid (Reads w0 (λ_=>True) z.d (AN z a1 a2 n1 n2).toList))
  (Q:Exit→Act→World→Prop) (c3 c5 c6 c7 c8 c9 c10 c11 c12 c13 c14 c15 c16 c17 c18 c19 c20 c21 c22 c23 c24 c25 c26 c27 c28 c29 c30 c31 c32 c33 c34 c35 c36 c37 c38 c39 c40 c41 c42 c43 c44 c45 c46 c47 c48 c49 c50 c51 c52 c53 c54 c55 c56 c57 c58 c59 c60 c61 c62 c63 c64 c65 c66 c67 c68 c69 c70 c71 c72 c73 c74 c75 c76 c77 c78 c79 c80 c81 c82 c83 c84 c85 c86 c87 c88 c89 c90 c91 c92 c93 c94 c95 c96 c97 c98 c99 c100 c101 c102 c103 c104 c105 c106 c107 c108 c109 c110 c111 c112 c113 c114 c115 c116 c117 c118 c119 c120 c121 c122 c123 c124 c125 c126 c127 c128 c129 c130 c131 c132 c133 c134 c135 c136 c137 c138 c139 c140 c141 c142 c143 c144 c145 c146 c147 c148 c149 c150 c151 c152 c153 c154 c155 c156 c157 c158 c159 c160 c161 c162 c163 c164 c165 c166 c167 c168 c169:Value) (HQ:Hid (∀(tm:Array Value) (w':World),SW w0 b (Vl.put L.2 (Vl.need L.1 s)) w'→OK8 b w w'→Q .normal ⟨tm,[]⟩ w')) :
  Code.wp Tryz.prog Bd Q ⟨#[.pointer (some ⟨b,0,none⟩),.agg #[.int .i64 z.kind,.string ⟨z.text.toArray⟩,.slice a1 z.items.length n1,.slice a2 z.fields.length n2,.int .i64 z.at_],.int .i64 (deep:Nat),c3,.pointer (some ⟨x,0,none⟩),c5,c6,c7,c8,c9,c10,c11,c12,c13,c14,c15,c16,c17,c18,c19,c20,c21,c22,c23,c24,c25,c26,c27,c28,c29,c30,c31,c32,c33,c34,c35,c36,c37,c38,c39,c40,c41,c42,c43,c44,c45,c46,c47,c48,c49,c50,c51,c52,c53,c54,c55,c56,c57,c58,c59,c60,c61,c62,c63,c64,c65,c66,c67,c68,c69,c70,c71,c72,c73,c74,c75,c76,c77,c78,c79,c80,c81,c82,c83,c84,c85,c86,c87,c88,c89,c90,c91,c92,c93,c94,c95,c96,c97,c98,c99,c100,c101,c102,c103,c104,c105,c106,c107,c108,c109,c110,c111,c112,c113,c114,c115,c116,c117,c118,c119,c120,c121,c122,c123,c124,c125,c126,c127,c128,c129,c130,c131,c132,c133,c134,c135,c136,c137,c138,c139,c140,c141,c142,c143,c144,c145,c146,c147,c148,c149,c150,c151,c152,c153,c154,c155,c156,c157,c158,c159,c160,c161,c162,c163,c164,c165,c166,c167,c168,c169],[]⟩ w:=by
 have G:=Vl.Z.cost_eq z;have F:Hid (L.2=z.text):=QA (by rw[HLF.out]);have Y:(z.kind==1)=false:=by rw[beq_eq_false_iff_ne];omega
 have q2:(z.kind==2)=true:=by rw[beq_iff_eq];exact hk
 have q3:(z.kind==3)=false:=by rw[beq_eq_false_iff_ne];omega
 have X:(z.kind==4)=false:=by rw[beq_eq_false_iff_ne];omega
 have q5:(z.kind==5)=false:=by rw[beq_eq_false_iff_ne];omega
 have q6:(z.kind==6)=false:=by rw[beq_eq_false_iff_ne];omega
 have q7:(z.kind==7)=false:=by rw[beq_eq_false_iff_ne];omega
 have q8:(z.kind==8)=false:=by rw[beq_eq_false_iff_ne];omega
 have q9:(z.kind==9)=false:=by rw[beq_eq_false_iff_ne];omega
 have hz:z.text.length≤1000000000:=by omega
 clear hk hN INN HRD;obtain⟨W,V,R,T,U⟩:=BD HX.out rfl rfl rfl rfl rfl;have M:=QA (HE.out.below HS.out.bel);have O:3≤w.heap.size:=by have:=HS.out.bel.size;omega
 have S:Hid (OK8 b w w):=QA (Lib.OthersKept.refl _ _ w)
 conv=>arg 2;whnf
 conv=>arg 4;zeta
 obtain⟨ok,o⟩:∃ok,ok=Vl.one z.text 2:=⟨_,rfl⟩
 have J:Hid (ok=L.1):=QA (by rw[o,HLF.out]);have P:Hid (Calls Tryz.prog 89 #[.string ⟨z.text.toArray⟩,.int .i64 (2:Nat)] w λe w'=>e=.returned (.bool ok)∧Below w.heap.size w w'):=QA (by rw[o];exact Hf z.text 2 w (by omega) M.out O);clear o;go_wp2_with fail;refine P.out.mono ?_;rintro r w1 ⟨rfl,hb1⟩;have C:=QA (HS.out.below hb1);have D:=QA ((hb1.block x (Cd HX.out)).trans HX.out);have K:=QA (Ab (b:=b) hb1);clear hb1 W V R T U P;go_wp2_with fail;refine (C.out.need ok).mono ?_;rintro r w2 ⟨rfl,hs2,hk2⟩;rw[J.out]at hs2;have I:=QA hs2;have H:=QA (K.out.trans hk2);have B:=QA (AD hk2 D.out hxb (by decide));clear hs2 hk2;have y1:=AA B.out 1 (.string ⟨z.text.toArray⟩) rfl;go_wp2_with fail;refine AF [5] (by kernel_rfl) (by kernel_rfl) ?_;simp only[Ae,QF,QN,QE,QL,Nat.sub_zero,Nat.reduceSub,ZB]
 repeat (go_big_quiet_step (fail))
 refine wpQuiet_nil ?_;rintro _ ⟨nq,rfl⟩;go_wp2_with fail;refine ((I.out.drewN nq).str z.text (by rw[Vl.need_out];omega)).mono ?_;rintro r w3 ⟨⟨m,rfl⟩,hs3,hk3⟩;have E:=QA hs3;have A:Hid (OK8 b w w3):=QA (H.out.trans hk3);clear hs3 hk3;go_wp2;refine wpQuiet_nil ?_;rintro _ ⟨nr,rfl⟩;go_wp2;exact HQ.out _ _ (by rw[F.out];exact E.out.drewN nr) A.out
theorem Ky (N:Nat) (INN:Dz N) (w0:World) (b:Nat) (s:Vl.Sh) (z:Vl.Z) (deep x:Nat) (a1 a2:Option Addr) (n1 n2:Nat) (w:World) (hN:z.n≤N) (HE:Hid (Env w0)) (h3:3≤w0.heap.size) (hdp:deep≤16) (hk:z.kind=3) (L:Bool×List UInt8) (HLF:Hid (L=(Vl.one z.text 3,z.text)))
  (HS:Hid (SW w0 b s w)) (hlen:s.out.length+z.cost≤1000000000) (HX:Hid (w.heap[x]?=some (.cells #[.int .i64 z.kind,.string ⟨z.text.toArray⟩,.slice a1 z.items.length n1,.slice a2 z.fields.length n2,.int .i64 z.at_] 25 (0,0)))) (hxb:x≠b) (HRD:Hid (Reads w0 (λ_=>True) z.d (AN z a1 a2 n1 n2).toList))
  (Q:Exit→Act→World→Prop) (c3 c5 c6 c7 c8 c9 c10 c11 c12 c13 c14 c15 c16 c17 c18 c19 c20 c21 c22 c23 c24 c25 c26 c27 c28 c29 c30 c31 c32 c33 c34 c35 c36 c37 c38 c39 c40 c41 c42 c43 c44 c45 c46 c47 c48 c49 c50 c51 c52 c53 c54 c55 c56 c57 c58 c59 c60 c61 c62 c63 c64 c65 c66 c67 c68 c69 c70 c71 c72 c73 c74 c75 c76 c77 c78 c79 c80 c81 c82 c83 c84 c85 c86 c87 c88 c89 c90 c91 c92 c93 c94 c95 c96 c97 c98 c99 c100 c101 c102 c103 c104 c105 c106 c107 c108 c109 c110 c111 c112 c113 c114 c115 c116 c117 c118 c119 c120 c121 c122 c123 c124 c125 c126 c127 c128 c129 c130 c131 c132 c133 c134 c135 c136 c137 c138 c139 c140 c141 c142 c143 c144 c145 c146 c147 c148 c149 c150 c151 c152 c153 c154 c155 c156 c157 c158 c159 c160 c161 c162 c163 c164 c165 c166 c167 c168 c169:Value) (HQ:Hid (∀(tm:Array Value) (w':World),SW w0 b (Vl.put L.2 (Vl.need L.1 s)) w'→OK8 b w w'→Q .normal ⟨tm,[]⟩ w')) :
  Code.wp Tryz.prog Bd Q ⟨#[.pointer (some ⟨b,0,none⟩),.agg #[.int .i64 z.kind,.string ⟨z.text.toArray⟩,.slice a1 z.items.length n1,.slice a2 z.fields.length n2,.int .i64 z.at_],.int .i64 (deep:Nat),c3,.pointer (some ⟨x,0,none⟩),c5,c6,c7,c8,c9,c10,c11,c12,c13,c14,c15,c16,c17,c18,c19,c20,c21,c22,c23,c24,c25,c26,c27,c28,c29,c30,c31,c32,c33,c34,c35,c36,c37,c38,c39,c40,c41,c42,c43,c44,c45,c46,c47,c48,c49,c50,c51,c52,c53,c54,c55,c56,c57,c58,c59,c60,c61,c62,c63,c64,c65,c66,c67,c68,c69,c70,c71,c72,c73,c74,c75,c76,c77,c78,c79,c80,c81,c82,c83,c84,c85,c86,c87,c88,c89,c90,c91,c92,c93,c94,c95,c96,c97,c98,c99,c100,c101,c102,c103,c104,c105,c106,c107,c108,c109,c110,c111,c112,c113,c114,c115,c116,c117,c118,c119,c120,c121,c122,c123,c124,c125,c126,c127,c128,c129,c130,c131,c132,c133,c134,c135,c136,c137,c138,c139,c140,c141,c142,c143,c144,c145,c146,c147,c148,c149,c150,c151,c152,c153,c154,c155,c156,c157,c158,c159,c160,c161,c162,c163,c164,c165,c166,c167,c168,c169],[]⟩ w:=by
 have G:=Vl.Z.cost_eq z;have F:Hid (L.2=z.text):=QA (by rw[HLF.out]);have Y:(z.kind==1)=false:=by rw[beq_eq_false_iff_ne];omega
 have q2:(z.kind==2)=false:=by rw[beq_eq_false_iff_ne];omega
 have q3:(z.kind==3)=true:=by rw[beq_iff_eq];exact hk
 have X:(z.kind==4)=false:=by rw[beq_eq_false_iff_ne];omega
 have q5:(z.kind==5)=false:=by rw[beq_eq_false_iff_ne];omega
 have q6:(z.kind==6)=false:=by rw[beq_eq_false_iff_ne];omega
 have q7:(z.kind==7)=false:=by rw[beq_eq_false_iff_ne];omega
 have q8:(z.kind==8)=false:=by rw[beq_eq_false_iff_ne];omega
 have q9:(z.kind==9)=false:=by rw[beq_eq_false_iff_ne];omega
 have hz:z.text.length≤1000000000:=by omega
 clear hk hN INN HRD;obtain⟨W,V,R,T,U⟩:=BD HX.out rfl rfl rfl rfl rfl;have M:=QA (HE.out.below HS.out.bel);have O:3≤w.heap.size:=by have:=HS.out.bel.size;omega
 have S:Hid (OK8 b w w):=QA (Lib.OthersKept.refl _ _ w)
 conv=>arg 2;whnf
 conv=>arg 4;zeta
 obtain⟨ok,o⟩:∃ok,ok=Vl.one z.text 3:=⟨_,rfl⟩
 have J:Hid (ok=L.1):=QA (by rw[o,HLF.out]);have P:Hid (Calls Tryz.prog 89 #[.string ⟨z.text.toArray⟩,.int .i64 (3:Nat)] w λe w'=>e=.returned (.bool ok)∧Below w.heap.size w w'):=QA (by rw[o];exact Hf z.text 3 w (by omega) M.out O);clear o;go_wp2_with fail;refine P.out.mono ?_;rintro r w1 ⟨rfl,hb1⟩;have C:=QA (HS.out.below hb1);have D:=QA ((hb1.block x (Cd HX.out)).trans HX.out);have K:=QA (Ab (b:=b) hb1);clear hb1 W V R T U P;go_wp2_with fail;refine (C.out.need ok).mono ?_;rintro r w2 ⟨rfl,hs2,hk2⟩;rw[J.out]at hs2;have I:=QA hs2;have H:=QA (K.out.trans hk2);have B:=QA (AD hk2 D.out hxb (by decide));clear hs2 hk2;have y1:=AA B.out 1 (.string ⟨z.text.toArray⟩) rfl;go_wp2_with fail;refine AF [5] (by kernel_rfl) (by kernel_rfl) ?_;simp only[Ae,QF,QN,QE,QL,Nat.sub_zero,Nat.reduceSub,ZB]
 repeat (go_big_quiet_step (fail))
 refine wpQuiet_nil ?_;rintro _ ⟨nq,rfl⟩;go_wp2_with fail;refine ((I.out.drewN nq).str z.text (by rw[Vl.need_out];omega)).mono ?_;rintro r w3 ⟨⟨m,rfl⟩,hs3,hk3⟩;have E:=QA hs3;have A:Hid (OK8 b w w3):=QA (H.out.trans hk3);clear hs3 hk3;go_wp2;refine wpQuiet_nil ?_;rintro _ ⟨nr,rfl⟩;go_wp2;exact HQ.out _ _ (by rw[F.out];exact E.out.drewN nr) A.out
theorem Kd (N:Nat) (INN:Dz N) (w0:World) (b:Nat) (s:Vl.Sh) (z:Vl.Z) (deep x:Nat) (a1 a2:Option Addr) (n1 n2:Nat) (w:World) (hN:z.n≤N) (HE:Hid (Env w0)) (h3:3≤w0.heap.size) (hdp:deep≤16) (hk:z.kind=4) (L:Bool×List UInt8) (HLF:Hid (L=(Lx.valid z.text,Vl.quoteOf z.text)))
  (HS:Hid (SW w0 b s w)) (hlen:s.out.length+z.cost≤1000000000) (HX:Hid (w.heap[x]?=some (.cells #[.int .i64 z.kind,.string ⟨z.text.toArray⟩,.slice a1 z.items.length n1,.slice a2 z.fields.length n2,.int .i64 z.at_] 25 (0,0)))) (hxb:x≠b) (HRD:Hid (Reads w0 (λ_=>True) z.d (AN z a1 a2 n1 n2).toList))
  (Q:Exit→Act→World→Prop) (c3 c5 c6 c7 c8 c9 c10 c11 c12 c13 c14 c15 c16 c17 c18 c19 c20 c21 c22 c23 c24 c25 c26 c27 c28 c29 c30 c31 c32 c33 c34 c35 c36 c37 c38 c39 c40 c41 c42 c43 c44 c45 c46 c47 c48 c49 c50 c51 c52 c53 c54 c55 c56 c57 c58 c59 c60 c61 c62 c63 c64 c65 c66 c67 c68 c69 c70 c71 c72 c73 c74 c75 c76 c77 c78 c79 c80 c81 c82 c83 c84 c85 c86 c87 c88 c89 c90 c91 c92 c93 c94 c95 c96 c97 c98 c99 c100 c101 c102 c103 c104 c105 c106 c107 c108 c109 c110 c111 c112 c113 c114 c115 c116 c117 c118 c119 c120 c121 c122 c123 c124 c125 c126 c127 c128 c129 c130 c131 c132 c133 c134 c135 c136 c137 c138 c139 c140 c141 c142 c143 c144 c145 c146 c147 c148 c149 c150 c151 c152 c153 c154 c155 c156 c157 c158 c159 c160 c161 c162 c163 c164 c165 c166 c167 c168 c169:Value) (HQ:Hid (∀(tm:Array Value) (w':World),SW w0 b (Vl.put L.2 (Vl.need L.1 s)) w'→OK8 b w w'→Q .normal ⟨tm,[]⟩ w')) :
  Code.wp Tryz.prog Bd Q ⟨#[.pointer (some ⟨b,0,none⟩),.agg #[.int .i64 z.kind,.string ⟨z.text.toArray⟩,.slice a1 z.items.length n1,.slice a2 z.fields.length n2,.int .i64 z.at_],.int .i64 (deep:Nat),c3,.pointer (some ⟨x,0,none⟩),c5,c6,c7,c8,c9,c10,c11,c12,c13,c14,c15,c16,c17,c18,c19,c20,c21,c22,c23,c24,c25,c26,c27,c28,c29,c30,c31,c32,c33,c34,c35,c36,c37,c38,c39,c40,c41,c42,c43,c44,c45,c46,c47,c48,c49,c50,c51,c52,c53,c54,c55,c56,c57,c58,c59,c60,c61,c62,c63,c64,c65,c66,c67,c68,c69,c70,c71,c72,c73,c74,c75,c76,c77,c78,c79,c80,c81,c82,c83,c84,c85,c86,c87,c88,c89,c90,c91,c92,c93,c94,c95,c96,c97,c98,c99,c100,c101,c102,c103,c104,c105,c106,c107,c108,c109,c110,c111,c112,c113,c114,c115,c116,c117,c118,c119,c120,c121,c122,c123,c124,c125,c126,c127,c128,c129,c130,c131,c132,c133,c134,c135,c136,c137,c138,c139,c140,c141,c142,c143,c144,c145,c146,c147,c148,c149,c150,c151,c152,c153,c154,c155,c156,c157,c158,c159,c160,c161,c162,c163,c164,c165,c166,c167,c168,c169],[]⟩ w:=by
 have H:=Vl.Z.cost_eq z;have B:Hid (L.2=(Vl.quoteOf z.text)):=QA (by rw[HLF.out]);have q1:(z.kind==1)=false:=by rw[beq_eq_false_iff_ne];omega
 have q2:(z.kind==2)=false:=by rw[beq_eq_false_iff_ne];omega
 have q3:(z.kind==3)=false:=by rw[beq_eq_false_iff_ne];omega
 have q4:(z.kind==4)=true:=by rw[beq_iff_eq];exact hk
 have q5:(z.kind==5)=false:=by rw[beq_eq_false_iff_ne];omega
 have q6:(z.kind==6)=false:=by rw[beq_eq_false_iff_ne];omega
 have q7:(z.kind==7)=false:=by rw[beq_eq_false_iff_ne];omega
 have q8:(z.kind==8)=false:=by rw[beq_eq_false_iff_ne];omega
 have q9:(z.kind==9)=false:=by rw[beq_eq_false_iff_ne];omega
 have T:z.text.length≤1000000000:=by omega
 clear hk hN INN HRD;obtain⟨Y,W,R,U,V⟩:=BD HX.out rfl rfl rfl rfl rfl;have O:=QA (HE.out.below HS.out.bel);have X:3≤w.heap.size:=by have:=HS.out.bel.size;omega
 have S:Hid (OK8 b w w):=QA (Lib.OthersKept.refl _ _ w)
 conv=>arg 2;whnf
 conv=>arg 4;zeta
 obtain⟨ok,A⟩:∃ok,ok=L.1:=⟨_,rfl⟩
 have K:=QA A;have P:Hid (Calls Tryz.prog 90 #[.string ⟨z.text.toArray⟩] w λr w'=>Below w.heap.size w w'∧∃e:Int,r=.returned (.tuple #[.string ⟨L.2.toArray⟩,.int .i64 e])∧(e==0)=ok):=QA ((Gq ⟨z.text.toArray⟩ w T O.out).mono (by
  rintro e w' ⟨hb,hres⟩;refine⟨hb,?_⟩;rw[A,HLF.out];unfold Vl.quoteOf;rcases hres with⟨h1,h2⟩|⟨h1,h2⟩
  ·have o:Lx.valid z.text=true:=h1;exact⟨0,by rw[h2,if_pos o],by rw[o];rfl⟩
  ·have o:Lx.valid z.text=false:=h1;exact⟨2,by rw[h2,if_neg (by rw[o];simp)],by rw[o];rfl⟩))
 clear A;go_wp2_with fail;refine P.out.mono ?_;rintro r w1 ⟨hb1,e,rfl,he⟩;have E:=QA (HS.out.below hb1);have F:=QA ((hb1.block x (Cd HX.out)).trans HX.out);have M:=QA (Ab (b:=b) hb1);clear hb1 Y W R U V P;go_wp2_with fail;refine (E.out.need ok).mono ?_;rintro r w2 ⟨rfl,hs2,hk2⟩;rw[K.out]at hs2;have J:=QA hs2;have I:=QA (M.out.trans hk2);have D:=QA (AD hk2 F.out hxb (by decide));clear hs2 hk2;have y1:=AA D.out 1 (.string ⟨z.text.toArray⟩) rfl;go_wp2_with fail;rw[B.out];refine (J.out.str (Vl.quoteOf z.text) (by rw[Vl.need_out];have:=Vl.quoteOf_le z.text;omega)).mono ?_;rintro r w3 ⟨⟨m,rfl⟩,hs3,hk3⟩;have G:=QA hs3;have C:Hid (OK8 b w w3):=QA (I.out.trans hk3);clear hs3 hk3;go_wp2_with fail;exact HQ.out _ _ (by rw[B.out];exact G.out) C.out
theorem LO (N:Nat) (INN:Dz N) (w0:World) (b:Nat) (s:Vl.Sh) (z:Vl.Z) (deep x:Nat) (a1 a2:Option Addr) (n1 n2:Nat) (w:World) (hN:z.n≤N) (HE:Hid (Env w0)) (h3:3≤w0.heap.size) (hdp:deep≤16) (hk:z.kind=5) (L:Bool×List UInt8) (HLF:Hid (L=(decide (z.text=Rd.sTrue)||decide (z.text=Rd.sFalse),z.text)))
  (HS:Hid (SW w0 b s w)) (hlen:s.out.length+z.cost≤1000000000) (HX:Hid (w.heap[x]?=some (.cells #[.int .i64 z.kind,.string ⟨z.text.toArray⟩,.slice a1 z.items.length n1,.slice a2 z.fields.length n2,.int .i64 z.at_] 25 (0,0)))) (hxb:x≠b) (HRD:Hid (Reads w0 (λ_=>True) z.d (AN z a1 a2 n1 n2).toList))
  (Q:Exit→Act→World→Prop) (c3 c5 c6 c7 c8 c9 c10 c11 c12 c13 c14 c15 c16 c17 c18 c19 c20 c21 c22 c23 c24 c25 c26 c27 c28 c29 c30 c31 c32 c33 c34 c35 c36 c37 c38 c39 c40 c41 c42 c43 c44 c45 c46 c47 c48 c49 c50 c51 c52 c53 c54 c55 c56 c57 c58 c59 c60 c61 c62 c63 c64 c65 c66 c67 c68 c69 c70 c71 c72 c73 c74 c75 c76 c77 c78 c79 c80 c81 c82 c83 c84 c85 c86 c87 c88 c89 c90 c91 c92 c93 c94 c95 c96 c97 c98 c99 c100 c101 c102 c103 c104 c105 c106 c107 c108 c109 c110 c111 c112 c113 c114 c115 c116 c117 c118 c119 c120 c121 c122 c123 c124 c125 c126 c127 c128 c129 c130 c131 c132 c133 c134 c135 c136 c137 c138 c139 c140 c141 c142 c143 c144 c145 c146 c147 c148 c149 c150 c151 c152 c153 c154 c155 c156 c157 c158 c159 c160 c161 c162 c163 c164 c165 c166 c167 c168 c169:Value) (HQ:Hid (∀(tm:Array Value) (w':World),SW w0 b (Vl.put L.2 (Vl.need L.1 s)) w'→OK8 b w w'→Q .normal ⟨tm,[]⟩ w')) :
  Code.wp Tryz.prog Bd Q ⟨#[.pointer (some ⟨b,0,none⟩),.agg #[.int .i64 z.kind,.string ⟨z.text.toArray⟩,.slice a1 z.items.length n1,.slice a2 z.fields.length n2,.int .i64 z.at_],.int .i64 (deep:Nat),c3,.pointer (some ⟨x,0,none⟩),c5,c6,c7,c8,c9,c10,c11,c12,c13,c14,c15,c16,c17,c18,c19,c20,c21,c22,c23,c24,c25,c26,c27,c28,c29,c30,c31,c32,c33,c34,c35,c36,c37,c38,c39,c40,c41,c42,c43,c44,c45,c46,c47,c48,c49,c50,c51,c52,c53,c54,c55,c56,c57,c58,c59,c60,c61,c62,c63,c64,c65,c66,c67,c68,c69,c70,c71,c72,c73,c74,c75,c76,c77,c78,c79,c80,c81,c82,c83,c84,c85,c86,c87,c88,c89,c90,c91,c92,c93,c94,c95,c96,c97,c98,c99,c100,c101,c102,c103,c104,c105,c106,c107,c108,c109,c110,c111,c112,c113,c114,c115,c116,c117,c118,c119,c120,c121,c122,c123,c124,c125,c126,c127,c128,c129,c130,c131,c132,c133,c134,c135,c136,c137,c138,c139,c140,c141,c142,c143,c144,c145,c146,c147,c148,c149,c150,c151,c152,c153,c154,c155,c156,c157,c158,c159,c160,c161,c162,c163,c164,c165,c166,c167,c168,c169],[]⟩ w:=by
 have I:=Vl.Z.cost_eq z;have H:Hid (L.2=z.text):=QA (by rw[HLF.out]);have W:(z.kind==1)=false:=by rw[beq_eq_false_iff_ne];omega
 have X:(z.kind==2)=false:=by rw[beq_eq_false_iff_ne];omega
 have q3:(z.kind==3)=false:=by rw[beq_eq_false_iff_ne];omega
 have V:(z.kind==4)=false:=by rw[beq_eq_false_iff_ne];omega
 have q5:(z.kind==5)=true:=by rw[beq_iff_eq];exact hk
 have q6:(z.kind==6)=false:=by rw[beq_eq_false_iff_ne];omega
 have q7:(z.kind==7)=false:=by rw[beq_eq_false_iff_ne];omega
 have q8:(z.kind==8)=false:=by rw[beq_eq_false_iff_ne];omega
 have q9:(z.kind==9)=false:=by rw[beq_eq_false_iff_ne];omega
 have Y:z.text.length≤1000000000:=by omega
 clear hk hN INN HRD;obtain⟨P,O,J,K,M⟩:=BD HX.out rfl rfl rfl rfl rfl;have T:=QA (HE.out.below HS.out.bel);have U:3≤w.heap.size:=by have:=HS.out.bel.size;omega
 have G:Hid (OK8 b w w):=QA (Lib.OthersKept.refl _ _ w)
 conv=>arg 2;whnf
 conv=>arg 4;zeta
 by_cases h1:z.text=Rd.sTrue
 ·have R:(z.text==[116,114,117,101])=true:=by rw[beq_iff_eq];exact h1
  have F:Hid (true=L.1):=QA (by rw[HLF.out,decide_eq_true h1];rfl);clear h1;go_wp2_with fail;clear P O J K M;refine (HS.out.need true).mono ?_;rintro r w2 ⟨rfl,hs2,hk2⟩;rw[F.out]at hs2;have D:=QA hs2;have C:=QA (G.out.trans hk2);have A:=QA (AD hk2 HX.out hxb (by decide));clear hs2 hk2;have S:=AA A.out 1 (.string ⟨z.text.toArray⟩) rfl;go_wp2_with fail;refine AF [5] (by kernel_rfl) (by kernel_rfl) ?_;simp only[Ae,QF,QN,QE,QL,Nat.sub_zero,Nat.reduceSub,ZB]
  repeat (go_big_quiet_step (fail))
  refine wpQuiet_nil ?_;rintro _ ⟨nq,rfl⟩;go_wp2_with fail;refine ((D.out.drewN nq).str z.text (by rw[Vl.need_out];omega)).mono ?_;rintro r w3 ⟨⟨m,rfl⟩,hs3,hk3⟩;have B:=QA hs3;have o:Hid (OK8 b w w3):=QA (C.out.trans hk3);clear hs3 hk3;go_wp2;refine wpQuiet_nil ?_;rintro _ ⟨nr,rfl⟩;go_wp2;exact HQ.out _ _ (by rw[H.out];exact B.out.drewN nr) o.out
 have R:(z.text==[116,114,117,101])=false:=by rw[beq_eq_false_iff_ne];exact h1
 obtain⟨ok,E⟩:∃ok,ok=(z.text==[102,97,108,115,101]):=⟨_,rfl⟩
 have F:Hid (ok=L.1):=QA (by rw[E,HLF.out,decide_eq_false h1];show _=(false||decide (z.text=Rd.sFalse));rw[Bool.false_or,Bool.eq_iff_iff,beq_iff_eq,decide_eq_true_iff];exact Iff.rfl);clear h1;go_wp2_with fail;rw[← E];clear E P O J K M;refine (HS.out.need ok).mono ?_;rintro r w2 ⟨rfl,hs2,hk2⟩;rw[F.out]at hs2;have D:=QA hs2;have C:=QA (G.out.trans hk2);have A:=QA (AD hk2 HX.out hxb (by decide));clear hs2 hk2;have S:=AA A.out 1 (.string ⟨z.text.toArray⟩) rfl;go_wp2_with fail;refine AF [5] (by kernel_rfl) (by kernel_rfl) ?_;simp only[Ae,QF,QN,QE,QL,Nat.sub_zero,Nat.reduceSub,ZB]
 repeat (go_big_quiet_step (fail))
 refine wpQuiet_nil ?_;rintro _ ⟨nq,rfl⟩;go_wp2_with fail;refine ((D.out.drewN nq).str z.text (by rw[Vl.need_out];omega)).mono ?_;rintro r w3 ⟨⟨m,rfl⟩,hs3,hk3⟩;have B:=QA hs3;have o:Hid (OK8 b w w3):=QA (C.out.trans hk3);clear hs3 hk3;go_wp2;refine wpQuiet_nil ?_;rintro _ ⟨nr,rfl⟩;go_wp2;exact HQ.out _ _ (by rw[H.out];exact B.out.drewN nr) o.out
theorem Kl (N:Nat) (INN:Dz N) (w0:World) (b:Nat) (s:Vl.Sh) (z:Vl.Z) (deep x:Nat) (a1 a2:Option Addr) (n1 n2:Nat) (w:World) (hN:z.n≤N) (HE:Hid (Env w0)) (h3:3≤w0.heap.size) (hdp:deep≤16) (hk:z.kind=6) (L:Bool×List UInt8) (HLF:Hid (L=(decide (z.text=[]),Rd.sNull)))
  (HS:Hid (SW w0 b s w)) (hlen:s.out.length+z.cost≤1000000000) (HX:Hid (w.heap[x]?=some (.cells #[.int .i64 z.kind,.string ⟨z.text.toArray⟩,.slice a1 z.items.length n1,.slice a2 z.fields.length n2,.int .i64 z.at_] 25 (0,0)))) (hxb:x≠b) (HRD:Hid (Reads w0 (λ_=>True) z.d (AN z a1 a2 n1 n2).toList))
  (Q:Exit→Act→World→Prop) (c3 c5 c6 c7 c8 c9 c10 c11 c12 c13 c14 c15 c16 c17 c18 c19 c20 c21 c22 c23 c24 c25 c26 c27 c28 c29 c30 c31 c32 c33 c34 c35 c36 c37 c38 c39 c40 c41 c42 c43 c44 c45 c46 c47 c48 c49 c50 c51 c52 c53 c54 c55 c56 c57 c58 c59 c60 c61 c62 c63 c64 c65 c66 c67 c68 c69 c70 c71 c72 c73 c74 c75 c76 c77 c78 c79 c80 c81 c82 c83 c84 c85 c86 c87 c88 c89 c90 c91 c92 c93 c94 c95 c96 c97 c98 c99 c100 c101 c102 c103 c104 c105 c106 c107 c108 c109 c110 c111 c112 c113 c114 c115 c116 c117 c118 c119 c120 c121 c122 c123 c124 c125 c126 c127 c128 c129 c130 c131 c132 c133 c134 c135 c136 c137 c138 c139 c140 c141 c142 c143 c144 c145 c146 c147 c148 c149 c150 c151 c152 c153 c154 c155 c156 c157 c158 c159 c160 c161 c162 c163 c164 c165 c166 c167 c168 c169:Value) (HQ:Hid (∀(tm:Array Value) (w':World),SW w0 b (Vl.put L.2 (Vl.need L.1 s)) w'→OK8 b w w'→Q .normal ⟨tm,[]⟩ w')) :
  Code.wp Tryz.prog Bd Q ⟨#[.pointer (some ⟨b,0,none⟩),.agg #[.int .i64 z.kind,.string ⟨z.text.toArray⟩,.slice a1 z.items.length n1,.slice a2 z.fields.length n2,.int .i64 z.at_],.int .i64 (deep:Nat),c3,.pointer (some ⟨x,0,none⟩),c5,c6,c7,c8,c9,c10,c11,c12,c13,c14,c15,c16,c17,c18,c19,c20,c21,c22,c23,c24,c25,c26,c27,c28,c29,c30,c31,c32,c33,c34,c35,c36,c37,c38,c39,c40,c41,c42,c43,c44,c45,c46,c47,c48,c49,c50,c51,c52,c53,c54,c55,c56,c57,c58,c59,c60,c61,c62,c63,c64,c65,c66,c67,c68,c69,c70,c71,c72,c73,c74,c75,c76,c77,c78,c79,c80,c81,c82,c83,c84,c85,c86,c87,c88,c89,c90,c91,c92,c93,c94,c95,c96,c97,c98,c99,c100,c101,c102,c103,c104,c105,c106,c107,c108,c109,c110,c111,c112,c113,c114,c115,c116,c117,c118,c119,c120,c121,c122,c123,c124,c125,c126,c127,c128,c129,c130,c131,c132,c133,c134,c135,c136,c137,c138,c139,c140,c141,c142,c143,c144,c145,c146,c147,c148,c149,c150,c151,c152,c153,c154,c155,c156,c157,c158,c159,c160,c161,c162,c163,c164,c165,c166,c167,c168,c169],[]⟩ w:=by
 have F:=Vl.Z.cost_eq z;have E:Hid (L.2=Rd.sNull):=QA (by rw[HLF.out]);have U:(z.kind==1)=false:=by rw[beq_eq_false_iff_ne];omega
 have V:(z.kind==2)=false:=by rw[beq_eq_false_iff_ne];omega
 have Y:(z.kind==3)=false:=by rw[beq_eq_false_iff_ne];omega
 have T:(z.kind==4)=false:=by rw[beq_eq_false_iff_ne];omega
 have q5:(z.kind==5)=false:=by rw[beq_eq_false_iff_ne];omega
 have X:(z.kind==6)=true:=by rw[beq_iff_eq];exact hk
 have q7:(z.kind==7)=false:=by rw[beq_eq_false_iff_ne];omega
 have q8:(z.kind==8)=false:=by rw[beq_eq_false_iff_ne];omega
 have q9:(z.kind==9)=false:=by rw[beq_eq_false_iff_ne];omega
 have W:z.text.length≤1000000000:=by omega
 clear hk hN INN HRD;obtain⟨S,P,J,K,O⟩:=BD HX.out rfl rfl rfl rfl rfl;have M:=QA (HE.out.below HS.out.bel);have R:3≤w.heap.size:=by have:=HS.out.bel.size;omega
 have A:Hid (OK8 b w w):=QA (Lib.OthersKept.refl _ _ w)
 conv=>arg 2;whnf
 conv=>arg 4;zeta
 obtain⟨ok,o⟩:∃ok,ok=z.text.isEmpty:=⟨_,rfl⟩
 have I:Hid (ok=L.1):=QA (by rw[o,HLF.out];cases z.text<;>rfl);go_wp2_with fail;rw[← o];clear o S P J K O;refine (HS.out.need ok).mono ?_;rintro r w2 ⟨rfl,hs2,hk2⟩;rw[I.out]at hs2;have H:=QA hs2;have G:=QA (A.out.trans hk2);have C:=QA (AD hk2 HX.out hxb (by decide));clear hs2 hk2;have y1:=AA C.out 1 (.string ⟨z.text.toArray⟩) rfl;go_wp2_with fail;refine (H.out.str Rd.sNull (by rw[Vl.need_out];show _+4≤_;omega)).mono ?_;rintro r w3 ⟨⟨m,rfl⟩,hs3,hk3⟩;have D:=QA hs3;have B:Hid (OK8 b w w3):=QA (G.out.trans hk3);clear hs3 hk3;go_wp2_with fail;exact HQ.out _ _ (by rw[E.out];exact D.out) B.out
theorem LZ (N:Nat) (INN:Dz N) (w0:World) (b:Nat) (s:Vl.Sh) (z:Vl.Z) (deep x:Nat) (a1 a2:Option Addr) (n1 n2:Nat) (w:World) (hN:z.n≤N) (HE:Hid (Env w0)) (h3:3≤w0.heap.size) (hdp:deep≤16) (hk:z.kind=7) (L:Bool×List UInt8) (HLF:Hid (L=(Lx.isName z.text&&(decide (z.text≠Rd.sTrue)&&(decide (z.text≠Rd.sFalse)&&decide (z.text≠Rd.sNull))),z.text)))
  (HS:Hid (SW w0 b s w)) (hlen:s.out.length+z.cost≤1000000000) (HX:Hid (w.heap[x]?=some (.cells #[.int .i64 z.kind,.string ⟨z.text.toArray⟩,.slice a1 z.items.length n1,.slice a2 z.fields.length n2,.int .i64 z.at_] 25 (0,0)))) (hxb:x≠b) (HRD:Hid (Reads w0 (λ_=>True) z.d (AN z a1 a2 n1 n2).toList))
  (Q:Exit→Act→World→Prop) (c3 c5 c6 c7 c8 c9 c10 c11 c12 c13 c14 c15 c16 c17 c18 c19 c20 c21 c22 c23 c24 c25 c26 c27 c28 c29 c30 c31 c32 c33 c34 c35 c36 c37 c38 c39 c40 c41 c42 c43 c44 c45 c46 c47 c48 c49 c50 c51 c52 c53 c54 c55 c56 c57 c58 c59 c60 c61 c62 c63 c64 c65 c66 c67 c68 c69 c70 c71 c72 c73 c74 c75 c76 c77 c78 c79 c80 c81 c82 c83 c84 c85 c86 c87 c88 c89 c90 c91 c92 c93 c94 c95 c96 c97 c98 c99 c100 c101 c102 c103 c104 c105 c106 c107 c108 c109 c110 c111 c112 c113 c114 c115 c116 c117 c118 c119 c120 c121 c122 c123 c124 c125 c126 c127 c128 c129 c130 c131 c132 c133 c134 c135 c136 c137 c138 c139 c140 c141 c142 c143 c144 c145 c146 c147 c148 c149 c150 c151 c152 c153 c154 c155 c156 c157 c158 c159 c160 c161 c162 c163 c164 c165 c166 c167 c168 c169:Value) (HQ:Hid (∀(tm:Array Value) (w':World),SW w0 b (Vl.put L.2 (Vl.need L.1 s)) w'→OK8 b w w'→Q .normal ⟨tm,[]⟩ w')) :
  Code.wp Tryz.prog Bd Q ⟨#[.pointer (some ⟨b,0,none⟩),.agg #[.int .i64 z.kind,.string ⟨z.text.toArray⟩,.slice a1 z.items.length n1,.slice a2 z.fields.length n2,.int .i64 z.at_],.int .i64 (deep:Nat),c3,.pointer (some ⟨x,0,none⟩),c5,c6,c7,c8,c9,c10,c11,c12,c13,c14,c15,c16,c17,c18,c19,c20,c21,c22,c23,c24,c25,c26,c27,c28,c29,c30,c31,c32,c33,c34,c35,c36,c37,c38,c39,c40,c41,c42,c43,c44,c45,c46,c47,c48,c49,c50,c51,c52,c53,c54,c55,c56,c57,c58,c59,c60,c61,c62,c63,c64,c65,c66,c67,c68,c69,c70,c71,c72,c73,c74,c75,c76,c77,c78,c79,c80,c81,c82,c83,c84,c85,c86,c87,c88,c89,c90,c91,c92,c93,c94,c95,c96,c97,c98,c99,c100,c101,c102,c103,c104,c105,c106,c107,c108,c109,c110,c111,c112,c113,c114,c115,c116,c117,c118,c119,c120,c121,c122,c123,c124,c125,c126,c127,c128,c129,c130,c131,c132,c133,c134,c135,c136,c137,c138,c139,c140,c141,c142,c143,c144,c145,c146,c147,c148,c149,c150,c151,c152,c153,c154,c155,c156,c157,c158,c159,c160,c161,c162,c163,c164,c165,c166,c167,c168,c169],[]⟩ w:=by
 have V:=Vl.Z.cost_eq z;have G:Hid (L.2=z.text):=QA (by rw[HLF.out]);have q1:(z.kind==1)=false:=by rw[beq_eq_false_iff_ne];omega
 have q2:(z.kind==2)=false:=by rw[beq_eq_false_iff_ne];omega
 have q3:(z.kind==3)=false:=by rw[beq_eq_false_iff_ne];omega
 have q4:(z.kind==4)=false:=by rw[beq_eq_false_iff_ne];omega
 have q5:(z.kind==5)=false:=by rw[beq_eq_false_iff_ne];omega
 have q6:(z.kind==6)=false:=by rw[beq_eq_false_iff_ne];omega
 have q7:(z.kind==7)=true:=by rw[beq_iff_eq];exact hk
 have q8:(z.kind==8)=false:=by rw[beq_eq_false_iff_ne];omega
 have q9:(z.kind==9)=false:=by rw[beq_eq_false_iff_ne];omega
 have hz:z.text.length≤1000000000:=by omega
 clear hk hN INN HRD;obtain⟨R,P,K,M,O⟩:=BD HX.out rfl rfl rfl rfl rfl;have X:=QA (HE.out.below HS.out.bel);have aa:3≤w.heap.size:=by have:=HS.out.bel.size;omega
 have F:Hid (OK8 b w w):=QA (Lib.OthersKept.refl _ _ w)
 conv=>arg 2;whnf
 conv=>arg 4;zeta
 obtain⟨T,I⟩:∃ok,ok=Lx.isName z.text:=⟨_,rfl⟩
 have H:Hid (L.1=(T&&(decide (z.text≠Rd.sTrue)&&(decide (z.text≠Rd.sFalse)&&decide (z.text≠Rd.sNull))))):=QA (by rw[HLF.out,I]);have Y:Hid (Calls Tryz.prog 87 #[.string ⟨z.text.toArray⟩] w λe w'=>e=.returned (.bool T)∧w'=w):=QA ((BG ⟨z.text.toArray⟩ w (by show z.text.length≤_;omega)).mono (by rintro e w' ⟨rfl,rfl⟩;exact⟨by rw[I],rfl⟩));clear I;go_wp2_with fail;refine Y.out.mono ?_;rintro r w1 ⟨rfl,hw1⟩;obtain rfl:=hw1.symm;clear hw1;cases T
 ·have E:Hid (false=L.1):=QA (by rw[H.out];rfl);go_wp2_with fail;clear R P K M O;refine (HS.out.need false).mono ?_;rintro r w2 ⟨rfl,hs2,hk2⟩;rw[E.out]at hs2;have D:=QA hs2;have C:=QA (F.out.trans hk2);have A:=QA (AD hk2 HX.out hxb (by decide));clear hs2 hk2;have W:=AA A.out 1 (.string ⟨z.text.toArray⟩) rfl;go_wp2_with fail;refine AF [5] (by kernel_rfl) (by kernel_rfl) ?_;simp only[Ae,QF,QN,QE,QL,Nat.sub_zero,Nat.reduceSub,ZB]
  repeat (go_big_quiet_step (fail))
  refine wpQuiet_nil ?_;rintro _ ⟨nq,rfl⟩;go_wp2_with fail;refine ((D.out.drewN nq).str z.text (by rw[Vl.need_out];omega)).mono ?_;rintro r w3 ⟨⟨m,rfl⟩,hs3,hk3⟩;have B:=QA hs3;have o:Hid (OK8 b w w3):=QA (C.out.trans hk3);clear hs3 hk3;go_wp2;refine wpQuiet_nil ?_;rintro _ ⟨nr,rfl⟩;go_wp2;exact HQ.out _ _ (by rw[G.out];exact B.out.drewN nr) o.out
 by_cases h1:z.text=Rd.sTrue
 ·have U:(z.text==[116,114,117,101])=true:=by rw[beq_iff_eq];exact h1
  have E:Hid (false=L.1):=QA (by rw[H.out];simp[h1]);clear h1;go_wp2_with fail;clear U R P K M O;refine (HS.out.need false).mono ?_;rintro r w2 ⟨rfl,hs2,hk2⟩;rw[E.out]at hs2;have D:=QA hs2;have C:=QA (F.out.trans hk2);have A:=QA (AD hk2 HX.out hxb (by decide));clear hs2 hk2;have W:=AA A.out 1 (.string ⟨z.text.toArray⟩) rfl;go_wp2_with fail;refine AF [5] (by kernel_rfl) (by kernel_rfl) ?_;simp only[Ae,QF,QN,QE,QL,Nat.sub_zero,Nat.reduceSub,ZB]
  repeat (go_big_quiet_step (fail))
  refine wpQuiet_nil ?_;rintro _ ⟨nq,rfl⟩;go_wp2_with fail;refine ((D.out.drewN nq).str z.text (by rw[Vl.need_out];omega)).mono ?_;rintro r w3 ⟨⟨m,rfl⟩,hs3,hk3⟩;have B:=QA hs3;have o:Hid (OK8 b w w3):=QA (C.out.trans hk3);clear hs3 hk3;go_wp2;refine wpQuiet_nil ?_;rintro _ ⟨nr,rfl⟩;go_wp2;exact HQ.out _ _ (by rw[G.out];exact B.out.drewN nr) o.out
 have U:(z.text==[116,114,117,101])=false:=by rw[beq_eq_false_iff_ne];exact h1
 by_cases h2:z.text=Rd.sFalse
 ·have S:(z.text==[102,97,108,115,101])=true:=by rw[beq_iff_eq];exact h2
  have E:Hid (false=L.1):=QA (by rw[H.out];simp[h2]);clear h2;go_wp2_with fail;clear S R P K M O;refine (HS.out.need false).mono ?_;rintro r w2 ⟨rfl,hs2,hk2⟩;rw[E.out]at hs2;have D:=QA hs2;have C:=QA (F.out.trans hk2);have A:=QA (AD hk2 HX.out hxb (by decide));clear hs2 hk2;have W:=AA A.out 1 (.string ⟨z.text.toArray⟩) rfl;go_wp2_with fail;refine AF [5] (by kernel_rfl) (by kernel_rfl) ?_;simp only[Ae,QF,QN,QE,QL,Nat.sub_zero,Nat.reduceSub,ZB]
  repeat (go_big_quiet_step (fail))
  refine wpQuiet_nil ?_;rintro _ ⟨nq,rfl⟩;go_wp2_with fail;refine ((D.out.drewN nq).str z.text (by rw[Vl.need_out];omega)).mono ?_;rintro r w3 ⟨⟨m,rfl⟩,hs3,hk3⟩;have B:=QA hs3;have o:Hid (OK8 b w w3):=QA (C.out.trans hk3);clear hs3 hk3;go_wp2;refine wpQuiet_nil ?_;rintro _ ⟨nr,rfl⟩;go_wp2;exact HQ.out _ _ (by rw[G.out];exact B.out.drewN nr) o.out
 have S:(z.text==[102,97,108,115,101])=false:=by rw[beq_eq_false_iff_ne];exact h2
 obtain⟨ok,J⟩:∃ok,ok=(!(z.text==[110,117,108,108])):=⟨_,rfl⟩
 have E:Hid (ok=L.1):=QA (by
  rw[J,H.out,decide_eq_true h1,decide_eq_true h2,show (z.text==[110,117,108,108])=decide (z.text=Rd.sNull) by (rw[Bool.eq_iff_iff,beq_iff_eq,decide_eq_true_iff];exact Iff.rfl)];by_cases h3:z.text=Rd.sNull<;>simp[h3])
 clear h1 h2;go_wp2_with fail;rw[← J];clear J U S R P K M O;refine (HS.out.need ok).mono ?_;rintro r w2 ⟨rfl,hs2,hk2⟩;rw[E.out]at hs2;have D:=QA hs2;have C:=QA (F.out.trans hk2);have A:=QA (AD hk2 HX.out hxb (by decide));clear hs2 hk2;have W:=AA A.out 1 (.string ⟨z.text.toArray⟩) rfl;go_wp2_with fail;refine AF [5] (by kernel_rfl) (by kernel_rfl) ?_;simp only[Ae,QF,QN,QE,QL,Nat.sub_zero,Nat.reduceSub,ZB]
 repeat (go_big_quiet_step (fail))
 refine wpQuiet_nil ?_;rintro _ ⟨nq,rfl⟩;go_wp2_with fail;refine ((D.out.drewN nq).str z.text (by rw[Vl.need_out];omega)).mono ?_;rintro r w3 ⟨⟨m,rfl⟩,hs3,hk3⟩;have B:=QA hs3;have o:Hid (OK8 b w w3):=QA (C.out.trans hk3);clear hs3 hk3;go_wp2;refine wpQuiet_nil ?_;rintro _ ⟨nr,rfl⟩;go_wp2;exact HQ.out _ _ (by rw[G.out];exact B.out.drewN nr) o.out
end Go.Proofs.YtefjgpkpplkkgaaGreatDoor
