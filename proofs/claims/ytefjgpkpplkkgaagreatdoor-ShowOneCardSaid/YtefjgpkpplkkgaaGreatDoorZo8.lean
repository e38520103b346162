/-
  A region that draws its order, walked in the text's order: some operations may write; Bq them calls may lay new blocks. strings.Builder: copyCheck, WriteByte, WriteString, WriteRune at this translation (the shelf's own contracts do not fit here: copyCheck's panic is struck from the translation). After the shelf's BuilderK and BuilderRune, turned to this program. A scanner's method that builds a text: what its world is like. The lexer's 'text', walked. The lexer's 'indent', walked. The shower of values: what it is in memory; its builder, its need, walked. The writer of documents: what it is in memory; its builder, its need, walked.
-/
import Derived.Test.YtefjgpkpplkkgaaGreatDoorZo7
import Derived.Test.YtefjgpkpplkkgaaGreatDoorZo4
import Derived.Test.YtefjgpkpplkkgaaGreatDoorZo6
import Derived.Shelf.Strings.BuilderRune
import Derived.Outline
import Derived.Deep.LoopGhost
import Derived.Test.YtefjgpkpplkkgaaGreatDoorZo1
import Derived.Shelf.Strings.SlTrimAscii
open Go.Lib renaming hid → QA
open List renaming length_append → QU
open Nat renaming le_refl → QM, lt_or_ge → ZZ
namespace Go.Proofs.YtefjgpkpplkkgaaGreatDoor
set_option maxRecDepth 100000
set_option maxHeartbeats 4000000
set_option linter.unusedSimpArgs false
set_option linter.unusedVariables false
open Go Go.RowKit
section
variable {P : Program} {ops : Array Oper} {md : Region.Mode} {C : World → Prop}
def D9 (P:Program) (l:List Oper) (Q:Exit→Act→World→Prop):List Nat→Nat→Act→World→Prop
 | [],k,a,w=>wpQuiet P l.toArray (λw'=>∃x:Later w,w'=x.1) (λa'=>∀w',(∃x:Later w,w'=x.1)→Q .normal a' w') (l.drop k) a
 | n::ns,k,a,w=>wpQuiet P l.toArray (λw'=>∃x:Later w,w'=x.1) (λa'=>∀w',(∃x:Later w,w'=x.1) →
   wpList P l.toArray (Exit.then (D9 P l Q ns (n+1)) Q) ((l.drop n).take 1) a' w') ((l.drop k).take (n-k)) a
theorem DC {l:List Oper} {Q:Exit→Act→World→Prop} (hsel:Region.noSelect l.toArray=true) (hb:KC md l.toArray=true) :
  ∀(ns:List Nat) (k:Nat) (a:Act) (w:World),Hu md l.toArray ns k=true→k≤l.length→D9 P l Q ns k a w→∀w',(∃x:Later w,w'=x.1) →
   wpAny P md l.toArray Q (l.length-k) (An l.length k) a w'
 | [],k,a,w,hB,hk,h,w',hw'=>by
  refine wpAny_of_quiet (C:=λw'=>∃x:Later w,w'=x.1) (Q:=λa'=>∀w',(∃x:Later w,w'=x.1)→Q .normal a' w') (λ_ w' hw' h=>h w' hw') _ _ _ _ hw' ?_;have U:(l.drop k).length=l.length-k:=by simp
  have:=wpAnyQ_lex (P:=P) (C:=λw'=>∃x:Later w,w'=x.1) (md:=md) (Q:=λa'=>∀w',(∃x:Later w,w'=x.1)→Q .normal a' w') hsel (l.drop k) k (An l.length k) a (λj=>by simp[List.getElem?_drop]) (by
   rw[U];simpa [Hu] using hB) h
  rwa [U]at this
 | n::ns,k,a,w,hB,hk,h,w',hw'=>by
  simp only[Hu,Bool.and_eq_true,decide_eq_true_eq,List.size_toArray]at hB;obtain⟨⟨⟨⟨⟨M,G⟩,D⟩,W⟩,V⟩,T⟩:=hB;have A:((l.drop k).take (n-k)).length=n-k:=by simp;omega
  have H:=DR (P:=P) (C:=λw'=>∃x:Later w,w'=x.1) (md:=md) hsel D (by simpa using G) (by
    intro j hj;rw[List.size_toArray,V]at hj;simp at hj;omega) ((l.drop k).take (n-k)) k a (λj hj=>by
    rw[A]at hj;simp[List.getElem?_drop,hj]) (by rw[A];omega)
   (by exact Fu hb M) (by rw[A];simpa using W) h
  rw[A]at H;have:=DY (P:=P) (C:=λw'=>∃x:Later w,w'=x.1) (md:=md) (Q':=Q) (g:=l.length-n) (λlisted a' w1 hw1 hL=>by
   obtain⟨O,S⟩:=hL;rw[O];have o:=S w1 hw1;rw[show l.length-n=(l.length-(n+1))+1 by omega];have F:Region.ready md l.toArray (An l.toArray.size n)=[n]:=by simpa using V
   refine⟨λh0=>(by rw[F]at h0;cases h0),λi hi=>?_⟩;rw[F]at hi;have L:i=n:=by simpa using hi
   subst L;have E:l.toArray[i]?=some l[i]:=by simp[G]
   have B:(l.drop i).take 1=[l[i]]:=by rw[List.drop_eq_getElem_cons G,List.take_succ_cons,List.take_zero]
   rw[B]at o;unfold wpOp;simp only[E];rw[List.size_toArray,Cw _ _ G];have K:∀a2 w2,D9 P l Q ns (i+1) a2 w2→wpAny P md l.toArray Q (l.length-(i+1)) (An l.length (i+1)) a2 w2:=λa2 w2 h2 =>
    DC hsel hb ns (i+1) a2 w2 T G h2 w2 ⟨Later.here w2,rfl⟩
   unfold wpList at o;split
   ·rename_i hwant;rw[if_pos hwant]at o;refine o.imp (λD=>?_) (λD=>⟨D.1,?_⟩)
    ·have N:=Oper.wp_mono (Q:=Exit.then (D9 P l Q ns (i+1)) Q) (K':=wpAny P md l.toArray Q (l.length-(i+1)) (An l.length (i+1))) (λa w h=>K a w h) D;unfold Oper.wp at *
     generalize (execOp a'.eval l[i]).run P w1=r at *
     cases r with
     | ok nx w2 =>
      cases nx with
      | enter f args =>
       exact Calls.mono N λe w3 h3=>by cases e<;>first|exact h3|(obtain⟨J,I,R⟩:=h3;exact⟨J,I,R⟩)
      | _=>exact N
     | halt x w2=>cases x<;>exact N
    ·obtain⟨J,I,R⟩:=D.2;exact⟨J,I,R⟩
   ·rename_i hwant;rw[if_neg hwant]at o;exact K _ _ o) _ _ _ _ hw' H
  rw[show n-k+(l.length-n)=l.length-k by omega]at this;exact this
theorem EZ {id:Nat} {Q:Exit→Act→World→Prop} {a:Act} {w:World} {l:List Oper} (ns:List Nat) (hm:P.follows .mixedOrders=true) (hB:Jv .any l.toArray ns=true)
  (h:D9 P l Q ns 0 a w):(Code.region id l.toArray true).wp P Q a w:=by
 simp only[Jv,Bool.and_eq_true]at hB;obtain⟨⟨o,A⟩,hB⟩:=hB;refine wp_region_any hm ?_;rw[FF];have:=DC (P:=P) (md:=.any) (Q:=Q) o A ns 0 a w hB (Nat.zero_le _) h { w with drawn:=w.drawn+1 } ⟨⟨{ w with drawn:=w.drawn+1 },⟨rfl,rfl,rfl,QM _,λ_ _=>rfl⟩⟩,rfl⟩
 simpa using this
end
abbrev IsB (b:Nat) (l:List UInt8) (w:World):Prop:=Lib.IsBuilderF 65 5 b b (Lib.byteCells l) w
theorem Gj:(Tryz.prog.info? 65).map (·.size)=some 2:=by kernel_rfl
theorem PS:liesAt Tryz.prog Tryz.prog.depth 65 (2 / Tryz.prog.cellsOf 65) 0 65 1=true:=by kernel_rfl
theorem Ch:(Tryz.prog.info? 5).map (λi=>(i.zero,i.size,i.bytes))=some (some (.int .u8 0),1,1):=by kernel_rfl
theorem B9 (b:Nat) (w:World) (h0:w.cell? ⟨b,0,none⟩=some (.pointer (some ⟨b,0,none⟩))) :
  Calls Tryz.prog 160 #[.pointer (some ⟨b,0,none⟩)] w λe w'=>e=.returned (.tuple #[])∧w'=w:=by
 obtain⟨j,o,_⟩:=Option.map_eq_some_iff.1 Gj;go_enter Tryz.func160,Tryz.ntmps160;go_wp2;rw[Lib.run_neq_ptr_same w _ Tryz.underlying62 o];go_wp2;go_end0;exact⟨rfl,rfl⟩
theorem EU (b:Nat) (w:World) (h0:w.cell? ⟨b,0,none⟩=some (.pointer none)) (hsh:w.shape? b=some (65,2)) (hfz:w.frozen? ⟨b,0,none⟩=false) :
  Calls Tryz.prog 160 #[.pointer (some ⟨b,0,none⟩)] w λe w'=>e=.returned (.tuple #[])∧w'=w.setCell ⟨b,0,none⟩ (.pointer (some ⟨b,0,none⟩)):=by
 obtain⟨j,A,o⟩:=Option.map_eq_some_iff.1 Gj;go_enter Tryz.func160,Tryz.ntmps160;go_wp2;rw[Lib.run_to_unsafe w ⟨b,0,none⟩ Tryz.underlying62 Tryz.underlying236 A (by rw[o];decide) hsh (Nat.zero_lt_succ 1)];simp only[Result.andThen];rw[Oper.upon_value];go_wp2;rw[run_callFunc_extern Tryz.func198 (by kernel_rfl) (by kernel_rfl) (by kernel_rfl) (e:=Extern.AbiNoEscape.same) (by kernel_rfl)];rw[Lib.run_noEscape];simp only[Result.andThen];rw[Oper.upon_value];go_wp2;rw[Lib.run_from_unsafe w ⟨b,0,none⟩ Tryz.underlying236 Tryz.underlying62 A hsh PS];simp only[Result.andThen];rw[Oper.upon_value];go_wp2;go_end0;exact⟨rfl,rfl⟩
theorem Cg (B b:Nat) (bs:List Value) (w:World) (h:Lib.IsBuilderF 65 5 B b bs w) :
  Calls Tryz.prog 160 #[.pointer (some ⟨b,0,none⟩)] w λe w'=>e=.returned (.tuple #[])∧(Lib.BuilderAtF 65 5 B b (.pointer (some ⟨b,0,none⟩)) bs w'∧Below B w w'∧Lib.OthersKept 5 (some b) w w'):=by
 rcases h with h|h
 ·refine (EU b w h.cell0 h.shape h.frozen0).mono ?_;rintro e w' ⟨rfl,rfl⟩;exact⟨rfl,h.used _,(Below.refl B w).setCell (p:=⟨b,0,none⟩) h.1 _,(Lib.OthersKept.refl _ _ w).setCell ⟨b,0,none⟩ rfl _⟩
 ·refine (B9 b w h.cell0).mono ?_;rintro e w' ⟨rfl,rfl⟩;exact⟨rfl,h,Below.refl B _,Lib.OthersKept.refl _ _ _⟩
theorem EQ (B b:Nat) (bs:List Value) (c:Int) (w:World) (h:Lib.IsBuilderF 65 5 B b bs w) (hlen:bs.length+1≤140737488355328) (hBw:B≤w.heap.size) :
  Calls Tryz.prog 162 #[.pointer (some ⟨b,0,none⟩),.int .u8 c] w λe w'=>e=.returned .nilIface∧(Lib.BuilderAtF 65 5 B b (.pointer (some ⟨b,0,none⟩)) (bs++[.int .u8 c]) w'∧Below B w w'∧Lib.OthersKept 5 (some b) w w'):=by
 obtain⟨J,hi,I,F,H⟩:=info_parts Ch;go_enter Tryz.func162,Tryz.ntmps162;go_wp2_with (go_at_call 160;refine (Cg B b bs _ h).mono ?_);rintro e w1 ⟨rfl,h1,hb1,hk1⟩;obtain⟨hB,v,A,o,G⟩:=h1;have c0:w1.cell? ⟨b,0,none⟩=some (.pointer (some ⟨b,0,none⟩)):=by rw[Lib.cell_of_heap A];rfl
 have c1:w1.cell? ⟨b,1,none⟩=some v:=by rw[Lib.cell_of_heap A];rfl
 go_wp2_with (at_builtin;refine wpList_append_ownF _ rfl _ _ 63 rfl B 5 J (.int .u8 0) 1 1 Tryz.underlying63 hi I F H rfl (by decide) _ _ _ rfl (o.alloc _) ⟨w1.heap.size,0,none⟩ 1 1 [.int .u8 c] rfl rfl ?c1 ?c2 ?c3 ?c4 ?c5 ?_)
 case c1 =>
  intro j u hj
  match j,hj with
  | 0,hj=>simp at hj;subst hj;simp[Addr.add]
 case c2=>intro u hu;simp at hu;subst hu;rfl
 case c3=>unfold maxLen;omega
 case c4=>omega
 case c5=>have:=hb1.size;simp;omega
 intro v' w2 hown' hgrow _;have E:b<w1.heap.size:=by
  rcases ZZ b w1.heap.size with h'|h'
  ·exact h'
  ·simp[Array.getElem?_eq_none h']at A
 have D:w2.heap[b]?=some (.cells #[.pointer (some ⟨b,0,none⟩),v] 65 (0,0)):=by
  rw[hgrow.block b (by simp;omega) (λe=>G e.symm),Lib.alloc_old w1 _ b E];exact A
 have K:w2.cell? ⟨b,0,none⟩=some (.pointer (some ⟨b,0,none⟩)):=by rw[Lib.cell_of_heap D];rfl
 have L:w2.cell? ⟨b,1,none⟩=some v:=by rw[Lib.cell_of_heap D];rfl
 have f1:w2.frozen? ⟨b,1,none⟩=false:=Lib.frozen_of_heap D 1;obtain⟨g,C,rfl⟩:∃g C,v'=.slice (some ⟨g,0,none⟩) (bs.length+1) C:=by
  rcases hown'.2 with⟨_,h0⟩|⟨g,C,cur,fz,hv,_⟩
  ·omega
  ·exact⟨g,C,hv⟩
 go_wp2;go_ret;refine⟨rfl,?_,?_,((hk1.alloc _).grown hgrow (Lib.ownsRowF_kind (o.alloc _))).setCell ⟨b,1,none⟩ rfl _⟩
 ·exact Lib.BuilderAtF.put (T:=65) (e:=5) hB D (bs':=bs++[.int .u8 c]) (by simpa using hown') (by decide)
 ·exact ((hb1.alloc (by have:=hb1.size;omega) _).grown hgrow (by have:=hb1.size;simp;omega) (λk hk=>(o.lt k hk).1)).setCell (p:=⟨b,1,none⟩) hB _
theorem C8 (B b:Nat) (bs:List Value) (s:ByteArray) (w:World) (h:Lib.IsBuilderF 65 5 B b bs w) (hlen:bs.length+s.size≤140737488355328) (hBw:B≤w.heap.size) :
  Calls Tryz.prog 88 #[.pointer (some ⟨b,0,none⟩),.string s] w λe w'=>e=.returned (.tuple #[.int .i64 s.size,.nilIface])∧(Lib.BuilderAtF 65 5 B b (.pointer (some ⟨b,0,none⟩)) (bs++Lib.strCells s) w'∧Below B w w'∧Lib.OthersKept 5 (some b) w w'):=by
 obtain⟨L,hi,I,F,H⟩:=info_parts Ch;go_enter Tryz.func88,Tryz.ntmps88;go_wp2_with (go_at_call 160;refine (Cg B b bs _ h).mono ?_);rintro e w1 ⟨rfl,h1,hb1,hk1⟩;obtain⟨hB,v,A,o,G⟩:=h1;have c0:w1.cell? ⟨b,0,none⟩=some (.pointer (some ⟨b,0,none⟩)):=by rw[Lib.cell_of_heap A];rfl
 have c1:w1.cell? ⟨b,1,none⟩=some v:=by rw[Lib.cell_of_heap A];rfl
 go_wp2_with (at_builtin;refine Lib.wpList_append_own_stringF _ rfl _ _ 63 9 rfl B 5 L Tryz.underlying63 Tryz.underlying9 hi I F H _ _ _ rfl o s rfl ?c3 ?c4 ?c5 ?_)
 case c3=>unfold maxLen;omega
 case c4=>omega
 case c5=>have:=hb1.size;omega
 intro v' w2 hown' hgrow _;have E:b<w1.heap.size:=by
  rcases ZZ b w1.heap.size with h'|h'
  ·exact h'
  ·simp[Array.getElem?_eq_none h']at A
 have C:w2.heap[b]?=some (.cells #[.pointer (some ⟨b,0,none⟩),v] 65 (0,0)):=by
  rw[hgrow.block b E (λe=>G e.symm)];exact A
 have M:w2.cell? ⟨b,0,none⟩=some (.pointer (some ⟨b,0,none⟩)):=by rw[Lib.cell_of_heap C];rfl
 have N:w2.cell? ⟨b,1,none⟩=some v:=by rw[Lib.cell_of_heap C];rfl
 have f1:w2.frozen? ⟨b,1,none⟩=false:=Lib.frozen_of_heap C 1;obtain⟨J,K,D,rfl⟩:∃J K D,v'=.slice J K D:=by
  rcases hown'.2 with⟨hv,_⟩|⟨g,D,cur,fz,hv,_⟩
  ·exact⟨_,_,_,hv⟩
  ·exact⟨_,_,_,hv⟩
 go_wp2;go_ret2;refine⟨rfl,?_,?_,(hk1.grown hgrow (Lib.ownsRowF_kind o)).setCell ⟨b,1,none⟩ rfl _⟩
 ·exact Lib.BuilderAtF.put (T:=65) (e:=5) hB C (bs':=bs++Lib.strCells s) (by simpa [Lib.strCells_length] using hown') (by decide)
 ·exact (hb1.grown hgrow (by have:=hb1.size;omega) (λk hk=>(o.lt k hk).1)).setCell (p:=⟨b,1,none⟩) hB _
theorem ID (B b:Nat) (bs:List Value) (r:Int) (hr0:-2147483648≤r) (hr1:r≤2147483647) (w:World) (h:Lib.IsBuilderF 65 5 B b bs w) (hlen:bs.length+4≤140737488355328) (hBw:B≤w.heap.size) :
  Calls Tryz.prog 227 #[.pointer (some ⟨b,0,none⟩),.int .i32 r] w λe w'=>e=.returned (.tuple #[.int .i64 (Lib.runeCells r).length,.nilIface])∧(Lib.BuilderAtF 65 5 B b (.pointer (some ⟨b,0,none⟩)) (bs++Lib.runeCells r) w'∧Below B w w'∧Lib.OthersKept 5 (some b) w w'):=by
 have J:=Lib.runeCells_le r;go_enter Tryz.func227,Tryz.ntmps227;go_wp2_with (go_at_call 160;refine (Cg B b bs _ h).mono ?_);rintro e w1 ⟨rfl,h1,hb1,hk1⟩;obtain⟨hB,v,E,C,I⟩:=h1;obtain⟨G,D,rfl⟩:∃G D,v=.slice G bs.length D:=by
  rcases C.2 with⟨hv,h0⟩|⟨g,D,cur,fz,hv,_⟩
  ·exact⟨none,0,by rw[hv,h0]⟩
  ·exact⟨_,_,hv⟩
 have c0:w1.cell? ⟨b,0,none⟩=some (.pointer (some ⟨b,0,none⟩)):=by rw[Lib.cell_of_heap E];rfl
 have c1:w1.cell? ⟨b,1,none⟩=some (.slice G bs.length D):=by rw[Lib.cell_of_heap E];rfl
 go_wp2_with (go_at_call 240;refine (Tryz.utf8_AppendRune_row B _ bs.length bs r hr0 hr1 _ C hlen (by have:=hb1.size;omega)).mono ?_);rintro e w2 ⟨v',rfl,hown',o,hgrow⟩;have H:b<w1.heap.size:=by
  rcases ZZ b w1.heap.size with h'|h'
  ·exact h'
  ·simp[Array.getElem?_eq_none h']at E
 have F:w2.heap[b]?=some (.cells #[.pointer (some ⟨b,0,none⟩),.slice G bs.length D] 65 (0,0)):=by
  rw[hgrow.block b (by simp;omega) (λe=>I e.symm),Lib.alloc_old w1 _ b H];exact E
 have K:w2.cell? ⟨b,0,none⟩=some (.pointer (some ⟨b,0,none⟩)):=by rw[Lib.cell_of_heap F];rfl
 have L:w2.cell? ⟨b,1,none⟩=some (.slice G bs.length D):=by rw[Lib.cell_of_heap F];rfl
 have f1:w2.frozen? ⟨b,1,none⟩=false:=Lib.frozen_of_heap F 1;obtain⟨g,A,rfl⟩:∃g A,v'=.slice (some ⟨g,0,none⟩) (bs.length+(Lib.runeCells r).length) A:=by
  rcases hown'.2 with⟨_,h0⟩|⟨g,A,cur,fz,hv,_⟩
  ·omega
  ·exact⟨g,A,hv⟩
 go_wp2;go_ret2;refine⟨?_,?_,?_,((hk1.alloc _).grown hgrow (Lib.ownsRowF_kind (C.alloc _))).setCell ⟨b,1,none⟩ rfl _⟩
 ·have e:((bs.length:Int)+((Lib.runeCells r).length:Int)-(bs.length:Int))=((Lib.runeCells r).length:Int):=by omega
  simp[e]
 ·exact Lib.BuilderAtF.put (T:=65) (e:=5) hB F (bs':=bs++Lib.runeCells r) (by simpa using hown') (by decide)
 ·exact ((hb1.alloc (by have:=hb1.size;omega) _).grown hgrow (by have:=hb1.size;simp;omega) (λk hk=>(C.lt k hk).1)).setCell (p:=⟨b,1,none⟩) hB _
theorem Dk {w:World} {k:Nat} {o:Obj} (h:w.heap[k]?=some o):k<w.heap.size:=by
 rcases ZZ k w.heap.size with h'|h'
 ·exact h'
 ·simp[Array.getElem?_eq_none h']at h
theorem FH {T e:TypeId} {B b:Nat} {bs:List Value} {w w':World} (h:Lib.IsBuilderF T e B b bs w) (hk:∀k,B≤k→k<w.heap.size→w'.heap[k]?=w.heap[k]?):Lib.IsBuilderF T e B b bs w':=by
 have o:∀p,Lib.BuilderAtF T e B b p bs w→Lib.BuilderAtF T e B b p bs w':=by
  rintro p ⟨hB,v,hb,⟨hl,ho⟩,hne⟩;refine⟨hB,v,by rw[hk b hB (Dk hb)];exact hb,⟨hl,?_⟩,hne⟩;rcases ho with ho|⟨g,cap,cur,fz,h1,h2,h3,h4⟩
  ·exact .inl ho
  ·exact .inr ⟨g,cap,cur,fz,h1,h2,by rw[hk g h2 (Dk h3)];exact h3,h4⟩
 exact h.imp (o _) (o _)
structure St (w0:World) (bx bo:Nat) (s:ByteArray) (b:Nat) (out:List UInt8) (w:World):Prop where
 scan:AO w bx s b
 bld:IsB bo out w
 fr:Fr bx w0 w
 env:Env w
 lo:bx<bo
 hi:bo=w0.heap.size
 three:3≤bx
theorem St.le {w0:World} {bx bo:Nat} {s:ByteArray} {b:Nat} {out:List UInt8} {w:World} (h:St w0 bx bo s b out w):bo≤w.heap.size:=by
 have:=h.fr.size;rw[h.hi];exact this
theorem St.drewN {w0:World} {bx bo:Nat} {s:ByteArray} {b:Nat} {out:List UInt8} {w:World} (h:St w0 bx bo s b out w) (n:Nat):St w0 bx bo s b out (w.drewN n) :=
 ⟨h.scan.drewN n,FH h.bld (λ_ _ _=>rfl),h.fr.drewN n,h.env.drewN n,h.lo,h.hi,h.three⟩
theorem St.put {w0:World} {bx bo:Nat} {s:ByteArray} {b:Nat} {out:List UInt8} {w:World} (h:St w0 bx bo s b out w) (n:Nat):St w0 bx bo s n out (w.setCell ⟨bx,1,none⟩ (.int .i64 n)) :=
 ⟨h.scan.put n,FH h.bld (λk hk _=>by have:=h.lo;exact Below.heap_setCell _ _ _ _ (λe=>by simp at e;omega)),h.fr.set 1 _,h.env.fr (Fr.set (But.refl _ _) 1 _) h.three,h.lo,h.hi,h.three⟩
theorem St.below {w0:World} {bx bo:Nat} {s:ByteArray} {b:Nat} {out:List UInt8} {w w':World} (h:St w0 bx bo s b out w) (hb:Below w.heap.size w w'):St w0 bx bo s b out w' :=
 ⟨h.scan.below hb,FH h.bld (λk _ hk=>hb.block k hk),h.fr.trans (But.of_below hb),h.env.below hb,h.lo,h.hi,h.three⟩
theorem St.wrote {w0:World} {bx bo:Nat} {s:ByteArray} {b:Nat} {out out':List UInt8} {w w':World} (h:St w0 bx bo s b out w) (hB:IsB bo out' w') (hb:Below bo w w'):St w0 bx bo s b out' w':=by
 have C:Fr bx w0 w':=⟨hb.os.trans h.fr.os,hb.tape.trans h.fr.tape,hb.output.trans h.fr.output,Nat.le_trans h.fr.size hb.size,
  λk hk hx=>(hb.block k (by rw[h.hi];exact hk)).trans (h.fr.block k hk hx)⟩
 have B:AO w' bx s b:=by have:=h.scan;unfold AO at *;rw[hb.block bx h.lo];exact this
 have A:Env w':=by
  have e:=h.env;have F:=h.lo;have G:=h.three;obtain⟨⟨D,o⟩,m,E⟩:=e;exact⟨⟨λc hc=>by rw[hb.cell (by simp;omega)];exact D c hc,λi hi=>⟨by rw[hb.cell (by simp;omega)];exact (o i hi).1,by rw[hb.cell (by simp;omega)];exact (o i hi).2⟩⟩,m,by rw[hb.cell (by simp;omega)];exact E⟩
 exact⟨B,hB,C,A,h.lo,h.hi,h.three⟩
theorem St.start {w0 w:World} {bx:Nat} {s:ByteArray} {b:Nat} (hS:AO w bx s b) (hF:Fr bx w0 w) (hE:Env w) (hsz:w.heap.size=w0.heap.size) (h3:3≤bx) :
  St w0 bx w.heap.size s b [] (w.alloc (.cells #[.pointer none,.slice none 0 0] 65)):=by
 have o:=hS.lt;refine⟨hS.below ((Below.refl _ _).alloc (QM _) _),.inl ⟨QM _,.slice none 0 0,?_,⟨rfl,.inl ⟨rfl,rfl⟩⟩,by simp[Value.ownBlock]⟩,hF.alloc _,hE.below ((Below.refl _ _).alloc (QM _) _),o,hsz,h3⟩;show (w.heap.push _)[w.heap.size]?=_;simp
theorem St.rune {w0:World} {bx bo:Nat} {s:ByteArray} {b:Nat} {out:List UInt8} {w:World} (h:St w0 bx bo s b out w) (hl:out.length≤5000) (r:Nat) (hr:r<55296∨(57343<r∧r≤1114111)) :
  Calls Tryz.prog 227 #[.pointer (some ⟨bo,0,none⟩),.int .i32 r] w λe w'=>(∃n:Int,e=.returned (.tuple #[.int .i64 n,.nilIface]))∧St w0 bx bo s b (out++Lx.enc r) w':=by
 refine (ID bo bo _ r (by omega) (by omega) w h.bld (by rw[Lib.byteCells_length];omega) h.le).mono ?_;rintro e w' ⟨rfl,h1,h2,_⟩;refine⟨⟨_,rfl⟩,h.wrote (.inr ?_) h2⟩;rw[← Lx.enc_lib r hr,Lib.byteCells_append,Lib.byteCells_encodeRune];exact h1
theorem St.byte {w0:World} {bx bo:Nat} {s:ByteArray} {b:Nat} {out:List UInt8} {w:World} (h:St w0 bx bo s b out w) (hl:out.length≤5000) (c:UInt8) :
  Calls Tryz.prog 162 #[.pointer (some ⟨bo,0,none⟩),.int .u8 c.toNat] w λe w'=>e=.returned .nilIface∧St w0 bx bo s b (out++[c]) w':=by
 refine (EQ bo bo _ c.toNat w h.bld (by rw[Lib.byteCells_length];omega) h.le).mono ?_;rintro e w' ⟨rfl,h1,h2,_⟩;refine⟨rfl,h.wrote (.inr ?_) h2⟩;rw[Lib.byteCells_append];exact h1
theorem St.str {w0:World} {bx bo:Nat} {s:ByteArray} {b:Nat} {out:List UInt8} {w:World} (h:St w0 bx bo s b out w) (hl:out.length≤5000) (l:List UInt8) (hl2:l.length≤5000) :
  Calls Tryz.prog 88 #[.pointer (some ⟨bo,0,none⟩),.string ⟨l.toArray⟩] w λe w'=>(∃n:Int,e=.returned (.tuple #[.int .i64 n,.nilIface]))∧St w0 bx bo s b (out++l) w':=by
 refine (C8 bo bo _ ⟨l.toArray⟩ w h.bld (by rw[Lib.byteCells_length];show _+l.length≤_;omega) h.le).mono ?_;rintro e w' ⟨rfl,h1,h2,_⟩;refine⟨⟨_,rfl⟩,h.wrote (.inr ?_) h2⟩;rw[Lib.byteCells_append];exact h1
theorem St.string {w0:World} {bx bo:Nat} {s:ByteArray} {b:Nat} {out:List UInt8} {w:World} (h:St w0 bx bo s b out w) :
  Calls Tryz.prog 33 #[.pointer (some ⟨bo,0,none⟩)] w λe w'=>e=.returned (.string ⟨out.toArray⟩)∧St w0 bx bo s b out w':=by
 refine (Tryz.Builder_String_any_k bo bo out w h.bld h.le).mono ?_;rintro e w' ⟨rfl,h1,h2,_⟩;exact⟨rfl,h.wrote h1 h2⟩
theorem Bo (s:ByteArray) (n:Nat):Lx.hd (sfx s n)=bt s n:=by
 have:=Hn s n 0;unfold Lx.hd;cases h:sfx s n with
 | nil=>rw[h]at this;simpa using this
 | cons c t=>rw[h]at this;simpa using this
theorem Oo (c:UInt8) (w:World) :
  Calls Tryz.prog 163 #[.string ⟨#[34,92,47,98,102,110,114,116,117]⟩,.int .u8 c.toNat] w λe w'=>e=.returned (.int .i64 (Lib.indexByte Lx.escs c))∧w'=w:=by
 refine (Tryz.strings_IndexByte _ _ _).mono ?_;rintro e w' ⟨rfl,rfl⟩;refine⟨?_,rfl⟩;have o:((c.toNat:Int)).toNat.toUInt8=c:=by simp
 rw[o];rfl
def NX (o:Option (List UInt8×List UInt8)) (bx:Nat) (s:ByteArray) (a:Nat) (w:World) (e:Ending) (w':World):Prop :=
 ∃b,a<b∧b≤s.size∧AO w' bx s b∧Fr bx w w'∧Env w' ∧
  ((∃m,o=some (m,sfx s b)∧m.length≤b∧e=.returned (.tuple #[.string ⟨m.toArray⟩,.bool true]))∨(o=none∧e=.returned (.tuple #[.string ⟨#[]⟩,.bool false])))
set_option maxHeartbeats 8000000 in
theorem MM (bx:Nat) (s:ByteArray) (a:Nat) (w:World) (hs:s.size≤4096) (hat:a<s.size) (h:AO w bx s a) (hE:Env w) (h3:3≤bx) :
  Calls Tryz.prog 208 #[.pointer (some ⟨bx,0,none⟩)] w (NX (Lx.text [] (sfx s (a+1))) bx s a w):=by
 have Q:St w bx w.heap.size s (a+1) [] ((w.setCell ⟨bx,1,none⟩ (.int .i64 ((a+1:Nat):Int))).alloc (.cells #[.pointer none,.slice none 0 0] 65)):=by
  have:=St.start (w0:=w) (h.put (a+1)) (Fr.set (But.refl _ _) 1 _) (hE.fr (Fr.set (But.refl _ _) 1 _) h3) (by simp[World.setCell]) h3
  simpa [World.setCell] using this
 have H0:=QA Q;have c0:=h.c0;have c1:=h.c1;have f1:=h.f1;clear Q h hE;go_enter Tryz.func208,Tryz.ntmps208;go_wp2;clear c0 c1 f1
 go_loopg [] (s.size-(a+1)) (λk wr=>∃b out,k=s.size-b∧a<b∧b≤s.size∧out.length≤b∧Lx.text out (sfx s b)=Lx.text [] (sfx s (a+1))∧St w bx w.heap.size s b out wr)
 case atStart=>exact⟨a+1,[],rfl,by omega,hat,by simp,rfl,H0.out⟩
 case round =>
  obtain⟨b,out,hk,av,D,aA,hd,C⟩:=hrel;have c0:=C.scan.c0;have c1:=C.scan.c1;have f1:=C.scan.f1;have H:=QA hd;have Y:=QA hk;clear hd hk H0;by_cases hlt:b<s.size
  ·have aw:(0:Int)≤(b:Int):=Int.natCast_nonneg _;have af:(b:Int)<s.size:=by omega
   have E:=QA (Ar s b hlt);have ax:=Lx.rune_le4 (sfx s b);have ae:=Lx.rune_len (sfx s b);have aB:=Lx.rune_max (sfx s b);rw[AR]at ae;rcases Lx.ctl_cases (Lx.rune (sfx s b)).1 (Lx.rune (sfx s b)).2 with⟨q1,q4⟩|⟨q1,q2,q3,q4⟩|⟨q1,q2,q3,q4⟩|⟨q1,q2,q4⟩
   ·have G:=QA q4;clear q4;go_wp2
    go_quiet (fail)
    go_wp2_with fail;refine (A0 bx s b _ hs D (C.scan.drewN _) (C.env.drewN _)).mono ?_;rintro e w1 ⟨rfl,A⟩;have o:=(C.drewN _).below A;clear A c0 c1 f1;have c0:=o.scan.c0;have c1:=o.scan.c1;have f1:=o.scan.f1;go_wp2_with fail;go_ret2;exact⟨b,by omega,D,o.scan,o.fr,o.env,.inr ⟨by rw[← H.out,E.out,Lx.text_bad (by rw[← E.out];exact G.out)],rfl⟩⟩
   ·have G:=QA q4;clear q4;go_wp2
    go_quiet (fail)
    go_wp2_with fail;refine (A0 bx s b _ hs D (C.scan.drewN _) (C.env.drewN _)).mono ?_;rintro e w1 ⟨rfl,A⟩;have o:=(C.drewN _).below A;clear A c0 c1 f1;have c0:=o.scan.c0;have c1:=o.scan.c1;have f1:=o.scan.f1;go_wp2_with fail;go_ret2;exact⟨b,by omega,D,o.scan,o.fr,o.env,.inr ⟨by rw[← H.out,E.out,Lx.text_bad (by rw[← E.out];exact G.out)],rfl⟩⟩
   all_goals
    have ad:(Lx.rune (sfx s b)).2≠0:=λh=>q4 (.inl h)
    have G:Hid (¬Lx.ctl (bt s b::sfx s (b+1))):=by rw[← E.out];exact q4
    obtain⟨K,M⟩:=Lx.rune_enc (sfx s b) ad;have V:=QA M;have Z:=QA K;clear q4 M K;by_cases h34:(Lx.rune (sfx s b)).1=34
    ·have e1:=eqT (n:=(Lx.rune (sfx s b)).1) (k:=34) (by omega);have O:=QA h34;clear h34;go_wp2
     go_quiet (fail)
     go_wp2_with fail;refine (A0 bx s b _ hs D (C.scan.drewN _) (C.env.drewN _)).mono ?_;rintro e w1 ⟨rfl,A⟩;have o:=(C.drewN _).below A;clear A c0 c1 f1;have c0:=o.scan.c0;have c1:=o.scan.c1;have f1:=o.scan.f1;go_wp2_with fail;refine (((o.put (b+1)).string)).mono ?_;rintro e w2 ⟨rfl,hS2⟩;go_wp2_with fail;go_ret2;refine⟨b+1,by omega,hlt,hS2.scan,hS2.fr,hS2.env,.inl ⟨out,?_,by omega,rfl⟩⟩;rw[← H.out,E.out,Lx.text_quote G.out (by rw[← E.out];exact O.out)]
    ·have e1:=eqF (n:=(Lx.rune (sfx s b)).1) (k:=34) (by omega);have O:=QA h34;clear h34;by_cases h92:(Lx.rune (sfx s b)).1=92
     ·have e2:=neF (n:=(Lx.rune (sfx s b)).1) (k:=92) (by omega);have F:=QA h92;clear h92;have hI:=Oo (bt s (b+1));have R:=Lx.esc_cases (bt s (b+1))
      generalize Lib.indexByte Lx.escs (bt s (b+1))=kk at hI R
      have W:=QA hI;clear hI;rcases R with⟨g1,g2,g3⟩|⟨g1,g4,g2,g3⟩|⟨g1,g2,g3⟩
      ·have N:=QA g2;have P:=QA g3;have e3:decide (kk<0)=true:=by simpa using g1
       clear g2 g3;go_wp2
       go_quiet (fail)
       go_wp2_with fail;refine (A0 bx s b _ hs D (C.scan.drewN _) (C.env.drewN _)).mono ?_;rintro e w1 ⟨rfl,A⟩;have o:=(C.drewN _).below A;clear A c0 c1 f1;have c0:=o.scan.c0;have c1:=o.scan.c1;have f1:=o.scan.f1;go_wp2_with fail;refine (BM bx s b _ hs D o.scan).mono ?_;rintro e w2 ⟨rfl,n2,rfl⟩;go_wp2_with fail;refine (W.out _).mono ?_;rintro e w2 ⟨rfl,hw2⟩;subst hw2;go_wp2_with fail;go_ret2;exact⟨b,by omega,D,o.scan.drewN _,o.fr.drewN _,o.env.drewN _,.inr ⟨by rw[← H.out,E.out,Lx.text_noesc G.out (by rw[← E.out];exact F.out) (by rw[Bo];exact N.out) (by rw[Bo];exact P.out)],rfl⟩⟩
      ·have N:=QA g2;have P:=QA g3;have e3:decide (kk<0)=false:=by simp;omega
       have e4:decide (kk<8)=true:=by simp;omega
       have e5:=eqF (n:=(bt s (b+1)).toNat) (k:=0) (by omega);have A:b+1<s.size:=by
        rcases ZZ (b+1) s.size with h'|h'
        ·exact h'
        ·rw[bt_end _ _ h']at g3;exact absurd rfl g3
       clear g2 g3;go_wp2
       go_quiet (fail)
       go_wp2_with fail;refine (A0 bx s b _ hs D (C.scan.drewN _) (C.env.drewN _)).mono ?_;rintro e w1 ⟨rfl,A⟩;have o:=(C.drewN _).below A;clear A c0 c1 f1;have c0:=o.scan.c0;have c1:=o.scan.c1;have f1:=o.scan.f1;go_wp2_with fail;refine (BM bx s b _ hs D o.scan).mono ?_;rintro e w2 ⟨rfl,n2,rfl⟩;go_wp2_with fail;refine (W.out _).mono ?_;rintro e w2 ⟨rfl,hw2⟩;subst hw2;go_wp2_with fail;refine (BM bx s b _ hs D (o.scan.drewN _)).mono ?_;rintro e w2 ⟨rfl,n3,hw3⟩;have B:St w bx w.heap.size s b out w2:=by rw[hw3];exact (o.drewN _).drewN _
       clear hw3 c0 c1 f1 o;have c0:=B.scan.c0;have c1:=B.scan.c1;have f1:=B.scan.f1;go_wp2_with fail;refine (B.byte (by omega) (bt ⟨#[34,92,47,8,12,10,13,9]⟩ kk.toNat)).mono ?_;rintro e w4 ⟨rfl,hS4⟩;clear c0 c1 f1;have c0:=hS4.scan.c0;have c1:=hS4.scan.c1;have f1:=hS4.scan.f1;go_wp2;go_roundg (s.size-(b+2))
       case measure=>rw[Y.out];omega
       case rel =>
        refine⟨b+2,out++[bt ⟨#[34,92,47,8,12,10,13,9]⟩ kk.toNat],rfl,by omega,by omega,by simp;omega,?_,hS4.put _⟩;rw[← H.out,E.out,Lx.text_esc G.out (by rw[← E.out];exact F.out) (by rw[Bo];exact N.out),Aj];rfl
      ·have N:=QA g2;have P:=QA g3;have e3:decide (kk<0)=false:=by simp;omega
       have e4:decide (kk<8)=false:=by simp;omega
       have e5:=eqF (n:=(bt s (b+1)).toNat) (k:=0) (by omega);have A:b+1<s.size:=by
        rcases ZZ (b+1) s.size with h'|h'
        ·exact h'
        ·rw[bt_end _ _ h']at g3;exact absurd g3 (by decide)
       have an:(0:Int)≤(b:Int)+2:=by omega
       have aq:(b:Int)+2≤s.size:=by omega
       have ap:=Br s (b+2);have S:=Nc ⟨(sfx s (b+2)).toArray⟩;have U:(ByteArray.mk (sfx s (b+2)).toArray).size≤4096:=by
        show (sfx s (b+2)).length≤4096;rw[AR];omega
       have ab:(ByteArray.mk (sfx s (b+2)).toArray).data.toList=sfx s (b+2):=rfl;have J:Hid (∀w',Calls Tryz.prog 228 #[.string ⟨(sfx s (b+2)).toArray⟩] w' λe w''=>e=.returned (.int .i32 (Ev (Lx.hex (sfx s (b+2)))))∧w''=w'):=λw'=>S w' U
       have HP:=QA Bo;clear g2 g3 S U ab;have L:(Ev (Lx.hex (sfx s (b+2)))=-1∧Lx.hex (sfx s (b+2))=none)∨∃v:Nat,v<65536∧b+6≤s.size∧Ev (Lx.hex (sfx s (b+2)))=(v:Int)∧Lx.hex (sfx s (b+2))=some v:=by
        cases hh:Lx.hex (sfx s (b+2)) with
        | none=>exact .inl ⟨rfl,rfl⟩
        | some v =>
         have h1:=Lx.hexs_len 4 0 _ _ hh;rw[AR]at h1;exact .inr ⟨v,Lx.hex_lt hh,by omega,rfl,rfl⟩
       generalize Ev (Lx.hex (sfx s (b+2)))=hv at J L
       rcases L with⟨rfl,hx⟩|⟨v,hv1,hv2,rfl,hx⟩
       ·have X:=QA hx;clear hx;go_wp2
        go_quiet (fail)
        go_wp2_with fail;refine (A0 bx s b _ hs D (C.scan.drewN _) (C.env.drewN _)).mono ?_;rintro e w1 ⟨rfl,A⟩;have o:=(C.drewN _).below A;clear A c0 c1 f1;have c0:=o.scan.c0;have c1:=o.scan.c1;have f1:=o.scan.f1;go_wp2_with fail;refine (BM bx s b _ hs D o.scan).mono ?_;rintro e w2 ⟨rfl,n2,rfl⟩;go_wp2_with fail;refine (W.out _).mono ?_;rintro e w2 ⟨rfl,hw2⟩;subst hw2;go_wp2_with fail;refine (BM bx s b _ hs D (o.scan.drewN _)).mono ?_;rintro e w2 ⟨rfl,n3,hw3⟩;have B:St w bx w.heap.size s b out w2:=by rw[hw3];exact (o.drewN _).drewN _
        clear hw3 c0 c1 f1 o;have c0:=B.scan.c0;have c1:=B.scan.c1;have f1:=B.scan.f1;go_wp2
        go_quiet ((exact Calls.quiet_of_same (J.out _)))
        go_wp2;go_ret2;exact⟨b,by omega,D,B.scan.drewN _,B.fr.drewN _,B.env.drewN _,.inr ⟨by rw[← H.out,E.out,Lx.text_nohex G.out (by rw[← E.out];exact F.out) (by rw[Bo];exact N.out) (by rw[Bo];exact P.out) (by rw[Aj];exact X.out)],rfl⟩⟩
       ·have X:=QA hx;clear hx;have al:decide ((v:Int)<0)=false:=by simp
        by_cases hsur:55296≤v∧v<57344
        ·have s1:decide (55296≤(v:Int))=true:=by simp;omega
         have s2:decide ((v:Int)<57344)=true:=by simp;omega
         have I:=QA hsur;clear hsur;go_wp2
         go_quiet (fail)
         go_wp2_with fail;refine (A0 bx s b _ hs D (C.scan.drewN _) (C.env.drewN _)).mono ?_;rintro e w1 ⟨rfl,A⟩;have o:=(C.drewN _).below A;clear A c0 c1 f1;have c0:=o.scan.c0;have c1:=o.scan.c1;have f1:=o.scan.f1;go_wp2_with fail;refine (BM bx s b _ hs D o.scan).mono ?_;rintro e w2 ⟨rfl,n2,rfl⟩;go_wp2_with fail;refine (W.out _).mono ?_;rintro e w2 ⟨rfl,hw2⟩;subst hw2;go_wp2_with fail;refine (BM bx s b _ hs D (o.scan.drewN _)).mono ?_;rintro e w2 ⟨rfl,n3,hw3⟩;have B:St w bx w.heap.size s b out w2:=by rw[hw3];exact (o.drewN _).drewN _
         clear hw3 c0 c1 f1 o;have c0:=B.scan.c0;have c1:=B.scan.c1;have f1:=B.scan.f1;go_wp2
         go_quiet ((exact Calls.quiet_of_same (J.out _)))
         go_wp2;go_ret2;exact⟨b,by omega,D,B.scan.drewN _,B.fr.drewN _,B.env.drewN _,.inr ⟨by rw[← H.out,E.out,Lx.text_sur G.out (by rw[← E.out];exact F.out) (by rw[Bo];exact N.out) (by rw[Bo];exact P.out) (by rw[Aj];exact X.out) I.out],rfl⟩⟩
        ·have T:decide (55296≤(v:Int))=false∨(decide (55296≤(v:Int))=true∧decide ((v:Int)<57344)=false):=by
          by_cases h':55296≤v
          ·exact .inr ⟨by simp;omega,by simp;omega⟩
          ·exact .inl (by simp;omega)
         have I:=QA hsur;clear hsur;rcases T with s1|⟨s1,s2⟩
         all_goals
          go_wp2
          go_quiet (fail)
          go_wp2_with fail;refine (A0 bx s b _ hs D (C.scan.drewN _) (C.env.drewN _)).mono ?_;rintro e w1 ⟨rfl,A⟩;have o:=(C.drewN _).below A;clear A c0 c1 f1;have c0:=o.scan.c0;have c1:=o.scan.c1;have f1:=o.scan.f1;go_wp2_with fail;refine (BM bx s b _ hs D o.scan).mono ?_;rintro e w2 ⟨rfl,n2,rfl⟩;go_wp2_with fail;refine (W.out _).mono ?_;rintro e w2 ⟨rfl,hw2⟩;subst hw2;go_wp2_with fail;refine (BM bx s b _ hs D (o.scan.drewN _)).mono ?_;rintro e w2 ⟨rfl,n3,hw3⟩;have B:St w bx w.heap.size s b out w2:=by rw[hw3];exact (o.drewN _).drewN _
          clear hw3 c0 c1 f1 o;have c0:=B.scan.c0;have c1:=B.scan.c1;have f1:=B.scan.f1;go_wp2
          go_quiet ((exact Calls.quiet_of_same (J.out _)))
          go_wp2_with fail;refine ((B.drewN _).rune (by omega) v (by have:=I.out;omega)).mono ?_;rintro e w5 ⟨⟨n5,rfl⟩,hS5⟩;clear c0 c1 f1;have c0:=hS5.scan.c0;have c1:=hS5.scan.c1;have f1:=hS5.scan.f1;go_wp2;go_roundg (s.size-(b+6))
          case measure=>rw[Y.out];omega
          case rel =>
           have aa:=Lx.enc_len v;refine⟨b+6,out++Lx.enc v,rfl,by omega,by omega,by simp;omega,?_,hS5.put _⟩;rw[← H.out,E.out,Lx.text_uni G.out (by rw[← E.out];exact F.out) (by rw[Bo];exact N.out) (by rw[Bo];exact P.out) (by rw[Aj];exact X.out) I.out,Aj]
     ·have e2:=neT (n:=(Lx.rune (sfx s b)).1) (k:=92) (by omega);have F:=QA h92;clear h92;go_wp2
      go_quiet (fail)
      go_wp2_with fail;refine (A0 bx s b _ hs D (C.scan.drewN _) (C.env.drewN _)).mono ?_;rintro e w1 ⟨rfl,A⟩;have o:=(C.drewN _).below A;clear A c0 c1 f1;have c0:=o.scan.c0;have c1:=o.scan.c1;have f1:=o.scan.f1;go_wp2_with fail;refine (o.rune (by omega) _ Z.out).mono ?_;rintro e w2 ⟨⟨n2,rfl⟩,hS2⟩;clear c0 c1 f1;have c0:=hS2.scan.c0;have c1:=hS2.scan.c1;have f1:=hS2.scan.f1;go_wp2;go_roundg (s.size-(b+(Lx.rune (sfx s b)).2))
      case measure=>rw[Y.out];omega
      case rel =>
       have aa:=Lx.rune_le4 (sfx s b);refine⟨b+(Lx.rune (sfx s b)).2,out++Lx.enc (Lx.rune (sfx s b)).1,rfl,by omega,by omega,?_,?_,hS2.put _⟩
       ·rw[V.out,QU,List.length_take];omega
       ·have:=Lx.text_plain (out:=out) G.out (by rw[← E.out];exact O.out) (by rw[← E.out];exact F.out);rw[← E.out]at this;rw[← H.out,this,V.out,Aj]
  ·have af:(s.size:Int)≤b:=by omega
   go_wp2
   go_quiet (fail)
   go_wp2;go_ret2;exact⟨b,by omega,D,C.scan.drewN _,C.fr.drewN _,C.env.drewN _,.inr ⟨by rw[← H.out,CF s b (by omega),Lx.text_nil],rfl⟩⟩
theorem KT:(Tryz.prog.info? 203).map (λi=>(i.zero,i.size))=some (some (.agg (Array.replicate 256 (.bool false))),256):=by kernel_rfl
theorem Ou (l:ByteArray) (w:World) :
  Calls Tryz.prog 243 #[.string l,.string ⟨#[32,9]⟩] w λe w'=>e=.returned (.string ⟨(l.data.toList.dropWhile Lx.isSp).toArray⟩)∧Below w.heap.size w w' :=
 Any.strings_TrimLeft_laid Tryz.lays161 KT l ⟨#[32,9]⟩ w (by decide) (by
  intro j b h
  match j with
  | 0=>simp at h;subst h;decide
  | 1=>simp at h;subst h;decide
  | j+2=>simp at h)
theorem Iu (l:ByteArray) (w:World) (hl:l.size≤100000) :
  Calls Tryz.prog 238 #[.string l] w λe w'=>e=.returned (.int .i64 (Lx.ind l.data.toList))∧Below w.heap.size w w':=by
 have B:=Lx.dropWhile_le Lx.isSp l.data.toList;have o:l.data.toList.length=l.size:=by simp
 go_enter Tryz.func238,Tryz.ntmps238;go_wp2_with fail;refine (Ou _ _).mono ?_;rintro e w1 ⟨rfl,hb⟩;have A:(ByteArray.mk (List.dropWhile Lx.isSp l.data.toList).toArray).size=(List.dropWhile Lx.isSp l.data.toList).length:=rfl;go_wp2;go_ret;refine⟨J5 ?_,hb⟩;unfold Lx.ind;rw[o];show (l.size:Int)-((List.dropWhile Lx.isSp l.data.toList).length:Int)=_;omega
theorem Cd {w:World} {k:Nat} {o:Obj} (h:w.heap[k]?=some o):k<w.heap.size:=by
 rcases ZZ k w.heap.size with h'|h'
 ·exact h'
 ·simp[Array.getElem?_eq_none h']at h
structure SH (B b:Nat) (out:List UInt8) (bad:Bool) (w:World):Prop where
 hB:B≤b
 ex:∃p v,(p=Value.pointer none∨p=.pointer (some ⟨b,0,none⟩))∧w.heap[b]?=some (.cells #[p,v,.bool bad] 67 (0,0))∧w.ownsRowF B 5 1 v out.length (Lib.byteCells out)∧v.ownBlock≠some b
theorem Oy:liesAt Tryz.prog Tryz.prog.depth 67 (3 / Tryz.prog.cellsOf 67) 0 65 1=true:=by kernel_rfl
theorem SH.lt {B b:Nat} {out:List UInt8} {bad:Bool} {w:World} (h:SH B b out bad w):b<w.heap.size:=by
 obtain⟨-,p,v,-,o,-⟩:=h;exact Cd o
theorem Ls {B b:Nat} {p v:Value} {out:List UInt8} {bad:Bool} {w:World} (hB:B≤b) (hp:p=Value.pointer none∨p=.pointer (some ⟨b,0,none⟩)) (hb:w.heap[b]?=some (.cells #[p,v,.bool bad] 67 (0,0))) {v':Value} (hown:w.ownsRowF B 5 1 v' out.length (Lib.byteCells out)) :
  SH B b out bad (w.setCell ⟨b,1,none⟩ v'):=by
 have o:=Lib.ownBlock_neF hown hb (by decide);refine⟨hB,p,v',hp,?_,?_,o⟩
 ·simp[World.setCell,Array.getElem?_modify,hb]
 ·exact hown.kept (row:=some b) ⟨rfl,rfl,rfl,by simp[World.setCell],λk _ hk=>Below.heap_setCell _ _ _ _ (λe=>hk (by simp[e]))⟩ (Or.inr o)
theorem Oz {B b:Nat} {out:List UInt8} {bad:Bool} {w:World} (h:SH B b out bad w) (q:Bool):SH B b out q (w.setCell ⟨b,2,none⟩ (.bool q)):=by
 obtain⟨hB,p,v,C,D,A,o⟩:=h;refine⟨hB,p,v,C,?_,?_,o⟩
 ·simp[World.setCell,Array.getElem?_modify,D]
 ·exact A.kept (row:=some b) ⟨rfl,rfl,rfl,by simp[World.setCell],λk _ hk=>Below.heap_setCell _ _ _ _ (λe=>hk (by simp[e]))⟩ (Or.inr o)
theorem NY {B b:Nat} {out:List UInt8} {bad:Bool} {v p:Value} {w:World} (hb:w.heap[b]?=some (.cells #[p,v,.bool bad] 67 (0,0))) (hown:w.ownsRowF B 5 1 v out.length (Lib.byteCells out)) (hne:v.ownBlock≠some b) :
  (w.setCell ⟨b,0,none⟩ (.pointer (some ⟨b,0,none⟩))).heap[b]?=some (.cells #[.pointer (some ⟨b,0,none⟩),v,.bool bad] 67 (0,0))∧(w.setCell ⟨b,0,none⟩ (.pointer (some ⟨b,0,none⟩))).ownsRowF B 5 1 v out.length (Lib.byteCells out):=by
 refine⟨?_,?_⟩
 ·simp[World.setCell,Array.getElem?_modify,hb]
 ·exact hown.kept (row:=some b) ⟨rfl,rfl,rfl,by simp[World.setCell],λk _ hk=>Below.heap_setCell _ _ _ _ (λe=>hk (by simp[e]))⟩ (Or.inr hne)
theorem Ff (b:Nat) (w:World) (h0:w.cell? ⟨b,0,none⟩=some (.pointer none)) (hsh:w.shape? b=some (67,3)) (hfz:w.frozen? ⟨b,0,none⟩=false) :
  Calls Tryz.prog 160 #[.pointer (some ⟨b,0,none⟩)] w λe w'=>e=.returned (.tuple #[])∧w'=w.setCell ⟨b,0,none⟩ (.pointer (some ⟨b,0,none⟩)):=by
 obtain⟨j,A,o⟩:=Option.map_eq_some_iff.1 Gj;go_enter Tryz.func160,Tryz.ntmps160;go_wp2;rw[Lib.run_to_unsafe w ⟨b,0,none⟩ Tryz.underlying62 Tryz.underlying236 A (by rw[o];decide) hsh (Nat.zero_lt_succ 2)];simp only[Result.andThen];rw[Oper.upon_value];go_wp2;rw[run_callFunc_extern Tryz.func198 (by kernel_rfl) (by kernel_rfl) (by kernel_rfl) (e:=Extern.AbiNoEscape.same) (by kernel_rfl)];rw[Lib.run_noEscape];simp only[Result.andThen];rw[Oper.upon_value];go_wp2;rw[Lib.run_from_unsafe w ⟨b,0,none⟩ Tryz.underlying236 Tryz.underlying62 A hsh Oy];simp only[Result.andThen];rw[Oper.upon_value];go_wp2;go_end0;exact⟨rfl,rfl⟩
theorem J7 (B b:Nat) (out:List UInt8) (bad:Bool) (w:World) (h:SH B b out bad w) :
  Calls Tryz.prog 160 #[.pointer (some ⟨b,0,none⟩)] w λe w'=>e=.returned (.tuple #[])∧(∃v,w'.heap[b]?=some (.cells #[.pointer (some ⟨b,0,none⟩),v,.bool bad] 67 (0,0))∧w'.ownsRowF B 5 1 v out.length (Lib.byteCells out)∧v.ownBlock≠some b)∧Below B w w'∧Lib.OthersKept 5 (some b) w w':=by
 obtain⟨hB,p,v,E,C,o,A⟩:=h;have c0:w.cell? ⟨b,0,none⟩=some p:=by rw[Lib.cell_of_heap C];rfl
 rcases E with rfl|rfl
 ·refine (Ff b w c0 (by simp[World.shape?,C]) (by simp[World.frozen?,C])).mono ?_;rintro e w' ⟨rfl,rfl⟩;obtain⟨D,F⟩:=NY C o A;exact⟨rfl,⟨v,D,F,A⟩,(Below.refl B w).setCell (p:=⟨b,0,none⟩) hB _,(Lib.OthersKept.refl _ _ w).setCell ⟨b,0,none⟩ rfl _⟩
 ·refine (B9 b w c0).mono ?_;rintro e w' ⟨rfl,rfl⟩;exact⟨rfl,⟨v,C,o,A⟩,Below.refl B _,Lib.OthersKept.refl _ _ _⟩
theorem On (B b:Nat) (out:List UInt8) (bad:Bool) (c:UInt8) (w:World) (h:SH B b out bad w) (hlen:out.length≤10000000000) (hBw:B≤w.heap.size) :
  Calls Tryz.prog 162 #[.pointer (some ⟨b,0,none⟩),.int .u8 c.toNat] w λe w'=>e=.returned .nilIface∧SH B b (out++[c]) bad w'∧Below B w w'∧Lib.OthersKept 5 (some b) w w':=by
 obtain⟨G,hi,E,F,D⟩:=info_parts Ch;have hB:=h.hB;have H:(Lib.byteCells out).length=out.length:=Lib.byteCells_length out;go_enter Tryz.func162,Tryz.ntmps162;go_wp2_with (go_at_call 160;refine (J7 B b out bad _ h).mono ?_);rintro e w1 ⟨rfl,⟨v,hbk,hown,hne⟩,hb1,hk1⟩;have c0:w1.cell? ⟨b,0,none⟩=some (.pointer (some ⟨b,0,none⟩)):=by rw[Lib.cell_of_heap hbk];rfl
 have c1:w1.cell? ⟨b,1,none⟩=some v:=by rw[Lib.cell_of_heap hbk];rfl
 go_wp2_with (at_builtin;refine wpList_append_ownF _ rfl _ _ 63 rfl B 5 G (.int .u8 0) 1 1 Tryz.underlying63 hi E F D rfl (by decide) _ _ _ rfl (hown.alloc _) ⟨w1.heap.size,0,none⟩ 1 1 [.int .u8 c.toNat] rfl rfl ?c1 ?c2 ?c3 ?c4 ?c5 ?_)
 case c1 =>
  intro j u hj
  match j,hj with
  | 0,hj=>simp at hj;subst hj;simp[Addr.add]
 case c2=>intro u hu;simp at hu;subst hu;rfl
 case c3=>unfold maxLen;omega
 case c4=>omega
 case c5=>have:=hb1.size;simp;omega
 intro v' w2 hown' hgrow _;have C:b<w1.heap.size:=Cd hbk;have A:w2.heap[b]?=some (.cells #[.pointer (some ⟨b,0,none⟩),v,.bool bad] 67 (0,0)):=by
  rw[hgrow.block b (by simp;omega) (λe=>hne e.symm),Lib.alloc_old w1 _ b C];exact hbk
 have I:w2.cell? ⟨b,0,none⟩=some (.pointer (some ⟨b,0,none⟩)):=by rw[Lib.cell_of_heap A];rfl
 have J:w2.cell? ⟨b,1,none⟩=some v:=by rw[Lib.cell_of_heap A];rfl
 have f1:w2.frozen? ⟨b,1,none⟩=false:=Lib.frozen_of_heap A 1;obtain⟨g,o,rfl⟩:∃g o,v'=.slice (some ⟨g,0,none⟩) (out.length+1) o:=by
  rcases hown'.2 with⟨_,h0⟩|⟨g,o,cur,fz,hv,_⟩
  ·omega
  ·exact⟨g,o,hv⟩
 go_wp2;go_ret;refine⟨rfl,?_,?_,((hk1.alloc _).grown hgrow (Lib.ownsRowF_kind (hown.alloc _))).setCell ⟨b,1,none⟩ rfl _⟩
 ·refine Ls (out:=out++[c]) hB (.inr rfl) A ?_;rw[QU,Lib.byteCells_append];exact hown'
 ·exact ((hb1.alloc (by have:=hb1.size;omega) _).grown hgrow (by have:=hb1.size;simp;omega) (λk hk=>(hown.lt k hk).1)).setCell (p:=⟨b,1,none⟩) hB _
theorem Pm (B b:Nat) (out l:List UInt8) (bad:Bool) (w:World) (h:SH B b out bad w) (hlen:out.length+l.length≤10000000000) (hBw:B≤w.heap.size) :
  Calls Tryz.prog 88 #[.pointer (some ⟨b,0,none⟩),.string ⟨l.toArray⟩] w λe w'=>(∃n:Int,e=.returned (.tuple #[.int .i64 n,.nilIface]))∧SH B b (out++l) bad w'∧Below B w w'∧Lib.OthersKept 5 (some b) w w':=by
 obtain⟨M,hi,I,G,H⟩:=info_parts Ch;have hB:=h.hB;have N:(Lib.byteCells out).length=out.length:=Lib.byteCells_length out;obtain⟨s,E⟩:∃s:ByteArray,s=⟨l.toArray⟩:=⟨_,rfl⟩
 have D:s.size=l.length:=by rw[E];rfl
 have J:Hid (Lib.strCells s=Lib.byteCells l):=by rw[E];exact QA rfl
 rw[← E];clear E;go_enter Tryz.func88,Tryz.ntmps88;go_wp2_with (go_at_call 160;refine (J7 B b out bad _ h).mono ?_);rintro e w1 ⟨rfl,⟨v,hbk,hown,hne⟩,hb1,hk1⟩;have c0:w1.cell? ⟨b,0,none⟩=some (.pointer (some ⟨b,0,none⟩)):=by rw[Lib.cell_of_heap hbk];rfl
 have c1:w1.cell? ⟨b,1,none⟩=some v:=by rw[Lib.cell_of_heap hbk];rfl
 have A:=QA D;clear D;go_wp2_with (at_builtin;refine Lib.wpList_append_own_stringF _ rfl _ _ 63 9 rfl B 5 M Tryz.underlying63 Tryz.underlying9 hi I G H _ _ _ rfl hown s rfl ?c3 ?c4 ?c5 ?_)
 case c3=>have:=A.out;unfold maxLen;omega
 case c4=>have:=A.out;omega
 case c5=>have:=hb1.size;omega
 intro v' w2 hown' hgrow _;have F:b<w1.heap.size:=Cd hbk;have o:w2.heap[b]?=some (.cells #[.pointer (some ⟨b,0,none⟩),v,.bool bad] 67 (0,0)):=by
  rw[hgrow.block b F (λe=>hne e.symm)];exact hbk
 have O:w2.cell? ⟨b,0,none⟩=some (.pointer (some ⟨b,0,none⟩)):=by rw[Lib.cell_of_heap o];rfl
 have P:w2.cell? ⟨b,1,none⟩=some v:=by rw[Lib.cell_of_heap o];rfl
 have f1:w2.frozen? ⟨b,1,none⟩=false:=Lib.frozen_of_heap o 1;obtain⟨K,L,C,rfl⟩:∃K L C,v'=.slice K L C:=by
  rcases hown'.2 with⟨hv,_⟩|⟨g,C,cur,fz,hv,_⟩
  ·exact⟨_,_,_,hv⟩
  ·exact⟨_,_,_,hv⟩
 go_wp2;go_ret2;refine⟨⟨_,rfl⟩,?_,?_,(hk1.grown hgrow (Lib.ownsRowF_kind hown)).setCell ⟨b,1,none⟩ rfl _⟩
 ·refine Ls (out:=out++l) hB (.inr rfl) o ?_;rw[QU,Lib.byteCells_append,← J.out,← A.out];exact hown'
 ·exact (hb1.grown hgrow (by have:=hb1.size;omega) (λk hk=>(hown.lt k hk).1)).setCell (p:=⟨b,1,none⟩) hB _
theorem PU (B b:Nat) (out:List UInt8) (bad ok:Bool) (w:World) (h:SH B b out bad w) :
  Calls Tryz.prog 86 #[.pointer (some ⟨b,0,none⟩),.bool ok] w λe w'=>e=.returned (.tuple #[])∧SH B b out (bad||!ok) w'∧Below B w w'∧Lib.OthersKept 5 (some b) w w':=by
 have hB:=h.hB;have C:=λq=>Oz h q
 obtain⟨-,p,v,D,A,-⟩:=h;have c2:w.cell? ⟨b,2,none⟩=some (.bool bad):=by rw[Lib.cell_of_heap A];rfl
 have f2:w.frozen? ⟨b,2,none⟩=false:=Lib.frozen_of_heap A 2;clear A D;have o:∀q,SH B b out q (w.setCell ⟨b,2,none⟩ (.bool q))∧Below B w (w.setCell ⟨b,2,none⟩ (.bool q))∧Lib.OthersKept 5 (some b) w (w.setCell ⟨b,2,none⟩ (.bool q)):=λq =>
  ⟨C q,(Below.refl B w).setCell (p:=⟨b,2,none⟩) hB _,(Lib.OthersKept.refl _ _ w).setCell ⟨b,2,none⟩ rfl _⟩
 cases bad<;>cases ok
 all_goals
  go_enter Tryz.func86,Tryz.ntmps86;go_wp2_with fail;go_end0;exact⟨rfl,o _⟩
theorem M4 (B b:Nat) (out:List UInt8) (bad:Bool) (w:World) (h:SH B b out bad w) (h0:out≠[]) :
  Calls Tryz.prog 33 #[.pointer (some ⟨b,0,none⟩)] w λe w'=>e=.returned (.string ⟨out.toArray⟩)∧Below B w w':=by
 obtain⟨hB,p,v,S,F,C,I⟩:=h;have G:out.length≠0:=by simpa using h0
 obtain⟨g,o,A,E,rfl,K,O,H,R,J,L,D⟩:∃g o A E,v=.slice (some ⟨g,0,none⟩) out.length o∧B≤g∧w.heap[g]?=some (.cells A 5 E)∧E.2≤out.length*1∧out.length≤o∧o≤maxLen∧A.size=o*1∧A.toList.take (out.length*1)=Lib.byteCells out:=by
  rcases C.2 with⟨_,hz⟩|⟨g,o,A,E,hv,r⟩
  ·exact absurd hz G
  ·exact⟨g,o,A,E,hv,r⟩
 have c1:w.drew.cell? ⟨b,1,none⟩=some (.slice (some ⟨g,0,none⟩) out.length o):=by
  have:w.drew.heap[b]?=some (.cells #[p,.slice (some ⟨g,0,none⟩) out.length o,.bool bad] 67 (0,0)):=F;rw[Lib.cell_of_heap this];rfl
 have P:(Builtin.unsafeSliceData_ #[63] 154 #[.slice (some ⟨g,0,none⟩) out.length o]).run Tryz.prog w.drew=.ok (.pointer (some ⟨g,0,none⟩)) w.drew :=
  Lib.run_unsafeSliceData_row _ _ _ _ _ _ (by omega)
 have Q:(Builtin.unsafeString_ #[154,3] 9 #[.pointer (some ⟨g,0,none⟩),.int .i64 out.length]).run Tryz.prog w.drew=.ok (.string ⟨out.toArray⟩) (w.drew.freeze ⟨g,0,none⟩ out.length):=by
  refine Lib.run_unsafeString_row w.drew 154 3 9 5 Tryz.underlying154 (by kernel_rfl) g A.size (by have M:w.drew.heap[g]?=some (.cells A 5 E):=O;simp[World.shape?,M]) out h0 (by omega) (by unfold maxLen at J;omega) ?_;intro j x hx;have:=C.cells (g:=g) rfl j (.int .u8 x.toNat) (by simp[Lib.byteCells,hx]);exact this
 have N:Tryz.prog.follows Departure.mixedOrders=true:=by kernel_rfl
 clear C D L H O F I h0;go_enter Tryz.func33,Tryz.ntmps33;go_wp2
 go_region_o
 all_goals (go_wp2;go_ret;exact⟨rfl,Lib.below_freeze (Below.drew (Below.refl B w)) (p:=⟨g,0,none⟩) K _⟩)
structure WH (B b:Nat) (out:List UInt8) (bad:Bool) (w:World):Prop where
 hB:B≤b
 ex:∃p v,(p=Value.pointer none∨p=.pointer (some ⟨b,0,none⟩))∧w.heap[b]?=some (.cells #[p,v,.bool bad] 104 (0,0))∧w.ownsRowF B 5 1 v out.length (Lib.byteCells out)∧v.ownBlock≠some b
theorem Oc:liesAt Tryz.prog Tryz.prog.depth 104 (3 / Tryz.prog.cellsOf 104) 0 65 1=true:=by kernel_rfl
theorem WH.lt {B b:Nat} {out:List UInt8} {bad:Bool} {w:World} (h:WH B b out bad w):b<w.heap.size:=by
 obtain⟨-,p,v,-,o,-⟩:=h;exact Cd o
theorem PD {B b:Nat} {p v:Value} {out:List UInt8} {bad:Bool} {w:World} (hB:B≤b) (hp:p=Value.pointer none∨p=.pointer (some ⟨b,0,none⟩)) (hb:w.heap[b]?=some (.cells #[p,v,.bool bad] 104 (0,0))) {v':Value} (hown:w.ownsRowF B 5 1 v' out.length (Lib.byteCells out)) :
  WH B b out bad (w.setCell ⟨b,1,none⟩ v'):=by
 have o:=Lib.ownBlock_neF hown hb (by decide);refine⟨hB,p,v',hp,?_,?_,o⟩
 ·simp[World.setCell,Array.getElem?_modify,hb]
 ·exact hown.kept (row:=some b) ⟨rfl,rfl,rfl,by simp[World.setCell],λk _ hk=>Below.heap_setCell _ _ _ _ (λe=>hk (by simp[e]))⟩ (Or.inr o)
theorem Pe {B b:Nat} {out:List UInt8} {bad:Bool} {w:World} (h:WH B b out bad w) (q:Bool):WH B b out q (w.setCell ⟨b,2,none⟩ (.bool q)):=by
 obtain⟨hB,p,v,C,D,A,o⟩:=h;refine⟨hB,p,v,C,?_,?_,o⟩
 ·simp[World.setCell,Array.getElem?_modify,D]
 ·exact A.kept (row:=some b) ⟨rfl,rfl,rfl,by simp[World.setCell],λk _ hk=>Below.heap_setCell _ _ _ _ (λe=>hk (by simp[e]))⟩ (Or.inr o)
theorem NZ {B b:Nat} {out:List UInt8} {bad:Bool} {v p:Value} {w:World} (hb:w.heap[b]?=some (.cells #[p,v,.bool bad] 104 (0,0))) (hown:w.ownsRowF B 5 1 v out.length (Lib.byteCells out)) (hne:v.ownBlock≠some b) :
  (w.setCell ⟨b,0,none⟩ (.pointer (some ⟨b,0,none⟩))).heap[b]?=some (.cells #[.pointer (some ⟨b,0,none⟩),v,.bool bad] 104 (0,0))∧(w.setCell ⟨b,0,none⟩ (.pointer (some ⟨b,0,none⟩))).ownsRowF B 5 1 v out.length (Lib.byteCells out):=by
 refine⟨?_,?_⟩
 ·simp[World.setCell,Array.getElem?_modify,hb]
 ·exact hown.kept (row:=some b) ⟨rfl,rfl,rfl,by simp[World.setCell],λk _ hk=>Below.heap_setCell _ _ _ _ (λe=>hk (by simp[e]))⟩ (Or.inr hne)
theorem Fg (b:Nat) (w:World) (h0:w.cell? ⟨b,0,none⟩=some (.pointer none)) (hsh:w.shape? b=some (104,3)) (hfz:w.frozen? ⟨b,0,none⟩=false) :
  Calls Tryz.prog 160 #[.pointer (some ⟨b,0,none⟩)] w λe w'=>e=.returned (.tuple #[])∧w'=w.setCell ⟨b,0,none⟩ (.pointer (some ⟨b,0,none⟩)):=by
 obtain⟨j,A,o⟩:=Option.map_eq_some_iff.1 Gj;go_enter Tryz.func160,Tryz.ntmps160;go_wp2;rw[Lib.run_to_unsafe w ⟨b,0,none⟩ Tryz.underlying62 Tryz.underlying236 A (by rw[o];decide) hsh (Nat.zero_lt_succ 2)];simp only[Result.andThen];rw[Oper.upon_value];go_wp2;rw[run_callFunc_extern Tryz.func198 (by kernel_rfl) (by kernel_rfl) (by kernel_rfl) (e:=Extern.AbiNoEscape.same) (by kernel_rfl)];rw[Lib.run_noEscape];simp only[Result.andThen];rw[Oper.upon_value];go_wp2;rw[Lib.run_from_unsafe w ⟨b,0,none⟩ Tryz.underlying236 Tryz.underlying62 A hsh Oc];simp only[Result.andThen];rw[Oper.upon_value];go_wp2;go_end0;exact⟨rfl,rfl⟩
theorem Nj (B b:Nat) (out:List UInt8) (bad:Bool) (w:World) (h:WH B b out bad w) :
  Calls Tryz.prog 160 #[.pointer (some ⟨b,0,none⟩)] w λe w'=>e=.returned (.tuple #[])∧(∃v,w'.heap[b]?=some (.cells #[.pointer (some ⟨b,0,none⟩),v,.bool bad] 104 (0,0))∧w'.ownsRowF B 5 1 v out.length (Lib.byteCells out)∧v.ownBlock≠some b)∧Below B w w'∧Lib.OthersKept 5 (some b) w w':=by
 obtain⟨hB,p,v,E,C,o,A⟩:=h;have c0:w.cell? ⟨b,0,none⟩=some p:=by rw[Lib.cell_of_heap C];rfl
 rcases E with rfl|rfl
 ·refine (Fg b w c0 (by simp[World.shape?,C]) (by simp[World.frozen?,C])).mono ?_;rintro e w' ⟨rfl,rfl⟩;obtain⟨D,F⟩:=NZ C o A;exact⟨rfl,⟨v,D,F,A⟩,(Below.refl B w).setCell (p:=⟨b,0,none⟩) hB _,(Lib.OthersKept.refl _ _ w).setCell ⟨b,0,none⟩ rfl _⟩
 ·refine (B9 b w c0).mono ?_;rintro e w' ⟨rfl,rfl⟩;exact⟨rfl,⟨v,C,o,A⟩,Below.refl B _,Lib.OthersKept.refl _ _ _⟩
theorem P5 (B b:Nat) (out l:List UInt8) (bad:Bool) (w:World) (h:WH B b out bad w) (hlen:out.length+l.length≤1000000000000) (hBw:B≤w.heap.size) :
  Calls Tryz.prog 88 #[.pointer (some ⟨b,0,none⟩),.string ⟨l.toArray⟩] w λe w'=>(∃n:Int,e=.returned (.tuple #[.int .i64 n,.nilIface]))∧WH B b (out++l) bad w'∧Below B w w'∧Lib.OthersKept 5 (some b) w w':=by
 obtain⟨M,hi,I,G,H⟩:=info_parts Ch;have hB:=h.hB;have N:(Lib.byteCells out).length=out.length:=Lib.byteCells_length out;obtain⟨s,E⟩:∃s:ByteArray,s=⟨l.toArray⟩:=⟨_,rfl⟩
 have D:s.size=l.length:=by rw[E];rfl
 have J:Hid (Lib.strCells s=Lib.byteCells l):=by rw[E];exact QA rfl
 rw[← E];clear E;go_enter Tryz.func88,Tryz.ntmps88;go_wp2_with (go_at_call 160;refine (Nj B b out bad _ h).mono ?_);rintro e w1 ⟨rfl,⟨v,hbk,hown,hne⟩,hb1,hk1⟩;have c0:w1.cell? ⟨b,0,none⟩=some (.pointer (some ⟨b,0,none⟩)):=by rw[Lib.cell_of_heap hbk];rfl
 have c1:w1.cell? ⟨b,1,none⟩=some v:=by rw[Lib.cell_of_heap hbk];rfl
 have A:=QA D;clear D;go_wp2_with (at_builtin;refine Lib.wpList_append_own_stringF _ rfl _ _ 63 9 rfl B 5 M Tryz.underlying63 Tryz.underlying9 hi I G H _ _ _ rfl hown s rfl ?c3 ?c4 ?c5 ?_)
 case c3=>have:=A.out;unfold maxLen;omega
 case c4=>have:=A.out;omega
 case c5=>have:=hb1.size;omega
 intro v' w2 hown' hgrow _;have F:b<w1.heap.size:=Cd hbk;have o:w2.heap[b]?=some (.cells #[.pointer (some ⟨b,0,none⟩),v,.bool bad] 104 (0,0)):=by
  rw[hgrow.block b F (λe=>hne e.symm)];exact hbk
 have O:w2.cell? ⟨b,0,none⟩=some (.pointer (some ⟨b,0,none⟩)):=by rw[Lib.cell_of_heap o];rfl
 have P:w2.cell? ⟨b,1,none⟩=some v:=by rw[Lib.cell_of_heap o];rfl
 have f1:w2.frozen? ⟨b,1,none⟩=false:=Lib.frozen_of_heap o 1;obtain⟨K,L,C,rfl⟩:∃K L C,v'=.slice K L C:=by
  rcases hown'.2 with⟨hv,_⟩|⟨g,C,cur,fz,hv,_⟩
  ·exact⟨_,_,_,hv⟩
  ·exact⟨_,_,_,hv⟩
 go_wp2;go_ret2;refine⟨⟨_,rfl⟩,?_,?_,(hk1.grown hgrow (Lib.ownsRowF_kind hown)).setCell ⟨b,1,none⟩ rfl _⟩
 ·refine PD (out:=out++l) hB (.inr rfl) o ?_;rw[QU,Lib.byteCells_append,← J.out,← A.out];exact hown'
 ·exact (hb1.grown hgrow (by have:=hb1.size;omega) (λk hk=>(hown.lt k hk).1)).setCell (p:=⟨b,1,none⟩) hB _
theorem OV (B b:Nat) (out:List UInt8) (bad ok:Bool) (w:World) (h:WH B b out bad w) :
  Calls Tryz.prog 50 #[.pointer (some ⟨b,0,none⟩),.bool ok] w λe w'=>e=.returned (.tuple #[])∧WH B b out (bad||!ok) w'∧Below B w w'∧Lib.OthersKept 5 (some b) w w':=by
 have hB:=h.hB;have C:=λq=>Pe h q
 obtain⟨-,p,v,D,A,-⟩:=h;have c2:w.cell? ⟨b,2,none⟩=some (.bool bad):=by rw[Lib.cell_of_heap A];rfl
 have f2:w.frozen? ⟨b,2,none⟩=false:=Lib.frozen_of_heap A 2;clear A D;have o:∀q,WH B b out q (w.setCell ⟨b,2,none⟩ (.bool q))∧Below B w (w.setCell ⟨b,2,none⟩ (.bool q))∧Lib.OthersKept 5 (some b) w (w.setCell ⟨b,2,none⟩ (.bool q)):=λq =>
  ⟨C q,(Below.refl B w).setCell (p:=⟨b,2,none⟩) hB _,(Lib.OthersKept.refl _ _ w).setCell ⟨b,2,none⟩ rfl _⟩
 cases bad<;>cases ok
 all_goals
  go_enter Tryz.func50,Tryz.ntmps50;go_wp2_with fail;go_end0;exact⟨rfl,o _⟩
theorem Mr (B b:Nat) (out:List UInt8) (bad:Bool) (w:World) (h:WH B b out bad w) (h0:out≠[]) :
  Calls Tryz.prog 33 #[.pointer (some ⟨b,0,none⟩)] w λe w'=>e=.returned (.string ⟨out.toArray⟩)∧Below B w w':=by
 obtain⟨hB,p,v,S,F,C,I⟩:=h;have G:out.length≠0:=by simpa using h0
 obtain⟨g,o,A,E,rfl,K,O,H,R,J,L,D⟩:∃g o A E,v=.slice (some ⟨g,0,none⟩) out.length o∧B≤g∧w.heap[g]?=some (.cells A 5 E)∧E.2≤out.length*1∧out.length≤o∧o≤maxLen∧A.size=o*1∧A.toList.take (out.length*1)=Lib.byteCells out:=by
  rcases C.2 with⟨_,hz⟩|⟨g,o,A,E,hv,r⟩
  ·exact absurd hz G
  ·exact⟨g,o,A,E,hv,r⟩
 have c1:w.drew.cell? ⟨b,1,none⟩=some (.slice (some ⟨g,0,none⟩) out.length o):=by
  have:w.drew.heap[b]?=some (.cells #[p,.slice (some ⟨g,0,none⟩) out.length o,.bool bad] 104 (0,0)):=F;rw[Lib.cell_of_heap this];rfl
 have P:(Builtin.unsafeSliceData_ #[63] 154 #[.slice (some ⟨g,0,none⟩) out.length o]).run Tryz.prog w.drew=.ok (.pointer (some ⟨g,0,none⟩)) w.drew :=
  Lib.run_unsafeSliceData_row _ _ _ _ _ _ (by omega)
 have Q:(Builtin.unsafeString_ #[154,3] 9 #[.pointer (some ⟨g,0,none⟩),.int .i64 out.length]).run Tryz.prog w.drew=.ok (.string ⟨out.toArray⟩) (w.drew.freeze ⟨g,0,none⟩ out.length):=by
  refine Lib.run_unsafeString_row w.drew 154 3 9 5 Tryz.underlying154 (by kernel_rfl) g A.size (by have M:w.drew.heap[g]?=some (.cells A 5 E):=O;simp[World.shape?,M]) out h0 (by omega) (by unfold maxLen at J;omega) ?_;intro j x hx;have:=C.cells (g:=g) rfl j (.int .u8 x.toNat) (by simp[Lib.byteCells,hx]);exact this
 have N:Tryz.prog.follows Departure.mixedOrders=true:=by kernel_rfl
 clear C D L H O F I h0;go_enter Tryz.func33,Tryz.ntmps33;go_wp2
 go_region_o
 all_goals (go_wp2;go_ret;exact⟨rfl,Lib.below_freeze (Below.drew (Below.refl B w)) (p:=⟨g,0,none⟩) K _⟩)
end Go.Proofs.YtefjgpkpplkkgaaGreatDoor
