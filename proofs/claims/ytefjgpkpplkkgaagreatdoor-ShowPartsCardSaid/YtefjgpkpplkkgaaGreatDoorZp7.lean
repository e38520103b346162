/-
  A region that draws its order, walked in the text's order: some operations may write; between them calls may lay new blocks. strings.Builder: copyCheck, WriteByte, WriteString, WriteRune at this translation (the shelf's own contracts do not fit here: copyCheck's panic is struck from the translation). After the shelf's BuilderK and BuilderRune, turned to this program. A scanner's method that builds a text: what its world is like. The lexer's 'text', walked. The lexer's 'indent', walked.
-/
import Derived.Test.YtefjgpkpplkkgaaGreatDoorZp6
import Derived.Test.YtefjgpkpplkkgaaGreatDoorZp4
import Derived.Test.YtefjgpkpplkkgaaGreatDoorZp5
import Derived.Shelf.Strings.BuilderRune
import Derived.Outline
import Derived.Deep.LoopGhost
import Derived.Test.YtefjgpkpplkkgaaGreatDoorZp1
import Derived.Shelf.Strings.SlTrimAscii
open Go.Lib renaming hid → QA
open Nat renaming le_refl → QM, lt_or_ge → ZX
namespace Go.Proofs.YtefjgpkpplkkgaaGreatDoor
set_option linter.unusedSimpArgs false
set_option linter.unusedVariables false
open Go Go.RowKit
section
variable {P : Program} {ops : Array Oper} {md : Region.Mode} {C : World → Prop}
def wpMixL (P:Program) (l:List Oper) (Q:Exit→Act→World→Prop):List Nat→Nat→Act→World→Prop
 | [],k,a,w=>wpQuiet P l.toArray (fun w'=>∃ x:Later w,w'=x.1) (fun a'=>∀ w',(∃ x:Later w,w'=x.1)→Q .normal a' w') (l.drop k) a
 | n::ns,k,a,w=>wpQuiet P l.toArray (fun w'=>∃ x:Later w,w'=x.1) (fun a'=>∀ w',(∃ x:Later w,w'=x.1) →
   wpList P l.toArray (Exit.then (wpMixL P l Q ns (n+1)) Q) ((l.drop n).take 1) a' w') ((l.drop k).take (n-k)) a
theorem wpAny_of_mixL {l:List Oper} {Q:Exit→Act→World→Prop} (hsel:Region.noSelect l.toArray=true) (hb:backB md l.toArray=true) :
  ∀ (ns:List Nat) (k:Nat) (a:Act) (w:World),mixB md l.toArray ns k=true→k≤l.length→wpMixL P l Q ns k a w→∀ w',(∃ x:Later w,w'=x.1) →
   wpAny P md l.toArray Q (l.length-k) (listN l.length k) a w'
 | [],k,a,w,hB,hk,h,w',hw'=>by
  refine wpAny_of_quiet (C:=fun w'=>∃ x:Later w,w'=x.1) (Q:=fun a'=>∀ w',(∃ x:Later w,w'=x.1)→Q .normal a' w') (fun _ w' hw' h=>h w' hw') _ _ _ _ hw' ?_
  have U:(l.drop k).length=l.length-k:=by simp
  have:=wpAnyQ_lex (P:=P) (C:=fun w'=>∃ x:Later w,w'=x.1) (md:=md) (Q:=fun a'=>∀ w',(∃ x:Later w,w'=x.1)→Q .normal a' w') hsel (l.drop k) k (listN l.length k) a (fun j=>by simp[List.getElem?_drop]) (by
   rw[U];simpa [mixB] using hB) h
  rwa [U] at this
 | n::ns,k,a,w,hB,hk,h,w',hw'=>by
  simp only[mixB,Bool.and_eq_true,decide_eq_true_eq,List.size_toArray] at hB
  obtain ⟨⟨⟨⟨⟨L,F⟩,D⟩,W⟩,V⟩,M⟩:=hB
  have A:((l.drop k).take (n-k)).length=n-k:=by simp;omega
  have H:=wpAnyM_lex (P:=P) (C:=fun w'=>∃ x:Later w,w'=x.1) (md:=md) hsel D (by simpa using F) (by
    intro j hj;rw[List.size_toArray,V] at hj;simp at hj;omega) ((l.drop k).take (n-k)) k a (fun j hj=>by
    rw[A] at hj;simp[List.getElem?_drop,hj]) (by rw[A];omega)
   (by exact seg_start hb L) (by rw[A];simpa using W) h
  rw[A] at H
  have:=wpAny_of_M (P:=P) (C:=fun w'=>∃ x:Later w,w'=x.1) (md:=md) (Q':=Q) (g:=l.length-n) (fun listed a' w1 hw1 hL=>by
   obtain ⟨N,R⟩:=hL
   rw[N]
   have o:=R w1 hw1
   rw[show l.length-n=(l.length-(n+1))+1 by omega]
   have E:Region.ready md l.toArray (listN l.toArray.size n)=[n]:=by simpa using V
   refine ⟨fun h0=>(by rw[E] at h0;cases h0),fun i hi=>?_⟩
   rw[E] at hi
   have T:i=n:=by simpa using hi
   subst T
   have G:l.toArray[i]?=some l[i]:=by simp[F]
   have B:(l.drop i).take 1=[l[i]]:=by rw[List.drop_eq_getElem_cons F,List.take_succ_cons,List.take_zero]
   rw[B] at o
   unfold wpOp
   simp only[G]
   rw[List.size_toArray,listN_set _ _ F]
   have K:∀ a2 w2,wpMixL P l Q ns (i+1) a2 w2→wpAny P md l.toArray Q (l.length-(i+1)) (listN l.length (i+1)) a2 w2:=fun a2 w2 h2 =>
    wpAny_of_mixL hsel hb ns (i+1) a2 w2 M F h2 w2 ⟨Later.here w2,rfl⟩
   unfold wpList at o
   split
   ·rename_i hwant
    rw[if_pos hwant] at o
    refine o.imp (fun D=>?_) (fun D=>⟨D.1,?_⟩)
    ·have O:=Oper.wp_mono (Q:=Exit.then (wpMixL P l Q ns (i+1)) Q) (K':=wpAny P md l.toArray Q (l.length-(i+1)) (listN l.length (i+1))) (fun a w h=>K a w h) D
     unfold Oper.wp at *
     generalize (execOp a'.eval l[i]).run P w1=r at *
     cases r with
     | ok nx w2 =>
      cases nx with
      | enter f args =>
       exact Calls.mono O fun e w3 h3=>by cases e<;>first|exact h3|(obtain ⟨J,I,S⟩:=h3;exact ⟨J,I,S⟩)
      | _=>exact O
     | halt x w2=>cases x<;>exact O
    ·obtain ⟨J,I,S⟩:=D.2
     exact ⟨J,I,S⟩
   ·rename_i hwant
    rw[if_neg hwant] at o
    exact K _ _ o) _ _ _ _ hw' H
  rw[show n-k+(l.length-n)=l.length-k by omega] at this
  exact this
theorem wp_region_cutsL {id:Nat} {Q:Exit→Act→World→Prop} {a:Act} {w:World} {l:List Oper} (ns:List Nat) (hm:P.follows .mixedOrders=true) (hB:cutsB .any l.toArray ns=true)
  (h:wpMixL P l Q ns 0 a w):(Code.region id l.toArray true).wp P Q a w:=by
 simp only[cutsB,Bool.and_eq_true] at hB
 obtain ⟨⟨o,A⟩,hB⟩:=hB
 refine wp_region_any hm ?_
 rw[listN_zero]
 have:=wpAny_of_mixL (P:=P) (md:=.any) (Q:=Q) o A ns 0 a w hB (Nat.zero_le _) h { w with drawn:=w.drawn+1 } ⟨⟨{ w with drawn:=w.drawn+1 },⟨rfl,rfl,rfl,QM _,fun _ _=>rfl⟩⟩,rfl⟩
 simpa using this
end
abbrev IsB (b:Nat) (l:List UInt8) (w:World):Prop:=Lib.IsBuilderF 65 5 b b (Lib.byteCells l) w
theorem sbSize:(Tryz.prog.info? 65).map (·.size)=some 2:=by kernel_rfl
theorem sbLies:liesAt Tryz.prog Tryz.prog.depth 65 (2 / Tryz.prog.cellsOf 65) 0 65 1=true:=by kernel_rfl
theorem byteInfo:(Tryz.prog.info? 5).map (fun i=>(i.zero,i.size,i.bytes))=some (some (.int .u8 0),1,1):=by kernel_rfl
set_option maxHeartbeats 1000000 in
set_option maxRecDepth 100000 in
theorem copyCheck_used (b:Nat) (w:World) (h0:w.cell? ⟨b,0,none⟩=some (.pointer (some ⟨b,0,none⟩))) :
  Calls Tryz.prog 160 #[.pointer (some ⟨b,0,none⟩)] w fun e w'=>e=.returned (.tuple #[])∧w'=w:=by
 obtain ⟨j,o,_⟩:=Option.map_eq_some_iff.1 sbSize
 go_enter Tryz.func160,Tryz.ntmps160
 go_wp2
 rw[Lib.run_neq_ptr_same w _ Tryz.underlying62 o]
 go_wp2
 go_end0
 exact ⟨rfl,rfl⟩
set_option maxHeartbeats 1000000 in
set_option maxRecDepth 100000 in
theorem copyCheck_fresh (b:Nat) (w:World) (h0:w.cell? ⟨b,0,none⟩=some (.pointer none)) (hsh:w.shape? b=some (65,2)) (hfz:w.frozen? ⟨b,0,none⟩=false) :
  Calls Tryz.prog 160 #[.pointer (some ⟨b,0,none⟩)] w fun e w'=>e=.returned (.tuple #[])∧w'=w.setCell ⟨b,0,none⟩ (.pointer (some ⟨b,0,none⟩)):=by
 obtain ⟨j,A,o⟩:=Option.map_eq_some_iff.1 sbSize
 go_enter Tryz.func160,Tryz.ntmps160
 go_wp2
 rw[Lib.run_to_unsafe w ⟨b,0,none⟩ Tryz.underlying62 Tryz.underlying236 A (by rw[o];decide) hsh (Nat.zero_lt_succ 1)]
 simp only[Result.andThen]
 rw[Oper.upon_value]
 go_wp2
 rw[run_callFunc_extern Tryz.func198 (by kernel_rfl) (by kernel_rfl) (by kernel_rfl) (e:=Extern.AbiNoEscape.same) (by kernel_rfl)]
 rw[Lib.run_noEscape]
 simp only[Result.andThen]
 rw[Oper.upon_value]
 go_wp2
 rw[Lib.run_from_unsafe w ⟨b,0,none⟩ Tryz.underlying236 Tryz.underlying62 A hsh sbLies]
 simp only[Result.andThen]
 rw[Oper.upon_value]
 go_wp2
 go_end0
 exact ⟨rfl,rfl⟩
theorem copyCheck_k (B b:Nat) (bs:List Value) (w:World) (h:Lib.IsBuilderF 65 5 B b bs w) :
  Calls Tryz.prog 160 #[.pointer (some ⟨b,0,none⟩)] w fun e w'=>e=.returned (.tuple #[])∧(Lib.BuilderAtF 65 5 B b (.pointer (some ⟨b,0,none⟩)) bs w'∧Below B w w'∧Lib.OthersKept 5 (some b) w w'):=by
 rcases h with h|h
 ·refine (copyCheck_fresh b w h.cell0 h.shape h.frozen0).mono ?_
  rintro e w' ⟨rfl,rfl⟩
  exact ⟨rfl,h.used _,(Below.refl B w).setCell (p:=⟨b,0,none⟩) h.1 _,(Lib.OthersKept.refl _ _ w).setCell ⟨b,0,none⟩ rfl _⟩
 ·refine (copyCheck_used b w h.cell0).mono ?_
  rintro e w' ⟨rfl,rfl⟩
  exact ⟨rfl,h,Below.refl B _,Lib.OthersKept.refl _ _ _⟩
set_option maxHeartbeats 2000000 in
set_option maxRecDepth 100000 in
theorem WriteByte_k (B b:Nat) (bs:List Value) (c:Int) (w:World) (h:Lib.IsBuilderF 65 5 B b bs w) (hlen:bs.length+1≤140737488355328) (hBw:B≤w.heap.size) :
  Calls Tryz.prog 162 #[.pointer (some ⟨b,0,none⟩),.int .u8 c] w fun e w'=>e=.returned .nilIface∧(Lib.BuilderAtF 65 5 B b (.pointer (some ⟨b,0,none⟩)) (bs++[.int .u8 c]) w'∧Below B w w'∧Lib.OthersKept 5 (some b) w w'):=by
 obtain ⟨J,hi,F,H,G⟩:=info_parts byteInfo
 go_enter Tryz.func162,Tryz.ntmps162
 go_wp2_with (go_at_call 160;refine (copyCheck_k B b bs _ h).mono ?_)
 rintro e w1 ⟨rfl,h1,hb1,hk1⟩
 obtain ⟨hB,v,C,o,E⟩:=h1
 have c0:w1.cell? ⟨b,0,none⟩=some (.pointer (some ⟨b,0,none⟩)):=by rw[Lib.cell_of_heap C];rfl
 have c1:w1.cell? ⟨b,1,none⟩=some v:=by rw[Lib.cell_of_heap C];rfl
 go_wp2_with (at_builtin;refine wpList_append_ownF _ rfl _ _ 63 rfl B 5 J (.int .u8 0) 1 1 Tryz.underlying63 hi F H G rfl (by decide) _ _ _ rfl (o.alloc _) ⟨w1.heap.size,0,none⟩ 1 1 [.int .u8 c] rfl rfl ?c1 ?c2 ?c3 ?c4 ?c5 ?_)
 case c1 =>
  intro j u hj
  match j,hj with
  | 0,hj=>simp at hj;subst hj;simp[Addr.add]
 case c2=>intro u hu;simp at hu;subst hu;rfl
 case c3=>unfold maxLen;omega
 case c4=>omega
 case c5=>have:=hb1.size;simp;omega
 intro v' w2 hown' hgrow _
 have I:b<w1.heap.size:=by
  rcases ZX b w1.heap.size with h'|h'
  ·exact h'
  ·simp[Array.getElem?_eq_none h'] at C
 have A:w2.heap[b]?=some (.cells #[.pointer (some ⟨b,0,none⟩),v] 65 (0,0)):=by
  rw[hgrow.block b (by simp;omega) (fun e=>E e.symm),Lib.alloc_old w1 _ b I]
  exact C
 have L:w2.cell? ⟨b,0,none⟩=some (.pointer (some ⟨b,0,none⟩)):=by rw[Lib.cell_of_heap A];rfl
 have K:w2.cell? ⟨b,1,none⟩=some v:=by rw[Lib.cell_of_heap A];rfl
 have f1:w2.frozen? ⟨b,1,none⟩=false:=Lib.frozen_of_heap A 1
 obtain ⟨g,D,rfl⟩:∃ g D,v'=.slice (some ⟨g,0,none⟩) (bs.length+1) D:=by
  rcases hown'.2 with ⟨_,h0⟩|⟨g,D,cur,fz,hv,_⟩
  ·omega
  ·exact ⟨g,D,hv⟩
 go_wp2
 go_ret
 refine ⟨rfl,?_,?_,((hk1.alloc _).grown hgrow (Lib.ownsRowF_kind (o.alloc _))).setCell ⟨b,1,none⟩ rfl _⟩
 ·exact Lib.BuilderAtF.put (T:=65) (e:=5) hB A (bs':=bs++[.int .u8 c]) (by simpa using hown') (by decide)
 ·exact ((hb1.alloc (by have:=hb1.size;omega) _).grown hgrow (by have:=hb1.size;simp;omega) (fun k hk=>(o.lt k hk).1)).setCell (p:=⟨b,1,none⟩) hB _
set_option maxHeartbeats 2000000 in
set_option maxRecDepth 100000 in
theorem WriteString_k (B b:Nat) (bs:List Value) (s:ByteArray) (w:World) (h:Lib.IsBuilderF 65 5 B b bs w) (hlen:bs.length+s.size≤140737488355328) (hBw:B≤w.heap.size) :
  Calls Tryz.prog 88 #[.pointer (some ⟨b,0,none⟩),.string s] w fun e w'=>e=.returned (.tuple #[.int .i64 s.size,.nilIface])∧(Lib.BuilderAtF 65 5 B b (.pointer (some ⟨b,0,none⟩)) (bs++Lib.strCells s) w'∧Below B w w'∧Lib.OthersKept 5 (some b) w w'):=by
 obtain ⟨L,hi,F,H,G⟩:=info_parts byteInfo
 go_enter Tryz.func88,Tryz.ntmps88
 go_wp2_with (go_at_call 160;refine (copyCheck_k B b bs _ h).mono ?_)
 rintro e w1 ⟨rfl,h1,hb1,hk1⟩
 obtain ⟨hB,v,C,o,E⟩:=h1
 have c0:w1.cell? ⟨b,0,none⟩=some (.pointer (some ⟨b,0,none⟩)):=by rw[Lib.cell_of_heap C];rfl
 have c1:w1.cell? ⟨b,1,none⟩=some v:=by rw[Lib.cell_of_heap C];rfl
 go_wp2_with (at_builtin;refine Lib.wpList_append_own_stringF _ rfl _ _ 63 9 rfl B 5 L Tryz.underlying63 Tryz.underlying9 hi F H G _ _ _ rfl o s rfl ?c3 ?c4 ?c5 ?_)
 case c3=>unfold maxLen;omega
 case c4=>omega
 case c5=>have:=hb1.size;omega
 intro v' w2 hown' hgrow _
 have I:b<w1.heap.size:=by
  rcases ZX b w1.heap.size with h'|h'
  ·exact h'
  ·simp[Array.getElem?_eq_none h'] at C
 have A:w2.heap[b]?=some (.cells #[.pointer (some ⟨b,0,none⟩),v] 65 (0,0)):=by
  rw[hgrow.block b I (fun e=>E e.symm)]
  exact C
 have N:w2.cell? ⟨b,0,none⟩=some (.pointer (some ⟨b,0,none⟩)):=by rw[Lib.cell_of_heap A];rfl
 have M:w2.cell? ⟨b,1,none⟩=some v:=by rw[Lib.cell_of_heap A];rfl
 have f1:w2.frozen? ⟨b,1,none⟩=false:=Lib.frozen_of_heap A 1
 obtain ⟨K,J,D,rfl⟩:∃ K J D,v'=.slice K J D:=by
  rcases hown'.2 with ⟨hv,_⟩|⟨g,D,cur,fz,hv,_⟩
  ·exact ⟨_,_,_,hv⟩
  ·exact ⟨_,_,_,hv⟩
 go_wp2
 go_ret2
 refine ⟨rfl,?_,?_,(hk1.grown hgrow (Lib.ownsRowF_kind o)).setCell ⟨b,1,none⟩ rfl _⟩
 ·exact Lib.BuilderAtF.put (T:=65) (e:=5) hB A (bs':=bs++Lib.strCells s) (by simpa [Lib.strCells_length] using hown') (by decide)
 ·exact (hb1.grown hgrow (by have:=hb1.size;omega) (fun k hk=>(o.lt k hk).1)).setCell (p:=⟨b,1,none⟩) hB _
set_option maxHeartbeats 4000000 in
set_option maxRecDepth 100000 in
theorem WriteRune_k (B b:Nat) (bs:List Value) (r:Int) (hr0:-2147483648≤r) (hr1:r≤2147483647) (w:World) (h:Lib.IsBuilderF 65 5 B b bs w) (hlen:bs.length+4≤140737488355328) (hBw:B≤w.heap.size) :
  Calls Tryz.prog 227 #[.pointer (some ⟨b,0,none⟩),.int .i32 r] w fun e w'=>e=.returned (.tuple #[.int .i64 (Lib.runeCells r).length,.nilIface])∧(Lib.BuilderAtF 65 5 B b (.pointer (some ⟨b,0,none⟩)) (bs++Lib.runeCells r) w'∧Below B w w'∧Lib.OthersKept 5 (some b) w w'):=by
 have J:=Lib.runeCells_le r
 go_enter Tryz.func227,Tryz.ntmps227
 go_wp2_with (go_at_call 160;refine (copyCheck_k B b bs _ h).mono ?_)
 rintro e w1 ⟨rfl,h1,hb1,hk1⟩
 obtain ⟨hB,v,F,C,H⟩:=h1
 obtain ⟨G,D,rfl⟩:∃ G D,v=.slice G bs.length D:=by
  rcases C.2 with ⟨hv,h0⟩|⟨g,D,cur,fz,hv,_⟩
  ·exact ⟨none,0,by rw[hv,h0]⟩
  ·exact ⟨_,_,hv⟩
 have c0:w1.cell? ⟨b,0,none⟩=some (.pointer (some ⟨b,0,none⟩)):=by rw[Lib.cell_of_heap F];rfl
 have c1:w1.cell? ⟨b,1,none⟩=some (.slice G bs.length D):=by rw[Lib.cell_of_heap F];rfl
 go_wp2_with (go_at_call 240;refine (Tryz.utf8_AppendRune_row B _ bs.length bs r hr0 hr1 _ C hlen (by have:=hb1.size;omega)).mono ?_)
 rintro e w2 ⟨v',rfl,hown',o,hgrow⟩
 have I:b<w1.heap.size:=by
  rcases ZX b w1.heap.size with h'|h'
  ·exact h'
  ·simp[Array.getElem?_eq_none h'] at F
 have E:w2.heap[b]?=some (.cells #[.pointer (some ⟨b,0,none⟩),.slice G bs.length D] 65 (0,0)):=by
  rw[hgrow.block b (by simp;omega) (fun e=>H e.symm),Lib.alloc_old w1 _ b I]
  exact F
 have L:w2.cell? ⟨b,0,none⟩=some (.pointer (some ⟨b,0,none⟩)):=by rw[Lib.cell_of_heap E];rfl
 have K:w2.cell? ⟨b,1,none⟩=some (.slice G bs.length D):=by rw[Lib.cell_of_heap E];rfl
 have f1:w2.frozen? ⟨b,1,none⟩=false:=Lib.frozen_of_heap E 1
 obtain ⟨g,A,rfl⟩:∃ g A,v'=.slice (some ⟨g,0,none⟩) (bs.length+(Lib.runeCells r).length) A:=by
  rcases hown'.2 with ⟨_,h0⟩|⟨g,A,cur,fz,hv,_⟩
  ·omega
  ·exact ⟨g,A,hv⟩
 go_wp2
 go_ret2
 refine ⟨?_,?_,?_,((hk1.alloc _).grown hgrow (Lib.ownsRowF_kind (C.alloc _))).setCell ⟨b,1,none⟩ rfl _⟩
 ·have e:((bs.length:Int)+((Lib.runeCells r).length:Int)-(bs.length:Int))=((Lib.runeCells r).length:Int):=by omega
  simp[e]
 ·exact Lib.BuilderAtF.put (T:=65) (e:=5) hB E (bs':=bs++Lib.runeCells r) (by simpa using hown') (by decide)
 ·exact ((hb1.alloc (by have:=hb1.size;omega) _).grown hgrow (by have:=hb1.size;simp;omega) (fun k hk=>(C.lt k hk).1)).setCell (p:=⟨b,1,none⟩) hB _
theorem heap_lt {w:World} {k:Nat} {o:Obj} (h:w.heap[k]?=some o):k<w.heap.size:=by
 rcases ZX k w.heap.size with h'|h'
 ·exact h'
 ·simp[Array.getElem?_eq_none h'] at h
theorem isB_keep {T e:TypeId} {B b:Nat} {bs:List Value} {w w':World} (h:Lib.IsBuilderF T e B b bs w) (hk:∀ k,B≤k→k<w.heap.size→w'.heap[k]?=w.heap[k]?):Lib.IsBuilderF T e B b bs w':=by
 have o:∀ p,Lib.BuilderAtF T e B b p bs w→Lib.BuilderAtF T e B b p bs w':=by
  rintro p ⟨hB,v,hb,⟨hl,ho⟩,hne⟩
  refine ⟨hB,v,by rw[hk b hB (heap_lt hb)];exact hb,⟨hl,?_⟩,hne⟩
  rcases ho with ho|⟨g,cap,cur,fz,h1,h2,h3,h4⟩
  ·exact .inl ho
  ·exact .inr ⟨g,cap,cur,fz,h1,h2,by rw[hk g h2 (heap_lt h3)];exact h3,h4⟩
 exact h.imp (o _) (o _)
structure St (w0:World) (bx bo:Nat) (s:ByteArray) (b:Nat) (out:List UInt8) (w:World):Prop where
 scan:Scan w bx s b
 bld:IsB bo out w
 fr:Fr bx w0 w
 env:Env w
 lo:bx<bo
 hi:bo=w0.heap.size
 three:3≤bx
theorem St.le {w0:World} {bx bo:Nat} {s:ByteArray} {b:Nat} {out:List UInt8} {w:World} (h:St w0 bx bo s b out w):bo≤w.heap.size:=by
 have:=h.fr.size;rw[h.hi];exact this
theorem St.drewN {w0:World} {bx bo:Nat} {s:ByteArray} {b:Nat} {out:List UInt8} {w:World} (h:St w0 bx bo s b out w) (n:Nat):St w0 bx bo s b out (w.drewN n) :=
 ⟨h.scan.drewN n,isB_keep h.bld (fun _ _ _=>rfl),h.fr.drewN n,h.env.drewN n,h.lo,h.hi,h.three⟩
theorem St.put {w0:World} {bx bo:Nat} {s:ByteArray} {b:Nat} {out:List UInt8} {w:World} (h:St w0 bx bo s b out w) (n:Nat):St w0 bx bo s n out (w.setCell ⟨bx,1,none⟩ (.int .i64 n)) :=
 ⟨h.scan.put n,isB_keep h.bld (fun k hk _=>by have:=h.lo;exact Below.heap_setCell _ _ _ _ (fun e=>by simp at e;omega)),h.fr.set 1 _,h.env.fr (Fr.set (But.refl _ _) 1 _) h.three,h.lo,h.hi,h.three⟩
theorem St.below {w0:World} {bx bo:Nat} {s:ByteArray} {b:Nat} {out:List UInt8} {w w':World} (h:St w0 bx bo s b out w) (hb:Below w.heap.size w w'):St w0 bx bo s b out w' :=
 ⟨h.scan.below hb,isB_keep h.bld (fun k _ hk=>hb.block k hk),h.fr.trans (But.of_below hb),h.env.below hb,h.lo,h.hi,h.three⟩
theorem St.wrote {w0:World} {bx bo:Nat} {s:ByteArray} {b:Nat} {out out':List UInt8} {w w':World} (h:St w0 bx bo s b out w) (hB:IsB bo out' w') (hb:Below bo w w'):St w0 bx bo s b out' w':=by
 have C:Fr bx w0 w':=⟨hb.os.trans h.fr.os,hb.tape.trans h.fr.tape,hb.output.trans h.fr.output,Nat.le_trans h.fr.size hb.size,
  fun k hk hx=>(hb.block k (by rw[h.hi];exact hk)).trans (h.fr.block k hk hx)⟩
 have E:Scan w' bx s b:=by have:=h.scan;unfold Scan at *;rw[hb.block bx h.lo];exact this
 have B:Env w':=by
  have e:=h.env
  have F:=h.lo;have G:=h.three
  obtain ⟨⟨A,o⟩,m,D⟩:=e
  exact ⟨⟨fun c hc=>by rw[hb.cell (by simp;omega)];exact A c hc,fun i hi=>⟨by rw[hb.cell (by simp;omega)];exact (o i hi).1,by rw[hb.cell (by simp;omega)];exact (o i hi).2⟩⟩,m,by rw[hb.cell (by simp;omega)];exact D⟩
 exact ⟨E,hB,C,B,h.lo,h.hi,h.three⟩
theorem St.start {w0 w:World} {bx:Nat} {s:ByteArray} {b:Nat} (hS:Scan w bx s b) (hF:Fr bx w0 w) (hE:Env w) (hsz:w.heap.size=w0.heap.size) (h3:3≤bx) :
  St w0 bx w.heap.size s b [] (w.alloc (.cells #[.pointer none,.slice none 0 0] 65)):=by
 have o:=hS.lt
 refine ⟨hS.below ((Below.refl _ _).alloc (QM _) _),.inl ⟨QM _,.slice none 0 0,?_,⟨rfl,.inl ⟨rfl,rfl⟩⟩,by simp[Value.ownBlock]⟩,hF.alloc _,hE.below ((Below.refl _ _).alloc (QM _) _),o,hsz,h3⟩
 show (w.heap.push _)[w.heap.size]?=_
 simp
theorem St.rune {w0:World} {bx bo:Nat} {s:ByteArray} {b:Nat} {out:List UInt8} {w:World} (h:St w0 bx bo s b out w) (hl:out.length≤5000) (r:Nat) (hr:r<55296∨(57343<r∧r≤1114111)) :
  Calls Tryz.prog 227 #[.pointer (some ⟨bo,0,none⟩),.int .i32 r] w fun e w'=>(∃ n:Int,e=.returned (.tuple #[.int .i64 n,.nilIface]))∧St w0 bx bo s b (out++Lx.enc r) w':=by
 refine (WriteRune_k bo bo _ r (by omega) (by omega) w h.bld (by rw[Lib.byteCells_length];omega) h.le).mono ?_
 rintro e w' ⟨rfl,h1,h2,_⟩
 refine ⟨⟨_,rfl⟩,h.wrote (.inr ?_) h2⟩
 rw[← Lx.enc_lib r hr,Lib.byteCells_append,Lib.byteCells_encodeRune]
 exact h1
theorem St.byte {w0:World} {bx bo:Nat} {s:ByteArray} {b:Nat} {out:List UInt8} {w:World} (h:St w0 bx bo s b out w) (hl:out.length≤5000) (c:UInt8) :
  Calls Tryz.prog 162 #[.pointer (some ⟨bo,0,none⟩),.int .u8 c.toNat] w fun e w'=>e=.returned .nilIface∧St w0 bx bo s b (out++[c]) w':=by
 refine (WriteByte_k bo bo _ c.toNat w h.bld (by rw[Lib.byteCells_length];omega) h.le).mono ?_
 rintro e w' ⟨rfl,h1,h2,_⟩
 refine ⟨rfl,h.wrote (.inr ?_) h2⟩
 rw[Lib.byteCells_append]
 exact h1
theorem St.str {w0:World} {bx bo:Nat} {s:ByteArray} {b:Nat} {out:List UInt8} {w:World} (h:St w0 bx bo s b out w) (hl:out.length≤5000) (l:List UInt8) (hl2:l.length≤5000) :
  Calls Tryz.prog 88 #[.pointer (some ⟨bo,0,none⟩),.string ⟨l.toArray⟩] w fun e w'=>(∃ n:Int,e=.returned (.tuple #[.int .i64 n,.nilIface]))∧St w0 bx bo s b (out++l) w':=by
 refine (WriteString_k bo bo _ ⟨l.toArray⟩ w h.bld (by rw[Lib.byteCells_length];show _+l.length≤_;omega) h.le).mono ?_
 rintro e w' ⟨rfl,h1,h2,_⟩
 refine ⟨⟨_,rfl⟩,h.wrote (.inr ?_) h2⟩
 rw[Lib.byteCells_append]
 exact h1
theorem St.string {w0:World} {bx bo:Nat} {s:ByteArray} {b:Nat} {out:List UInt8} {w:World} (h:St w0 bx bo s b out w) :
  Calls Tryz.prog 33 #[.pointer (some ⟨bo,0,none⟩)] w fun e w'=>e=.returned (.string ⟨out.toArray⟩)∧St w0 bx bo s b out w':=by
 refine (Tryz.Builder_String_any_k bo bo out w h.bld h.le).mono ?_
 rintro e w' ⟨rfl,h1,h2,_⟩
 exact ⟨rfl,h.wrote h1 h2⟩
theorem hd_sfx' (s:ByteArray) (n:Nat):Lx.hd (sfx s n)=bt s n:=by
 have:=sfx_getD s n 0
 unfold Lx.hd
 cases h:sfx s n with
 | nil=>rw[h] at this;simpa using this
 | cons c t=>rw[h] at this;simpa using this
theorem escIdx (c:UInt8) (w:World) :
  Calls Tryz.prog 163 #[.string ⟨#[34,92,47,98,102,110,114,116,117]⟩,.int .u8 c.toNat] w fun e w'=>e=.returned (.int .i64 (Lib.indexByte Lx.escs c))∧w'=w:=by
 refine (Tryz.strings_IndexByte _ _ _).mono ?_
 rintro e w' ⟨rfl,rfl⟩
 refine ⟨?_,rfl⟩
 have o:((c.toNat:Int)).toNat.toUInt8=c:=by simp
 rw[o]
 rfl
def TxtPost (o:Option (List UInt8×List UInt8)) (bx:Nat) (s:ByteArray) (a:Nat) (w:World) (e:Ending) (w':World):Prop :=
 ∃ b,a<b∧b≤s.size∧Scan w' bx s b∧Fr bx w w'∧Env w' ∧
  ((∃ m,o=some (m,sfx s b)∧m.length≤b∧e=.returned (.tuple #[.string ⟨m.toArray⟩,.bool true]))∨(o=none∧e=.returned (.tuple #[.string ⟨#[]⟩,.bool false])))
set_option maxHeartbeats 8000000 in
set_option maxRecDepth 100000 in
theorem text_any (bx:Nat) (s:ByteArray) (a:Nat) (w:World) (hs:s.size≤4096) (hat:a<s.size) (h:Scan w bx s a) (hE:Env w) (h3:3≤bx) :
  Calls Tryz.prog 208 #[.pointer (some ⟨bx,0,none⟩)] w (TxtPost (Lx.text [] (sfx s (a+1))) bx s a w):=by
 have R:St w bx w.heap.size s (a+1) [] ((w.setCell ⟨bx,1,none⟩ (.int .i64 ((a+1:Nat):Int))).alloc (.cells #[.pointer none,.slice none 0 0] 65)):=by
  have:=St.start (w0:=w) (h.put (a+1)) (Fr.set (But.refl _ _) 1 _) (hE.fr (Fr.set (But.refl _ _) 1 _) h3) (by simp[World.setCell]) h3
  simpa [World.setCell] using this
 have H0:=QA R
 have c0:=h.c0;have c1:=h.c1;have f1:=h.f1
 clear R h hE
 go_enter Tryz.func208,Tryz.ntmps208
 go_wp2
 clear c0 c1 f1
 go_loopg [] (s.size-(a+1)) (fun k wr=>∃ b out,k=s.size-b∧a<b∧b≤s.size∧out.length≤b∧Lx.text out (sfx s b)=Lx.text [] (sfx s (a+1))∧St w bx w.heap.size s b out wr)
 case atStart=>exact ⟨a+1,[],rfl,by omega,hat,by simp,rfl,H0.out⟩
 case round =>
  obtain ⟨b,out,hk,ay,D,an,hd,C⟩:=hrel
  have c0:=C.scan.c0;have c1:=C.scan.c1;have f1:=C.scan.f1
  have H:=QA hd;have Y:=QA hk
  clear hd hk H0
  by_cases hlt:b<s.size
  ·have aA:(0:Int)≤(b:Int):=Int.natCast_nonneg _
   have Z:(b:Int)<s.size:=by omega
   have E:=QA (sfx_cons s b hlt)
   have aB:=Lx.rune_le4 (sfx s b)
   have ad:=Lx.rune_len (sfx s b)
   have ao:=Lx.rune_max (sfx s b)
   rw[sfx_len] at ad
   rcases Lx.ctl_cases (Lx.rune (sfx s b)).1 (Lx.rune (sfx s b)).2 with ⟨q1,q4⟩|⟨q1,q2,q3,q4⟩|⟨q1,q2,q3,q4⟩|⟨q1,q2,q4⟩
   ·have G:=QA q4
    clear q4
    go_wp2
    go_quiet (fail)
    go_wp2_with fail
    refine (rune_any bx s b _ hs D (C.scan.drewN _) (C.env.drewN _)).mono ?_
    rintro e w1 ⟨rfl,A⟩
    have o:=(C.drewN _).below A
    clear A c0 c1 f1
    have c0:=o.scan.c0;have c1:=o.scan.c1;have f1:=o.scan.f1
    go_wp2_with fail
    go_ret2
    exact ⟨b,by omega,D,o.scan,o.fr,o.env,.inr ⟨by rw[← H.out,E.out,Lx.text_bad (by rw[← E.out];exact G.out)],rfl⟩⟩
   ·have G:=QA q4
    clear q4
    go_wp2
    go_quiet (fail)
    go_wp2_with fail
    refine (rune_any bx s b _ hs D (C.scan.drewN _) (C.env.drewN _)).mono ?_
    rintro e w1 ⟨rfl,A⟩
    have o:=(C.drewN _).below A
    clear A c0 c1 f1
    have c0:=o.scan.c0;have c1:=o.scan.c1;have f1:=o.scan.f1
    go_wp2_with fail
    go_ret2
    exact ⟨b,by omega,D,o.scan,o.fr,o.env,.inr ⟨by rw[← H.out,E.out,Lx.text_bad (by rw[← E.out];exact G.out)],rfl⟩⟩
   all_goals
    have af:(Lx.rune (sfx s b)).2≠0:=fun h=>q4 (.inl h)
    have G:Hid (¬ Lx.ctl (bt s b::sfx s (b+1))):=by rw[← E.out];exact q4
    obtain ⟨M,K⟩:=Lx.rune_enc (sfx s b) af
    have Q:=QA K
    have ae:=QA M
    clear q4 K M
    by_cases h34:(Lx.rune (sfx s b)).1=34
    ·have e1:=eqT (n:=(Lx.rune (sfx s b)).1) (k:=34) (by omega)
     have O:=QA h34
     clear h34
     go_wp2
     go_quiet (fail)
     go_wp2_with fail
     refine (rune_any bx s b _ hs D (C.scan.drewN _) (C.env.drewN _)).mono ?_
     rintro e w1 ⟨rfl,A⟩
     have o:=(C.drewN _).below A
     clear A c0 c1 f1
     have c0:=o.scan.c0;have c1:=o.scan.c1;have f1:=o.scan.f1
     go_wp2_with fail
     refine (((o.put (b+1)).string)).mono ?_
     rintro e w2 ⟨rfl,hS2⟩
     go_wp2_with fail
     go_ret2
     refine ⟨b+1,by omega,hlt,hS2.scan,hS2.fr,hS2.env,.inl ⟨out,?_,by omega,rfl⟩⟩
     rw[← H.out,E.out,Lx.text_quote G.out (by rw[← E.out];exact O.out)]
    ·have e1:=eqF (n:=(Lx.rune (sfx s b)).1) (k:=34) (by omega)
     have O:=QA h34
     clear h34
     by_cases h92:(Lx.rune (sfx s b)).1=92
     ·have e2:=neF (n:=(Lx.rune (sfx s b)).1) (k:=92) (by omega)
      have F:=QA h92
      clear h92
      have hI:=escIdx (bt s (b+1))
      have W:=Lx.esc_cases (bt s (b+1))
      generalize Lib.indexByte Lx.escs (bt s (b+1))=kk at hI W
      have S:=QA hI
      clear hI
      rcases W with ⟨g1,g2,g3⟩|⟨g1,g4,g2,g3⟩|⟨g1,g2,g3⟩
      ·have N:=QA g2;have P:=QA g3
       have e3:decide (kk<0)=true:=by simpa using g1
       clear g2 g3
       go_wp2
       go_quiet (fail)
       go_wp2_with fail
       refine (rune_any bx s b _ hs D (C.scan.drewN _) (C.env.drewN _)).mono ?_
       rintro e w1 ⟨rfl,A⟩
       have o:=(C.drewN _).below A
       clear A c0 c1 f1
       have c0:=o.scan.c0;have c1:=o.scan.c1;have f1:=o.scan.f1
       go_wp2_with fail
       refine (peek1_any bx s b _ hs D o.scan).mono ?_
       rintro e w2 ⟨rfl,n2,rfl⟩
       go_wp2_with fail
       refine (S.out _).mono ?_
       rintro e w2 ⟨rfl,hw2⟩
       subst hw2
       go_wp2_with fail
       go_ret2
       exact ⟨b,by omega,D,o.scan.drewN _,o.fr.drewN _,o.env.drewN _,.inr ⟨by rw[← H.out,E.out,Lx.text_noesc G.out (by rw[← E.out];exact F.out) (by rw[hd_sfx'];exact N.out) (by rw[hd_sfx'];exact P.out)],rfl⟩⟩
      ·have N:=QA g2;have P:=QA g3
       have e3:decide (kk<0)=false:=by simp;omega
       have e4:decide (kk<8)=true:=by simp;omega
       have e5:=eqF (n:=(bt s (b+1)).toNat) (k:=0) (by omega)
       have A:b+1<s.size:=by
        rcases ZX (b+1) s.size with h'|h'
        ·exact h'
        ·rw[bt_end _ _ h'] at g3;exact absurd rfl g3
       clear g2 g3
       go_wp2
       go_quiet (fail)
       go_wp2_with fail
       refine (rune_any bx s b _ hs D (C.scan.drewN _) (C.env.drewN _)).mono ?_
       rintro e w1 ⟨rfl,A⟩
       have o:=(C.drewN _).below A
       clear A c0 c1 f1
       have c0:=o.scan.c0;have c1:=o.scan.c1;have f1:=o.scan.f1
       go_wp2_with fail
       refine (peek1_any bx s b _ hs D o.scan).mono ?_
       rintro e w2 ⟨rfl,n2,rfl⟩
       go_wp2_with fail
       refine (S.out _).mono ?_
       rintro e w2 ⟨rfl,hw2⟩
       subst hw2
       go_wp2_with fail
       refine (peek1_any bx s b _ hs D (o.scan.drewN _)).mono ?_
       rintro e w2 ⟨rfl,n3,hw3⟩
       have B:St w bx w.heap.size s b out w2:=by rw[hw3];exact (o.drewN _).drewN _
       clear hw3 c0 c1 f1 o
       have c0:=B.scan.c0;have c1:=B.scan.c1;have f1:=B.scan.f1
       go_wp2_with fail
       refine (B.byte (by omega) (bt ⟨#[34,92,47,8,12,10,13,9]⟩ kk.toNat)).mono ?_
       rintro e w4 ⟨rfl,hS4⟩
       clear c0 c1 f1
       have c0:=hS4.scan.c0;have c1:=hS4.scan.c1;have f1:=hS4.scan.f1
       go_wp2
       go_roundg (s.size-(b+2))
       case measure=>rw[Y.out];omega
       case rel =>
        refine ⟨b+2,out++[bt ⟨#[34,92,47,8,12,10,13,9]⟩ kk.toNat],rfl,by omega,by omega,by simp;omega,?_,hS4.put _⟩
        rw[← H.out,E.out,Lx.text_esc G.out (by rw[← E.out];exact F.out) (by rw[hd_sfx'];exact N.out),sfx_drop]
        rfl
      ·have N:=QA g2;have P:=QA g3
       have e3:decide (kk<0)=false:=by simp;omega
       have e4:decide (kk<8)=false:=by simp;omega
       have e5:=eqF (n:=(bt s (b+1)).toNat) (k:=0) (by omega)
       have A:b+1<s.size:=by
        rcases ZX (b+1) s.size with h'|h'
        ·exact h'
        ·rw[bt_end _ _ h'] at g3;exact absurd g3 (by decide)
       have al:(0:Int)≤(b:Int)+2:=by omega
       have am:(b:Int)+2≤s.size:=by omega
       have aw:=extract_sfx s (b+2)
       have V:=hex_any ⟨(sfx s (b+2)).toArray⟩
       have T:(ByteArray.mk (sfx s (b+2)).toArray).size≤4096:=by
        show (sfx s (b+2)).length≤4096
        rw[sfx_len];omega
       have aa:(ByteArray.mk (sfx s (b+2)).toArray).data.toList=sfx s (b+2):=rfl
       have J:Hid (∀ w',Calls Tryz.prog 228 #[.string ⟨(sfx s (b+2)).toArray⟩] w' fun e w''=>e=.returned (.int .i32 (hexAns (Lx.hex (sfx s (b+2)))))∧w''=w'):=fun w'=>V w' T
       have HP:=QA hd_sfx'
       clear g2 g3 V T aa
       have L:(hexAns (Lx.hex (sfx s (b+2)))=-1∧Lx.hex (sfx s (b+2))=none)∨∃ v:Nat,v<65536∧b+6≤s.size∧hexAns (Lx.hex (sfx s (b+2)))=(v:Int)∧Lx.hex (sfx s (b+2))=some v:=by
        cases hh:Lx.hex (sfx s (b+2)) with
        | none=>exact .inl ⟨rfl,rfl⟩
        | some v =>
         have h1:=Lx.hexs_len 4 0 _ _ hh
         rw[sfx_len] at h1
         exact .inr ⟨v,Lx.hex_lt hh,by omega,rfl,rfl⟩
       generalize hexAns (Lx.hex (sfx s (b+2)))=hv at J L
       rcases L with ⟨rfl,hx⟩|⟨v,hv1,hv2,rfl,hx⟩
       ·have X:=QA hx
        clear hx
        go_wp2
        go_quiet (fail)
        go_wp2_with fail
        refine (rune_any bx s b _ hs D (C.scan.drewN _) (C.env.drewN _)).mono ?_
        rintro e w1 ⟨rfl,A⟩
        have o:=(C.drewN _).below A
        clear A c0 c1 f1
        have c0:=o.scan.c0;have c1:=o.scan.c1;have f1:=o.scan.f1
        go_wp2_with fail
        refine (peek1_any bx s b _ hs D o.scan).mono ?_
        rintro e w2 ⟨rfl,n2,rfl⟩
        go_wp2_with fail
        refine (S.out _).mono ?_
        rintro e w2 ⟨rfl,hw2⟩
        subst hw2
        go_wp2_with fail
        refine (peek1_any bx s b _ hs D (o.scan.drewN _)).mono ?_
        rintro e w2 ⟨rfl,n3,hw3⟩
        have B:St w bx w.heap.size s b out w2:=by rw[hw3];exact (o.drewN _).drewN _
        clear hw3 c0 c1 f1 o
        have c0:=B.scan.c0;have c1:=B.scan.c1;have f1:=B.scan.f1
        go_wp2
        go_quiet ((exact Calls.quiet_of_same (J.out _)))
        go_wp2
        go_ret2
        exact ⟨b,by omega,D,B.scan.drewN _,B.fr.drewN _,B.env.drewN _,.inr ⟨by rw[← H.out,E.out,Lx.text_nohex G.out (by rw[← E.out];exact F.out) (by rw[hd_sfx'];exact N.out) (by rw[hd_sfx'];exact P.out) (by rw[sfx_drop];exact X.out)],rfl⟩⟩
       ·have X:=QA hx
        clear hx
        have aq:decide ((v:Int)<0)=false:=by simp
        by_cases hsur:55296≤v∧v<57344
        ·have s1:decide (55296≤(v:Int))=true:=by simp;omega
         have s2:decide ((v:Int)<57344)=true:=by simp;omega
         have I:=QA hsur
         clear hsur
         go_wp2
         go_quiet (fail)
         go_wp2_with fail
         refine (rune_any bx s b _ hs D (C.scan.drewN _) (C.env.drewN _)).mono ?_
         rintro e w1 ⟨rfl,A⟩
         have o:=(C.drewN _).below A
         clear A c0 c1 f1
         have c0:=o.scan.c0;have c1:=o.scan.c1;have f1:=o.scan.f1
         go_wp2_with fail
         refine (peek1_any bx s b _ hs D o.scan).mono ?_
         rintro e w2 ⟨rfl,n2,rfl⟩
         go_wp2_with fail
         refine (S.out _).mono ?_
         rintro e w2 ⟨rfl,hw2⟩
         subst hw2
         go_wp2_with fail
         refine (peek1_any bx s b _ hs D (o.scan.drewN _)).mono ?_
         rintro e w2 ⟨rfl,n3,hw3⟩
         have B:St w bx w.heap.size s b out w2:=by rw[hw3];exact (o.drewN _).drewN _
         clear hw3 c0 c1 f1 o
         have c0:=B.scan.c0;have c1:=B.scan.c1;have f1:=B.scan.f1
         go_wp2
         go_quiet ((exact Calls.quiet_of_same (J.out _)))
         go_wp2
         go_ret2
         exact ⟨b,by omega,D,B.scan.drewN _,B.fr.drewN _,B.env.drewN _,.inr ⟨by rw[← H.out,E.out,Lx.text_sur G.out (by rw[← E.out];exact F.out) (by rw[hd_sfx'];exact N.out) (by rw[hd_sfx'];exact P.out) (by rw[sfx_drop];exact X.out) I.out],rfl⟩⟩
        ·have U:decide (55296≤(v:Int))=false∨(decide (55296≤(v:Int))=true∧decide ((v:Int)<57344)=false):=by
          by_cases h':55296≤v
          ·exact .inr ⟨by simp;omega,by simp;omega⟩
          ·exact .inl (by simp;omega)
         have I:=QA hsur
         clear hsur
         rcases U with s1|⟨s1,s2⟩
         all_goals
          go_wp2
          go_quiet (fail)
          go_wp2_with fail
          refine (rune_any bx s b _ hs D (C.scan.drewN _) (C.env.drewN _)).mono ?_
          rintro e w1 ⟨rfl,A⟩
          have o:=(C.drewN _).below A
          clear A c0 c1 f1
          have c0:=o.scan.c0;have c1:=o.scan.c1;have f1:=o.scan.f1
          go_wp2_with fail
          refine (peek1_any bx s b _ hs D o.scan).mono ?_
          rintro e w2 ⟨rfl,n2,rfl⟩
          go_wp2_with fail
          refine (S.out _).mono ?_
          rintro e w2 ⟨rfl,hw2⟩
          subst hw2
          go_wp2_with fail
          refine (peek1_any bx s b _ hs D (o.scan.drewN _)).mono ?_
          rintro e w2 ⟨rfl,n3,hw3⟩
          have B:St w bx w.heap.size s b out w2:=by rw[hw3];exact (o.drewN _).drewN _
          clear hw3 c0 c1 f1 o
          have c0:=B.scan.c0;have c1:=B.scan.c1;have f1:=B.scan.f1
          go_wp2
          go_quiet ((exact Calls.quiet_of_same (J.out _)))
          go_wp2_with fail
          refine ((B.drewN _).rune (by omega) v (by have:=I.out;omega)).mono ?_
          rintro e w5 ⟨⟨n5,rfl⟩,hS5⟩
          clear c0 c1 f1
          have c0:=hS5.scan.c0;have c1:=hS5.scan.c1;have f1:=hS5.scan.f1
          go_wp2
          go_roundg (s.size-(b+6))
          case measure=>rw[Y.out];omega
          case rel =>
           have ac:=Lx.enc_len v
           refine ⟨b+6,out++Lx.enc v,rfl,by omega,by omega,by simp;omega,?_,hS5.put _⟩
           rw[← H.out,E.out,Lx.text_uni G.out (by rw[← E.out];exact F.out) (by rw[hd_sfx'];exact N.out) (by rw[hd_sfx'];exact P.out) (by rw[sfx_drop];exact X.out) I.out,sfx_drop]
     ·have e2:=neT (n:=(Lx.rune (sfx s b)).1) (k:=92) (by omega)
      have F:=QA h92
      clear h92
      go_wp2
      go_quiet (fail)
      go_wp2_with fail
      refine (rune_any bx s b _ hs D (C.scan.drewN _) (C.env.drewN _)).mono ?_
      rintro e w1 ⟨rfl,A⟩
      have o:=(C.drewN _).below A
      clear A c0 c1 f1
      have c0:=o.scan.c0;have c1:=o.scan.c1;have f1:=o.scan.f1
      go_wp2_with fail
      refine (o.rune (by omega) _ ae.out).mono ?_
      rintro e w2 ⟨⟨n2,rfl⟩,hS2⟩
      clear c0 c1 f1
      have c0:=hS2.scan.c0;have c1:=hS2.scan.c1;have f1:=hS2.scan.f1
      go_wp2
      go_roundg (s.size-(b+(Lx.rune (sfx s b)).2))
      case measure=>rw[Y.out];omega
      case rel =>
       have ac:=Lx.rune_le4 (sfx s b)
       refine ⟨b+(Lx.rune (sfx s b)).2,out++Lx.enc (Lx.rune (sfx s b)).1,rfl,by omega,by omega,?_,?_,hS2.put _⟩
       ·rw[Q.out,List.length_append,List.length_take];omega
       ·have:=Lx.text_plain (out:=out) G.out (by rw[← E.out];exact O.out) (by rw[← E.out];exact F.out)
        rw[← E.out] at this
        rw[← H.out,this,Q.out,sfx_drop]
  ·have Z:(s.size:Int)≤b:=by omega
   go_wp2
   go_quiet (fail)
   go_wp2
   go_ret2
   exact ⟨b,by omega,D,C.scan.drewN _,C.fr.drewN _,C.env.drewN _,.inr ⟨by rw[← H.out,sfx_end s b (by omega),Lx.text_nil],rfl⟩⟩
theorem asciiInfo:(Tryz.prog.info? 203).map (fun i=>(i.zero,i.size))=some (some (.agg (Array.replicate 256 (.bool false))),256):=by kernel_rfl
theorem trimSp (l:ByteArray) (w:World) :
  Calls Tryz.prog 243 #[.string l,.string ⟨#[32,9]⟩] w fun e w'=>e=.returned (.string ⟨(l.data.toList.dropWhile Lx.isSp).toArray⟩)∧Below w.heap.size w w' :=
 Any.strings_TrimLeft_laid Tryz.lays161 asciiInfo l ⟨#[32,9]⟩ w (by decide) (by
  intro j b h
  match j with
  | 0=>simp at h;subst h;decide
  | 1=>simp at h;subst h;decide
  | j+2=>simp at h)
set_option maxHeartbeats 400000 in
theorem indent_any (l:ByteArray) (w:World) (hl:l.size≤100000) :
  Calls Tryz.prog 238 #[.string l] w fun e w'=>e=.returned (.int .i64 (Lx.ind l.data.toList))∧Below w.heap.size w w':=by
 have B:=Lx.dropWhile_le Lx.isSp l.data.toList
 have o:l.data.toList.length=l.size:=by simp
 go_enter Tryz.func238,Tryz.ntmps238
 go_wp2_with fail
 refine (trimSp _ _).mono ?_
 rintro e w1 ⟨rfl,hb⟩
 have A:(ByteArray.mk (List.dropWhile Lx.isSp l.data.toList).toArray).size=(List.dropWhile Lx.isSp l.data.toList).length:=rfl
 go_wp2
 go_ret
 refine ⟨ret_int ?_,hb⟩
 unfold Lx.ind
 rw[o]
 show (l.size:Int)-((List.dropWhile Lx.isSp l.data.toList).length:Int)=_
 omega
end Go.Proofs.YtefjgpkpplkkgaaGreatDoor
