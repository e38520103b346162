/-
  strings.Builder: copyCheck, WriteByte, WriteString, WriteRune at this translation (the shelf's own contracts do not fit here: copyCheck's panic is struck from the translation). After the shelf's BuilderK and BuilderRune, turned to this program. A scanner's method that builds a text: what its world is like. The lexer's 'text', walked. The lexer's 'indent', walked. The lexer's 'dedent', walked.
-/
import Derived.Test.YtedeapbonbbacaaGreatDoorZr7
import Derived.Test.YtedeapbonbbacaaGreatDoorZr10
import Derived.Shelf.Strings.BuilderRune
import Derived.Test.YtedeapbonbbacaaGreatDoorZr11
import Derived.Outline
import Derived.Deep.LoopGhost
import Derived.Test.YtedeapbonbbacaaGreatDoorZr3
import Derived.Shelf.Strings.SlTrimAscii
import Derived.Deep.DeepCutAuto
open Go.Lib renaming hid → QA
open List renaming length_map → QV, mem_of_getElem? → QZ, drop_eq_getElem_cons → ZC, getElem?_eq_getElem → ZH, length_take → ZI
open Nat renaming le_refl → QM, lt_or_ge → ZV
namespace Go.Proofs.YtedeapbonbbacaaGreatDoor
set_option maxRecDepth 100000
set_option maxHeartbeats 4000000
set_option linter.unusedSimpArgs false
set_option linter.unusedVariables false
open Go Go.RowKit
abbrev IsB (b:Nat) (l:List UInt8) (w:World):Prop:=Lib.IsBuilderF 168 5 b b (Lib.byteCells l) w
theorem JP:(Tryz.prog.info? 168).map (·.size)=some 2:=by kernel_rfl
theorem K2:liesAt Tryz.prog Tryz.prog.depth 168 (2 / Tryz.prog.cellsOf 168) 0 168 1=true:=by kernel_rfl
theorem Fw:(Tryz.prog.info? 5).map (λi=>(i.zero,i.size,i.bytes))=some (some (.int .u8 0),1,1):=by kernel_rfl
theorem D5 (b:Nat) (w:World) (h0:w.cell? ⟨b,0,none⟩=some (.pointer (some ⟨b,0,none⟩))) :
  Calls Tryz.prog 130 #[.pointer (some ⟨b,0,none⟩)] w λe w'=>e=.returned (.tuple #[])∧w'=w:=by
 obtain⟨j,o,_⟩:=Option.map_eq_some_iff.1 JP;go_enter Tryz.func130,Tryz.ntmps130;go_wp2;rw[Lib.run_neq_ptr_same w _ Tryz.underlying166 o];go_wp2;go_end0;exact⟨rfl,rfl⟩
theorem Do (b:Nat) (w:World) (h0:w.cell? ⟨b,0,none⟩=some (.pointer none)) (hsh:w.shape? b=some (168,2)) (hfz:w.frozen? ⟨b,0,none⟩=false) :
  Calls Tryz.prog 130 #[.pointer (some ⟨b,0,none⟩)] w λe w'=>e=.returned (.tuple #[])∧w'=w.setCell ⟨b,0,none⟩ (.pointer (some ⟨b,0,none⟩)):=by
 obtain⟨j,A,o⟩:=Option.map_eq_some_iff.1 JP;go_enter Tryz.func130,Tryz.ntmps130;go_wp2;rw[Lib.run_to_unsafe w ⟨b,0,none⟩ Tryz.underlying166 Tryz.underlying197 A (by rw[o];decide) hsh (Nat.zero_lt_succ 1)];simp only[Result.andThen];rw[Oper.upon_value];go_wp2;rw[run_callFunc_extern Tryz.func138 (by kernel_rfl) (by kernel_rfl) (by kernel_rfl) (e:=Extern.AbiNoEscape.same) (by kernel_rfl)];rw[Lib.run_noEscape];simp only[Result.andThen];rw[Oper.upon_value];go_wp2;rw[Lib.run_from_unsafe w ⟨b,0,none⟩ Tryz.underlying197 Tryz.underlying166 A hsh K2];simp only[Result.andThen];rw[Oper.upon_value];go_wp2;go_end0;exact⟨rfl,rfl⟩
theorem CN (B b:Nat) (bs:List Value) (w:World) (h:Lib.IsBuilderF 168 5 B b bs w) :
  Calls Tryz.prog 130 #[.pointer (some ⟨b,0,none⟩)] w λe w'=>e=.returned (.tuple #[])∧(Lib.BuilderAtF 168 5 B b (.pointer (some ⟨b,0,none⟩)) bs w'∧Below B w w'∧Lib.OthersKept 5 (some b) w w'):=by
 rcases h with h|h
 ·refine (Do b w h.cell0 h.shape h.frozen0).mono ?_;rintro e w' ⟨rfl,rfl⟩;exact⟨rfl,h.used _,(Below.refl B w).setCell (p:=⟨b,0,none⟩) h.1 _,(Lib.OthersKept.refl _ _ w).setCell ⟨b,0,none⟩ rfl _⟩
 ·refine (D5 b w h.cell0).mono ?_;rintro e w' ⟨rfl,rfl⟩;exact⟨rfl,h,Below.refl B _,Lib.OthersKept.refl _ _ _⟩
theorem GG (B b:Nat) (bs:List Value) (c:Int) (w:World) (h:Lib.IsBuilderF 168 5 B b bs w) (hlen:bs.length+1≤140737488355328) (hBw:B≤w.heap.size) :
  Calls Tryz.prog 117 #[.pointer (some ⟨b,0,none⟩),.int .u8 c] w λe w'=>e=.returned .nilIface∧(Lib.BuilderAtF 168 5 B b (.pointer (some ⟨b,0,none⟩)) (bs++[.int .u8 c]) w'∧Below B w w'∧Lib.OthersKept 5 (some b) w w'):=by
 obtain⟨K,hi,I,E,G⟩:=info_parts Fw;go_enter Tryz.func117,Tryz.ntmps117;go_wp2_with (go_at_call 130;refine (CN B b bs _ h).mono ?_);rintro e w1 ⟨rfl,h1,hb1,hk1⟩;obtain⟨J,v,C,o,H⟩:=h1;have c0:w1.cell? ⟨b,0,none⟩=some (.pointer (some ⟨b,0,none⟩)):=by rw[Lib.cell_of_heap C];rfl
 have c1:w1.cell? ⟨b,1,none⟩=some v:=by rw[Lib.cell_of_heap C];rfl
 go_wp2_with (at_builtin;refine wpList_append_ownF _ rfl _ _ 24 rfl B 5 K (.int .u8 0) 1 1 Tryz.underlying24 hi I E G rfl (by decide) _ _ _ rfl (o.alloc _) ⟨w1.heap.size,0,none⟩ 1 1 [.int .u8 c] rfl rfl ?c1 ?c2 ?c3 ?c4 ?c5 ?_)
 case c1 =>
  intro j u hj
  match j,hj with
  | 0,hj=>simp at hj;subst hj;simp[Addr.add]
 case c2=>intro u hu;simp at hu;subst hu;rfl
 case c3=>unfold maxLen;omega
 case c4=>omega
 case c5=>have:=hb1.size;simp;omega
 intro v' w2 hown' hgrow _;have F:b<w1.heap.size:=by
  rcases ZV b w1.heap.size with h'|h'
  ·exact h'
  ·simp[Array.getElem?_eq_none h']at C
 have A:w2.heap[b]?=some (.cells #[.pointer (some ⟨b,0,none⟩),v] 168 (0,0)):=by
  rw[hgrow.block b (by simp;omega) (λe=>H e.symm),Lib.alloc_old w1 _ b F];exact C
 have L:w2.cell? ⟨b,0,none⟩=some (.pointer (some ⟨b,0,none⟩)):=by rw[Lib.cell_of_heap A];rfl
 have M:w2.cell? ⟨b,1,none⟩=some v:=by rw[Lib.cell_of_heap A];rfl
 have f1:w2.frozen? ⟨b,1,none⟩=false:=Lib.frozen_of_heap A 1;obtain⟨g,D,rfl⟩:∃g D,v'=.slice (some ⟨g,0,none⟩) (bs.length+1) D:=by
  rcases hown'.2 with⟨_,h0⟩|⟨g,D,cur,fz,hv,_⟩
  ·omega
  ·exact⟨g,D,hv⟩
 go_wp2;go_ret;refine⟨rfl,?_,?_,((hk1.alloc _).grown hgrow (Lib.ownsRowF_kind (o.alloc _))).setCell ⟨b,1,none⟩ rfl _⟩
 ·exact Lib.BuilderAtF.put (T:=168) (e:=5) J A (bs':=bs++[.int .u8 c]) (by simpa using hown') (by decide)
 ·exact ((hb1.alloc (by have:=hb1.size;omega) _).grown hgrow (by have:=hb1.size;simp;omega) (λk hk=>(o.lt k hk).1)).setCell (p:=⟨b,1,none⟩) J _
theorem EZ (B b:Nat) (bs:List Value) (s:ByteArray) (w:World) (h:Lib.IsBuilderF 168 5 B b bs w) (hlen:bs.length+s.size≤140737488355328) (hBw:B≤w.heap.size) :
  Calls Tryz.prog 115 #[.pointer (some ⟨b,0,none⟩),.string s] w λe w'=>e=.returned (.tuple #[.int .i64 s.size,.nilIface])∧(Lib.BuilderAtF 168 5 B b (.pointer (some ⟨b,0,none⟩)) (bs++Lib.strCells s) w'∧Below B w w'∧Lib.OthersKept 5 (some b) w w'):=by
 obtain⟨M,hi,I,E,G⟩:=info_parts Fw;go_enter Tryz.func115,Tryz.ntmps115;go_wp2_with (go_at_call 130;refine (CN B b bs _ h).mono ?_);rintro e w1 ⟨rfl,h1,hb1,hk1⟩;obtain⟨L,v,C,o,H⟩:=h1;have c0:w1.cell? ⟨b,0,none⟩=some (.pointer (some ⟨b,0,none⟩)):=by rw[Lib.cell_of_heap C];rfl
 have c1:w1.cell? ⟨b,1,none⟩=some v:=by rw[Lib.cell_of_heap C];rfl
 go_wp2_with (at_builtin;refine Lib.wpList_append_own_stringF _ rfl _ _ 24 9 rfl B 5 M Tryz.underlying24 Tryz.underlying9 hi I E G _ _ _ rfl o s rfl ?c3 ?c4 ?c5 ?_)
 case c3=>unfold maxLen;omega
 case c4=>omega
 case c5=>have:=hb1.size;omega
 intro v' w2 hown' hgrow _;have F:b<w1.heap.size:=by
  rcases ZV b w1.heap.size with h'|h'
  ·exact h'
  ·simp[Array.getElem?_eq_none h']at C
 have A:w2.heap[b]?=some (.cells #[.pointer (some ⟨b,0,none⟩),v] 168 (0,0)):=by
  rw[hgrow.block b F (λe=>H e.symm)];exact C
 have N:w2.cell? ⟨b,0,none⟩=some (.pointer (some ⟨b,0,none⟩)):=by rw[Lib.cell_of_heap A];rfl
 have O:w2.cell? ⟨b,1,none⟩=some v:=by rw[Lib.cell_of_heap A];rfl
 have f1:w2.frozen? ⟨b,1,none⟩=false:=Lib.frozen_of_heap A 1;obtain⟨J,K,D,rfl⟩:∃J K D,v'=.slice J K D:=by
  rcases hown'.2 with⟨hv,_⟩|⟨g,D,cur,fz,hv,_⟩
  ·exact⟨_,_,_,hv⟩
  ·exact⟨_,_,_,hv⟩
 go_wp2;go_ret2;refine⟨rfl,?_,?_,(hk1.grown hgrow (Lib.ownsRowF_kind o)).setCell ⟨b,1,none⟩ rfl _⟩
 ·exact Lib.BuilderAtF.put (T:=168) (e:=5) L A (bs':=bs++Lib.strCells s) (by simpa [Lib.strCells_length] using hown') (by decide)
 ·exact (hb1.grown hgrow (by have:=hb1.size;omega) (λk hk=>(o.lt k hk).1)).setCell (p:=⟨b,1,none⟩) L _
theorem Fx (B b:Nat) (bs:List Value) (r:Int) (hr0:-2147483648≤r) (hr1:r≤2147483647) (w:World) (h:Lib.IsBuilderF 168 5 B b bs w) (hlen:bs.length+4≤140737488355328) (hBw:B≤w.heap.size) :
  Calls Tryz.prog 116 #[.pointer (some ⟨b,0,none⟩),.int .i32 r] w λe w'=>e=.returned (.tuple #[.int .i64 (Lib.runeCells r).length,.nilIface])∧(Lib.BuilderAtF 168 5 B b (.pointer (some ⟨b,0,none⟩)) (bs++Lib.runeCells r) w'∧Below B w w'∧Lib.OthersKept 5 (some b) w w'):=by
 have K:=Lib.runeCells_le r;go_enter Tryz.func116,Tryz.ntmps116;go_wp2_with (go_at_call 130;refine (CN B b bs _ h).mono ?_);rintro e w1 ⟨rfl,h1,hb1,hk1⟩;obtain⟨J,v,F,C,I⟩:=h1;obtain⟨G,D,rfl⟩:∃G D,v=.slice G bs.length D:=by
  rcases C.2 with⟨hv,h0⟩|⟨g,D,cur,fz,hv,_⟩
  ·exact⟨none,0,by rw[hv,h0]⟩
  ·exact⟨_,_,hv⟩
 have c0:w1.cell? ⟨b,0,none⟩=some (.pointer (some ⟨b,0,none⟩)):=by rw[Lib.cell_of_heap F];rfl
 have c1:w1.cell? ⟨b,1,none⟩=some (.slice G bs.length D):=by rw[Lib.cell_of_heap F];rfl
 go_wp2_with (go_at_call 131;refine (Tryz.utf8_AppendRune_row B _ bs.length bs r hr0 hr1 _ C hlen (by have:=hb1.size;omega)).mono ?_);rintro e w2 ⟨v',rfl,hown',o,hgrow⟩;have H:b<w1.heap.size:=by
  rcases ZV b w1.heap.size with h'|h'
  ·exact h'
  ·simp[Array.getElem?_eq_none h']at F
 have E:w2.heap[b]?=some (.cells #[.pointer (some ⟨b,0,none⟩),.slice G bs.length D] 168 (0,0)):=by
  rw[hgrow.block b (by simp;omega) (λe=>I e.symm),Lib.alloc_old w1 _ b H];exact F
 have L:w2.cell? ⟨b,0,none⟩=some (.pointer (some ⟨b,0,none⟩)):=by rw[Lib.cell_of_heap E];rfl
 have M:w2.cell? ⟨b,1,none⟩=some (.slice G bs.length D):=by rw[Lib.cell_of_heap E];rfl
 have f1:w2.frozen? ⟨b,1,none⟩=false:=Lib.frozen_of_heap E 1;obtain⟨g,A,rfl⟩:∃g A,v'=.slice (some ⟨g,0,none⟩) (bs.length+(Lib.runeCells r).length) A:=by
  rcases hown'.2 with⟨_,h0⟩|⟨g,A,cur,fz,hv,_⟩
  ·omega
  ·exact⟨g,A,hv⟩
 go_wp2;go_ret2;refine⟨?_,?_,?_,((hk1.alloc _).grown hgrow (Lib.ownsRowF_kind (C.alloc _))).setCell ⟨b,1,none⟩ rfl _⟩
 ·have e:((bs.length:Int)+((Lib.runeCells r).length:Int)-(bs.length:Int))=((Lib.runeCells r).length:Int):=by omega
  simp[e]
 ·exact Lib.BuilderAtF.put (T:=168) (e:=5) J E (bs':=bs++Lib.runeCells r) (by simpa using hown') (by decide)
 ·exact ((hb1.alloc (by have:=hb1.size;omega) _).grown hgrow (by have:=hb1.size;simp;omega) (λk hk=>(C.lt k hk).1)).setCell (p:=⟨b,1,none⟩) J _
theorem Ct {w:World} {k:Nat} {o:Obj} (h:w.heap[k]?=some o):k<w.heap.size:=by
 rcases ZV k w.heap.size with h'|h'
 ·exact h'
 ·simp[Array.getElem?_eq_none h']at h
theorem ED {T e:TypeId} {B b:Nat} {bs:List Value} {w w':World} (h:Lib.IsBuilderF T e B b bs w) (hk:∀k,B≤k→k<w.heap.size→w'.heap[k]?=w.heap[k]?):Lib.IsBuilderF T e B b bs w':=by
 have o:∀p,Lib.BuilderAtF T e B b p bs w→Lib.BuilderAtF T e B b p bs w':=by
  rintro p ⟨hB,v,hb,⟨hl,ho⟩,hne⟩;refine⟨hB,v,by rw[hk b hB (Ct hb)];exact hb,⟨hl,?_⟩,hne⟩;rcases ho with ho|⟨g,cap,cur,fz,h1,h2,h3,h4⟩
  ·exact .inl ho
  ·exact .inr ⟨g,cap,cur,fz,h1,h2,by rw[hk g h2 (Ct h3)];exact h3,h4⟩
 exact h.imp (o _) (o _)
structure St (w0:World) (bx bo:Nat) (s:ByteArray) (b:Nat) (out:List UInt8) (w:World):Prop where
 scan:AN w bx s b
 bld:IsB bo out w
 fr:Fr bx w0 w
 env:Env w
 lo:bx<bo
 hi:bo=w0.heap.size
 three:3≤bx
theorem St.le {w0:World} {bx bo:Nat} {s:ByteArray} {b:Nat} {out:List UInt8} {w:World} (h:St w0 bx bo s b out w):bo≤w.heap.size:=by
 have:=h.fr.size;rw[h.hi];exact this
theorem St.drewN {w0:World} {bx bo:Nat} {s:ByteArray} {b:Nat} {out:List UInt8} {w:World} (h:St w0 bx bo s b out w) (n:Nat):St w0 bx bo s b out (w.drewN n) :=
 ⟨h.scan.drewN n,ED h.bld (λ_ _ _=>rfl),h.fr.drewN n,h.env.drewN n,h.lo,h.hi,h.three⟩
theorem St.put {w0:World} {bx bo:Nat} {s:ByteArray} {b:Nat} {out:List UInt8} {w:World} (h:St w0 bx bo s b out w) (n:Nat):St w0 bx bo s n out (w.setCell ⟨bx,1,none⟩ (.int .i64 n)) :=
 ⟨h.scan.put n,ED h.bld (λk hk _=>by have:=h.lo;exact Below.heap_setCell _ _ _ _ (λe=>by simp at e;omega)),h.fr.set 1 _,h.env.fr (Fr.set (But.refl _ _) 1 _) h.three,h.lo,h.hi,h.three⟩
theorem St.below {w0:World} {bx bo:Nat} {s:ByteArray} {b:Nat} {out:List UInt8} {w w':World} (h:St w0 bx bo s b out w) (hb:Below w.heap.size w w'):St w0 bx bo s b out w' :=
 ⟨h.scan.below hb,ED h.bld (λk _ hk=>hb.block k hk),h.fr.trans (But.of_below hb),h.env.below hb,h.lo,h.hi,h.three⟩
theorem St.wrote {w0:World} {bx bo:Nat} {s:ByteArray} {b:Nat} {out out':List UInt8} {w w':World} (h:St w0 bx bo s b out w) (hB:IsB bo out' w') (hb:Below bo w w'):St w0 bx bo s b out' w':=by
 have C:Fr bx w0 w':=⟨hb.os.trans h.fr.os,hb.tape.trans h.fr.tape,hb.output.trans h.fr.output,Nat.le_trans h.fr.size hb.size,
  λk hk hx=>(hb.block k (by rw[h.hi];exact hk)).trans (h.fr.block k hk hx)⟩
 have E:AN w' bx s b:=by have:=h.scan;unfold AN at *;rw[hb.block bx h.lo];exact this
 have D:Env w':=by
  have e:=h.env;have F:=h.lo;have G:=h.three;obtain⟨⟨B,o⟩,m,A⟩:=e;exact⟨⟨λc hc=>by rw[hb.cell (by simp;omega)];exact B c hc,λi hi=>⟨by rw[hb.cell (by simp;omega)];exact (o i hi).1,by rw[hb.cell (by simp;omega)];exact (o i hi).2⟩⟩,m,by rw[hb.cell (by simp;omega)];exact A⟩
 exact⟨E,hB,C,D,h.lo,h.hi,h.three⟩
theorem St.start {w0 w:World} {bx:Nat} {s:ByteArray} {b:Nat} (hS:AN w bx s b) (hF:Fr bx w0 w) (hE:Env w) (hsz:w.heap.size=w0.heap.size) (h3:3≤bx) :
  St w0 bx w.heap.size s b [] (w.alloc (.cells #[.pointer none,.slice none 0 0] 168)):=by
 have o:=hS.lt;refine⟨hS.below ((Below.refl _ _).alloc (QM _) _),.inl ⟨QM _,.slice none 0 0,?_,⟨rfl,.inl ⟨rfl,rfl⟩⟩,by simp[Value.ownBlock]⟩,hF.alloc _,hE.below ((Below.refl _ _).alloc (QM _) _),o,hsz,h3⟩;show (w.heap.push _)[w.heap.size]?=_;simp
theorem St.rune {w0:World} {bx bo:Nat} {s:ByteArray} {b:Nat} {out:List UInt8} {w:World} (h:St w0 bx bo s b out w) (hl:out.length≤5000) (r:Nat) (hr:r<55296∨(57343<r∧r≤1114111)) :
  Calls Tryz.prog 116 #[.pointer (some ⟨bo,0,none⟩),.int .i32 r] w λe w'=>(∃n:Int,e=.returned (.tuple #[.int .i64 n,.nilIface]))∧St w0 bx bo s b (out++Lx.enc r) w':=by
 refine (Fx bo bo _ r (by omega) (by omega) w h.bld (by rw[Lib.byteCells_length];omega) h.le).mono ?_;rintro e w' ⟨rfl,h1,h2,_⟩;refine⟨⟨_,rfl⟩,h.wrote (.inr ?_) h2⟩;rw[← Lx.enc_lib r hr,Lib.byteCells_append,Lib.byteCells_encodeRune];exact h1
theorem St.byte {w0:World} {bx bo:Nat} {s:ByteArray} {b:Nat} {out:List UInt8} {w:World} (h:St w0 bx bo s b out w) (hl:out.length≤5000) (c:UInt8) :
  Calls Tryz.prog 117 #[.pointer (some ⟨bo,0,none⟩),.int .u8 c.toNat] w λe w'=>e=.returned .nilIface∧St w0 bx bo s b (out++[c]) w':=by
 refine (GG bo bo _ c.toNat w h.bld (by rw[Lib.byteCells_length];omega) h.le).mono ?_;rintro e w' ⟨rfl,h1,h2,_⟩;refine⟨rfl,h.wrote (.inr ?_) h2⟩;rw[Lib.byteCells_append];exact h1
theorem St.str {w0:World} {bx bo:Nat} {s:ByteArray} {b:Nat} {out:List UInt8} {w:World} (h:St w0 bx bo s b out w) (hl:out.length≤5000) (l:List UInt8) (hl2:l.length≤5000) :
  Calls Tryz.prog 115 #[.pointer (some ⟨bo,0,none⟩),.string ⟨l.toArray⟩] w λe w'=>(∃n:Int,e=.returned (.tuple #[.int .i64 n,.nilIface]))∧St w0 bx bo s b (out++l) w':=by
 refine (EZ bo bo _ ⟨l.toArray⟩ w h.bld (by rw[Lib.byteCells_length];show _+l.length≤_;omega) h.le).mono ?_;rintro e w' ⟨rfl,h1,h2,_⟩;refine⟨⟨_,rfl⟩,h.wrote (.inr ?_) h2⟩;rw[Lib.byteCells_append];exact h1
theorem St.string {w0:World} {bx bo:Nat} {s:ByteArray} {b:Nat} {out:List UInt8} {w:World} (h:St w0 bx bo s b out w) :
  Calls Tryz.prog 114 #[.pointer (some ⟨bo,0,none⟩)] w λe w'=>e=.returned (.string ⟨out.toArray⟩)∧St w0 bx bo s b out w':=by
 refine (Tryz.Builder_String_any_k bo bo out w h.bld h.le).mono ?_;rintro e w' ⟨rfl,h1,h2,_⟩;exact⟨rfl,h.wrote h1 h2⟩
theorem BV (s:ByteArray) (n:Nat):Lx.hd (sfx s n)=bt s n:=by
 have:=Fj s n 0;unfold Lx.hd;cases h:sfx s n with
 | nil=>rw[h]at this;simpa using this
 | cons c t=>rw[h]at this;simpa using this
theorem Kg (c:UInt8) (w:World) :
  Calls Tryz.prog 91 #[.string ⟨#[34,92,47,98,102,110,114,116,117]⟩,.int .u8 c.toNat] w λe w'=>e=.returned (.int .i64 (Lib.indexByte Lx.escs c))∧w'=w:=by
 refine (Tryz.strings_IndexByte _ _ _).mono ?_;rintro e w' ⟨rfl,rfl⟩;refine⟨?_,rfl⟩;have o:((c.toNat:Int)).toNat.toUInt8=c:=by simp
 rw[o];rfl
def Jp (o:Option (List UInt8×List UInt8)) (bx:Nat) (s:ByteArray) (a:Nat) (w:World) (e:Ending) (w':World):Prop :=
 ∃b,a<b∧b≤s.size∧AN w' bx s b∧Fr bx w w'∧Env w' ∧
  ((∃m,o=some (m,sfx s b)∧m.length≤b∧e=.returned (.tuple #[.string ⟨m.toArray⟩,.bool true]))∨(o=none∧e=.returned (.tuple #[.string ⟨#[]⟩,.bool false])))
set_option maxHeartbeats 8000000 in
theorem Jd (bx:Nat) (s:ByteArray) (a:Nat) (w:World) (hs:s.size≤4096) (hat:a<s.size) (h:AN w bx s a) (hE:Env w) (h3:3≤bx) :
  Calls Tryz.prog 90 #[.pointer (some ⟨bx,0,none⟩)] w (Jp (Lx.text [] (sfx s (a+1))) bx s a w):=by
 have T:St w bx w.heap.size s (a+1) [] ((w.setCell ⟨bx,1,none⟩ (.int .i64 ((a+1:Nat):Int))).alloc (.cells #[.pointer none,.slice none 0 0] 168)):=by
  have:=St.start (w0:=w) (h.put (a+1)) (Fr.set (But.refl _ _) 1 _) (hE.fr (Fr.set (But.refl _ _) 1 _) h3) (by simp[World.setCell]) h3
  simpa [World.setCell] using this
 have H0:=QA T;have c0:=h.c0;have c1:=h.c1;have f1:=h.f1;clear T h hE;go_enter Tryz.func90,Tryz.ntmps90;go_wp2;clear c0 c1 f1
 go_loopg [] (s.size-(a+1)) (λk wr=>∃b out,k=s.size-b∧a<b∧b≤s.size∧out.length≤b∧Lx.text out (sfx s b)=Lx.text [] (sfx s (a+1))∧St w bx w.heap.size s b out wr)
 case atStart=>exact⟨a+1,[],rfl,by omega,hat,by simp,rfl,H0.out⟩
 case round =>
  obtain⟨b,out,hk,ap,D,aw,hd,C⟩:=hrel;have c0:=C.scan.c0;have c1:=C.scan.c1;have f1:=C.scan.f1;have H:=QA hd;have HK:=QA hk;clear hd hk H0;by_cases hlt:b<s.size
  ·have ao:(0:Int)≤(b:Int):=Int.natCast_nonneg _;have Y:(b:Int)<s.size:=by omega
   have E:=QA (Ax s b hlt);have am:=Lx.rune_le4 (sfx s b);have ab:=Lx.rune_len (sfx s b);have aA:=Lx.rune_max (sfx s b);rw[AQ]at ab;rcases Lx.ctl_cases (Lx.rune (sfx s b)).1 (Lx.rune (sfx s b)).2 with⟨q1,q4⟩|⟨q1,q2,q3,q4⟩|⟨q1,q2,q3,q4⟩|⟨q1,q2,q4⟩
   ·have G:=QA q4;clear q4;go_wp2
    go_quiet (fail)
    go_wp2_with fail;refine (Aw bx s b _ hs D (C.scan.drewN _) (C.env.drewN _)).mono ?_;rintro e w1 ⟨rfl,A⟩;have o:=(C.drewN _).below A;clear A c0 c1 f1;have c0:=o.scan.c0;have c1:=o.scan.c1;have f1:=o.scan.f1;go_wp2_with fail;go_ret2;exact⟨b,by omega,D,o.scan,o.fr,o.env,.inr ⟨by rw[← H.out,E.out,Lx.text_bad (by rw[← E.out];exact G.out)],rfl⟩⟩
   ·have G:=QA q4;clear q4;go_wp2
    go_quiet (fail)
    go_wp2_with fail;refine (Aw bx s b _ hs D (C.scan.drewN _) (C.env.drewN _)).mono ?_;rintro e w1 ⟨rfl,A⟩;have o:=(C.drewN _).below A;clear A c0 c1 f1;have c0:=o.scan.c0;have c1:=o.scan.c1;have f1:=o.scan.f1;go_wp2_with fail;go_ret2;exact⟨b,by omega,D,o.scan,o.fr,o.env,.inr ⟨by rw[← H.out,E.out,Lx.text_bad (by rw[← E.out];exact G.out)],rfl⟩⟩
   all_goals
    have Z:(Lx.rune (sfx s b)).2≠0:=λh=>q4 (.inl h)
    have G:Hid (¬Lx.ctl (bt s b::sfx s (b+1))):=by rw[← E.out];exact q4
    obtain⟨K,L⟩:=Lx.rune_enc (sfx s b) Z;have W:=QA L;have ae:=QA K;clear q4 L K;by_cases h34:(Lx.rune (sfx s b)).1=34
    ·have e1:=eqT (n:=(Lx.rune (sfx s b)).1) (k:=34) (by omega);have O:=QA h34;clear h34;go_wp2
     go_quiet (fail)
     go_wp2_with fail;refine (Aw bx s b _ hs D (C.scan.drewN _) (C.env.drewN _)).mono ?_;rintro e w1 ⟨rfl,A⟩;have o:=(C.drewN _).below A;clear A c0 c1 f1;have c0:=o.scan.c0;have c1:=o.scan.c1;have f1:=o.scan.f1;go_wp2_with fail;refine (((o.put (b+1)).string)).mono ?_;rintro e w2 ⟨rfl,hS2⟩;go_wp2_with fail;go_ret2;refine⟨b+1,by omega,hlt,hS2.scan,hS2.fr,hS2.env,.inl ⟨out,?_,by omega,rfl⟩⟩;rw[← H.out,E.out,Lx.text_quote G.out (by rw[← E.out];exact O.out)]
    ·have e1:=eqF (n:=(Lx.rune (sfx s b)).1) (k:=34) (by omega);have O:=QA h34;clear h34;by_cases h92:(Lx.rune (sfx s b)).1=92
     ·have e2:=neF (n:=(Lx.rune (sfx s b)).1) (k:=92) (by omega);have F:=QA h92;clear h92;have hI:=Kg (bt s (b+1));have V:=Lx.esc_cases (bt s (b+1))
      generalize Lib.indexByte Lx.escs (bt s (b+1))=kk at hI V
      have R:=QA hI;clear hI;rcases V with⟨g1,g2,g3⟩|⟨g1,g4,g2,g3⟩|⟨g1,g2,g3⟩
      ·have N:=QA g2;have P:=QA g3;have e3:decide (kk<0)=true:=by simpa using g1
       clear g2 g3;go_wp2
       go_quiet (fail)
       go_wp2_with fail;refine (Aw bx s b _ hs D (C.scan.drewN _) (C.env.drewN _)).mono ?_;rintro e w1 ⟨rfl,A⟩;have o:=(C.drewN _).below A;clear A c0 c1 f1;have c0:=o.scan.c0;have c1:=o.scan.c1;have f1:=o.scan.f1;go_wp2_with fail;refine (BD bx s b _ hs D o.scan).mono ?_;rintro e w2 ⟨rfl,n2,rfl⟩;go_wp2_with fail;refine (R.out _).mono ?_;rintro e w2 ⟨rfl,hw2⟩;subst hw2;go_wp2_with fail;go_ret2;exact⟨b,by omega,D,o.scan.drewN _,o.fr.drewN _,o.env.drewN _,.inr ⟨by rw[← H.out,E.out,Lx.text_noesc G.out (by rw[← E.out];exact F.out) (by rw[BV];exact N.out) (by rw[BV];exact P.out)],rfl⟩⟩
      ·have N:=QA g2;have P:=QA g3;have e3:decide (kk<0)=false:=by simp;omega
       have e4:decide (kk<8)=true:=by simp;omega
       have e5:=eqF (n:=(bt s (b+1)).toNat) (k:=0) (by omega);have A:b+1<s.size:=by
        rcases ZV (b+1) s.size with h'|h'
        ·exact h'
        ·rw[bt_end _ _ h']at g3;exact absurd rfl g3
       clear g2 g3;go_wp2
       go_quiet (fail)
       go_wp2_with fail;refine (Aw bx s b _ hs D (C.scan.drewN _) (C.env.drewN _)).mono ?_;rintro e w1 ⟨rfl,A⟩;have o:=(C.drewN _).below A;clear A c0 c1 f1;have c0:=o.scan.c0;have c1:=o.scan.c1;have f1:=o.scan.f1;go_wp2_with fail;refine (BD bx s b _ hs D o.scan).mono ?_;rintro e w2 ⟨rfl,n2,rfl⟩;go_wp2_with fail;refine (R.out _).mono ?_;rintro e w2 ⟨rfl,hw2⟩;subst hw2;go_wp2_with fail;refine (BD bx s b _ hs D (o.scan.drewN _)).mono ?_;rintro e w2 ⟨rfl,n3,hw3⟩;have B:St w bx w.heap.size s b out w2:=by rw[hw3];exact (o.drewN _).drewN _
       clear hw3 c0 c1 f1 o;have c0:=B.scan.c0;have c1:=B.scan.c1;have f1:=B.scan.f1;go_wp2_with fail;refine (B.byte (by omega) (bt ⟨#[34,92,47,8,12,10,13,9]⟩ kk.toNat)).mono ?_;rintro e w4 ⟨rfl,hS4⟩;clear c0 c1 f1;have c0:=hS4.scan.c0;have c1:=hS4.scan.c1;have f1:=hS4.scan.f1;go_wp2;go_roundg (s.size-(b+2))
       case measure=>rw[HK.out];omega
       case rel =>
        refine⟨b+2,out++[bt ⟨#[34,92,47,8,12,10,13,9]⟩ kk.toNat],rfl,by omega,by omega,by simp;omega,?_,hS4.put _⟩;rw[← H.out,E.out,Lx.text_esc G.out (by rw[← E.out];exact F.out) (by rw[BV];exact N.out),Ah];rfl
      ·have N:=QA g2;have P:=QA g3;have e3:decide (kk<0)=false:=by simp;omega
       have e4:decide (kk<8)=false:=by simp;omega
       have e5:=eqF (n:=(bt s (b+1)).toNat) (k:=0) (by omega);have A:b+1<s.size:=by
        rcases ZV (b+1) s.size with h'|h'
        ·exact h'
        ·rw[bt_end _ _ h']at g3;exact absurd g3 (by decide)
       have ay:(0:Int)≤(b:Int)+2:=by omega
       have au:(b:Int)+2≤s.size:=by omega
       have av:=BZ s (b+2);have U:=Jo ⟨(sfx s (b+2)).toArray⟩;have S:(ByteArray.mk (sfx s (b+2)).toArray).size≤4096:=by
        show (sfx s (b+2)).length≤4096;rw[AQ];omega
       have ad:(ByteArray.mk (sfx s (b+2)).toArray).data.toList=sfx s (b+2):=rfl;have I:Hid (∀w',Calls Tryz.prog 118 #[.string ⟨(sfx s (b+2)).toArray⟩] w' λe w''=>e=.returned (.int .i32 (EL (Lx.hex (sfx s (b+2)))))∧w''=w'):=λw'=>U w' S
       have HP:=QA BV;clear g2 g3 U S ad;have M:(EL (Lx.hex (sfx s (b+2)))=-1∧Lx.hex (sfx s (b+2))=none)∨∃v:Nat,v<65536∧b+6≤s.size∧EL (Lx.hex (sfx s (b+2)))=(v:Int)∧Lx.hex (sfx s (b+2))=some v:=by
        cases hh:Lx.hex (sfx s (b+2)) with
        | none=>exact .inl ⟨rfl,rfl⟩
        | some v =>
         have h1:=Lx.hexs_len 4 0 _ _ hh;rw[AQ]at h1;exact .inr ⟨v,Lx.hex_lt hh,by omega,rfl,rfl⟩
       generalize EL (Lx.hex (sfx s (b+2)))=hv at I M
       rcases M with⟨rfl,hx⟩|⟨v,hv1,hv2,rfl,hx⟩
       ·have X:=QA hx;clear hx;go_wp2
        go_quiet (fail)
        go_wp2_with fail;refine (Aw bx s b _ hs D (C.scan.drewN _) (C.env.drewN _)).mono ?_;rintro e w1 ⟨rfl,A⟩;have o:=(C.drewN _).below A;clear A c0 c1 f1;have c0:=o.scan.c0;have c1:=o.scan.c1;have f1:=o.scan.f1;go_wp2_with fail;refine (BD bx s b _ hs D o.scan).mono ?_;rintro e w2 ⟨rfl,n2,rfl⟩;go_wp2_with fail;refine (R.out _).mono ?_;rintro e w2 ⟨rfl,hw2⟩;subst hw2;go_wp2_with fail;refine (BD bx s b _ hs D (o.scan.drewN _)).mono ?_;rintro e w2 ⟨rfl,n3,hw3⟩;have B:St w bx w.heap.size s b out w2:=by rw[hw3];exact (o.drewN _).drewN _
        clear hw3 c0 c1 f1 o;have c0:=B.scan.c0;have c1:=B.scan.c1;have f1:=B.scan.f1;go_wp2
        go_quiet ((exact Calls.quiet_of_same (I.out _)))
        go_wp2;go_ret2;exact⟨b,by omega,D,B.scan.drewN _,B.fr.drewN _,B.env.drewN _,.inr ⟨by rw[← H.out,E.out,Lx.text_nohex G.out (by rw[← E.out];exact F.out) (by rw[BV];exact N.out) (by rw[BV];exact P.out) (by rw[Ah];exact X.out)],rfl⟩⟩
       ·have X:=QA hx;clear hx;have an:decide ((v:Int)<0)=false:=by simp
        by_cases hsur:55296≤v∧v<57344
        ·have s1:decide (55296≤(v:Int))=true:=by simp;omega
         have s2:decide ((v:Int)<57344)=true:=by simp;omega
         have J:=QA hsur;clear hsur;go_wp2
         go_quiet (fail)
         go_wp2_with fail;refine (Aw bx s b _ hs D (C.scan.drewN _) (C.env.drewN _)).mono ?_;rintro e w1 ⟨rfl,A⟩;have o:=(C.drewN _).below A;clear A c0 c1 f1;have c0:=o.scan.c0;have c1:=o.scan.c1;have f1:=o.scan.f1;go_wp2_with fail;refine (BD bx s b _ hs D o.scan).mono ?_;rintro e w2 ⟨rfl,n2,rfl⟩;go_wp2_with fail;refine (R.out _).mono ?_;rintro e w2 ⟨rfl,hw2⟩;subst hw2;go_wp2_with fail;refine (BD bx s b _ hs D (o.scan.drewN _)).mono ?_;rintro e w2 ⟨rfl,n3,hw3⟩;have B:St w bx w.heap.size s b out w2:=by rw[hw3];exact (o.drewN _).drewN _
         clear hw3 c0 c1 f1 o;have c0:=B.scan.c0;have c1:=B.scan.c1;have f1:=B.scan.f1;go_wp2
         go_quiet ((exact Calls.quiet_of_same (I.out _)))
         go_wp2;go_ret2;exact⟨b,by omega,D,B.scan.drewN _,B.fr.drewN _,B.env.drewN _,.inr ⟨by rw[← H.out,E.out,Lx.text_sur G.out (by rw[← E.out];exact F.out) (by rw[BV];exact N.out) (by rw[BV];exact P.out) (by rw[Ah];exact X.out) J.out],rfl⟩⟩
        ·have Q:decide (55296≤(v:Int))=false∨(decide (55296≤(v:Int))=true∧decide ((v:Int)<57344)=false):=by
          by_cases h':55296≤v
          ·exact .inr ⟨by simp;omega,by simp;omega⟩
          ·exact .inl (by simp;omega)
         have J:=QA hsur;clear hsur;rcases Q with s1|⟨s1,s2⟩
         all_goals
          go_wp2
          go_quiet (fail)
          go_wp2_with fail;refine (Aw bx s b _ hs D (C.scan.drewN _) (C.env.drewN _)).mono ?_;rintro e w1 ⟨rfl,A⟩;have o:=(C.drewN _).below A;clear A c0 c1 f1;have c0:=o.scan.c0;have c1:=o.scan.c1;have f1:=o.scan.f1;go_wp2_with fail;refine (BD bx s b _ hs D o.scan).mono ?_;rintro e w2 ⟨rfl,n2,rfl⟩;go_wp2_with fail;refine (R.out _).mono ?_;rintro e w2 ⟨rfl,hw2⟩;subst hw2;go_wp2_with fail;refine (BD bx s b _ hs D (o.scan.drewN _)).mono ?_;rintro e w2 ⟨rfl,n3,hw3⟩;have B:St w bx w.heap.size s b out w2:=by rw[hw3];exact (o.drewN _).drewN _
          clear hw3 c0 c1 f1 o;have c0:=B.scan.c0;have c1:=B.scan.c1;have f1:=B.scan.f1;go_wp2
          go_quiet ((exact Calls.quiet_of_same (I.out _)))
          go_wp2_with fail;refine ((B.drewN _).rune (by omega) v (by have:=J.out;omega)).mono ?_;rintro e w5 ⟨⟨n5,rfl⟩,hS5⟩;clear c0 c1 f1;have c0:=hS5.scan.c0;have c1:=hS5.scan.c1;have f1:=hS5.scan.f1;go_wp2;go_roundg (s.size-(b+6))
          case measure=>rw[HK.out];omega
          case rel =>
           have ac:=Lx.enc_len v;refine⟨b+6,out++Lx.enc v,rfl,by omega,by omega,by simp;omega,?_,hS5.put _⟩;rw[← H.out,E.out,Lx.text_uni G.out (by rw[← E.out];exact F.out) (by rw[BV];exact N.out) (by rw[BV];exact P.out) (by rw[Ah];exact X.out) J.out,Ah]
     ·have e2:=neT (n:=(Lx.rune (sfx s b)).1) (k:=92) (by omega);have F:=QA h92;clear h92;go_wp2
      go_quiet (fail)
      go_wp2_with fail;refine (Aw bx s b _ hs D (C.scan.drewN _) (C.env.drewN _)).mono ?_;rintro e w1 ⟨rfl,A⟩;have o:=(C.drewN _).below A;clear A c0 c1 f1;have c0:=o.scan.c0;have c1:=o.scan.c1;have f1:=o.scan.f1;go_wp2_with fail;refine (o.rune (by omega) _ ae.out).mono ?_;rintro e w2 ⟨⟨n2,rfl⟩,hS2⟩;clear c0 c1 f1;have c0:=hS2.scan.c0;have c1:=hS2.scan.c1;have f1:=hS2.scan.f1;go_wp2;go_roundg (s.size-(b+(Lx.rune (sfx s b)).2))
      case measure=>rw[HK.out];omega
      case rel =>
       have ac:=Lx.rune_le4 (sfx s b);refine⟨b+(Lx.rune (sfx s b)).2,out++Lx.enc (Lx.rune (sfx s b)).1,rfl,by omega,by omega,?_,?_,hS2.put _⟩
       ·rw[W.out,List.length_append,ZI];omega
       ·have:=Lx.text_plain (out:=out) G.out (by rw[← E.out];exact O.out) (by rw[← E.out];exact F.out);rw[← E.out]at this;rw[← H.out,this,W.out,Ah]
  ·have Y:(s.size:Int)≤b:=by omega
   go_wp2
   go_quiet (fail)
   go_wp2;go_ret2;exact⟨b,by omega,D,C.scan.drewN _,C.fr.drewN _,C.env.drewN _,.inr ⟨by rw[← H.out,Cc s b (by omega),Lx.text_nil],rfl⟩⟩
theorem IW:(Tryz.prog.info? 203).map (λi=>(i.zero,i.size))=some (some (.agg (Array.replicate 256 (.bool false))),256):=by kernel_rfl
theorem Kl (l:ByteArray) (w:World) :
  Calls Tryz.prog 136 #[.string l,.string ⟨#[32,9]⟩] w λe w'=>e=.returned (.string ⟨(l.data.toList.dropWhile Lx.isSp).toArray⟩)∧Below w.heap.size w w' :=
 Any.strings_TrimLeft_laid Tryz.lays161 IW l ⟨#[32,9]⟩ w (by decide) (by
  intro j b h
  match j with
  | 0=>simp at h;subst h;decide
  | 1=>simp at h;subst h;decide
  | j+2=>simp at h)
theorem G1 (l:ByteArray) (w:World) (hl:l.size≤100000) :
  Calls Tryz.prog 128 #[.string l] w λe w'=>e=.returned (.int .i64 (Lx.ind l.data.toList))∧Below w.heap.size w w':=by
 have B:=Lx.dropWhile_le Lx.isSp l.data.toList;have o:l.data.toList.length=l.size:=by simp
 go_enter Tryz.func128,Tryz.ntmps128;go_wp2_with fail;refine (Kl _ _).mono ?_;rintro e w1 ⟨rfl,hb⟩;have A:(ByteArray.mk (List.dropWhile Lx.isSp l.data.toList).toArray).size=(List.dropWhile Lx.isSp l.data.toList).length:=rfl;go_wp2;go_ret;refine⟨Ho ?_,hb⟩;unfold Lx.ind;rw[o];show (l.size:Int)-((List.dropWhile Lx.isSp l.data.toList).length:Int)=_;omega
def Row (w:World) (g:Nat) (ls:List (List UInt8)):Prop:=w.heap[g]?=some (.cells (ls.map λx=>Value.string ⟨x.toArray⟩).toArray 9 (0,0))
theorem Row.lt {w:World} {g:Nat} {ls:List (List UInt8)} (h:Row w g ls):g<w.heap.size:=by
 rcases ZV g w.heap.size with h'|h'
 ·exact h'
 ·unfold Row at h;simp[Array.getElem?_eq_none h']at h
theorem Row.cell {w:World} {g i:Nat} {ls:List (List UInt8)} {x:List UInt8} (h:Row w g ls) (hi:ls[i]?=some x):w.cell? ⟨g,i,none⟩=some (.string ⟨x.toArray⟩):=by
 unfold Row at h;simp[World.cell?,h,hi]
theorem Row.frozen {w:World} {g:Nat} {ls:List (List UInt8)} (h:Row w g ls) (i:Nat):w.frozen? ⟨g,i,none⟩=false:=by
 unfold Row at h;simp[World.frozen?,h]
theorem Row.below {w w':World} {g:Nat} {ls:List (List UInt8)} (h:Row w g ls) (hb:Below w.heap.size w w'):Row w' g ls:=by
 have o:=h.lt;unfold Row at *;rw[hb.block g o];exact h
theorem Row.set {w:World} {g:Nat} {ls:List (List UInt8)} (h:Row w g ls) (i:Nat) (y:List UInt8):Row (w.setCell ⟨g,i,none⟩ (.string ⟨y.toArray⟩)) g (ls.set i y):=by
 unfold Row at *;simp[World.setCell,Array.getElem?_modify,h,List.map_set]
theorem Row.drewN {w:World} {g:Nat} {ls:List (List UInt8)} (h:Row w g ls) (n:Nat):Row (w.drewN n) g ls:=h
theorem FG (x:List UInt8) (a:Nat):(ByteArray.mk x.toArray).extract a x.length=⟨(x.drop a).toArray⟩:=BZ ⟨x.toArray⟩ a
theorem JE (x:List UInt8) (c:Int) (h:0≤c):x.drop (min c (x.length:Int)).toNat=x.drop c.toNat:=by
 by_cases h1:c≤x.length
 ·rw[Int.min_eq_left h1]
 ·rw[Int.min_eq_right (by omega),List.drop_of_length_le (by omega),List.drop_of_length_le (by omega)]
theorem Jr (raw:List UInt8) (w:World) (hE:Env w) (hr:(Lx.nl raw).length≤100000) :
  Calls Tryz.prog 126 #[.string ⟨(Lx.nl raw).toArray⟩,.string ⟨#[10]⟩] w λe w'=>e=.returned (.slice (some ⟨w.heap.size,0,none⟩) (Lx.lines raw).length (Lx.lines raw).length)∧Row w' w.heap.size (Lx.lines raw)∧Below w.heap.size w w':=by
 obtain⟨_,m,o⟩:=hE;refine (Tryz.strings_Split _ _ m w (by show (Lx.nl raw).length<_;omega) o (by decide)).mono ?_;rintro e w' ⟨rfl,rfl⟩;rw[Lx.lines_len];refine⟨rfl,?_,(Below.refl _ _).alloc (QM _) _⟩;unfold Row;show (w.heap.push _)[w.heap.size]?=_;simp[Lx.lines,Lx.linesB,Function.comp_def]
theorem Hq (s old:List UInt8) (w:World) (hE:Env w) (h1:1≤old.length) (hr:s.length≤100000) :
  Calls Tryz.prog 127 #[.string ⟨s.toArray⟩,.string ⟨old.toArray⟩,.string ⟨#[10]⟩] w λe w'=>e=.returned (.string ⟨(Lib.replaceAll s old [10]).toArray⟩)∧Below w.heap.size w w':=by
 obtain⟨_,m,o⟩:=hE;have A:=Lib.count_le s old;refine (Tryz.strings_ReplaceAll ⟨s.toArray⟩ ⟨old.toArray⟩ ⟨#[10]⟩ m w (by show s.length<_;omega) o h1 ?_).mono ?_
 ·show s.length+Lib.count s old*1≤_;omega
 ·rintro e w' ⟨rfl,hb⟩;exact⟨rfl,hb⟩
theorem Ay (x:List UInt8) (w:World) (hl:x.length≤100000) :
  Calls Tryz.prog 128 #[.string ⟨x.toArray⟩] w λe w'=>e=.returned (.int .i64 (Lx.ind x))∧Below w.heap.size w w':=G1 ⟨x.toArray⟩ w hl
theorem Dn {α β:Type} (f:α→β→α) (a:α) (l:List β) (i:Nat) (x:β) (h:l[i]?=some x):(l.take (i+1)).foldl f a=f ((l.take i).foldl f a) x:=by
 rw[List.take_add_one,h,List.foldl_append];rfl
theorem List.getElem?_take_of_some {α:Type} {l:List α} {m i:Nat} {y:α} (h:(l.take m)[i]?=some y):l[i]?=some y:=by
 rw[List.getElem?_take]at h;split at h
 ·exact h
 ·cases h
theorem FQ (g o n cap:Nat) (xs:List (List UInt8)) (w:World) (hc:∀(i:Nat) y,xs[i]?=some y→w.cell? ⟨g,o+i,none⟩=some (.string ⟨y.toArray⟩)) (hg:g<w.heap.size)
  (hn:xs.length=n) (hcap:n≤cap) (hl:∀y∈xs,y.length≤100000) (hn2:n≤100000) :
  Calls Tryz.prog 129 #[.slice (some ⟨g,o,none⟩) n cap,.string ⟨#[10]⟩] w λe w'=>e=.returned (.string ⟨(Lib.join xs [10]).toArray⟩)∧Below w.heap.size w w':=by
 have A:(xs.map λx=>(ByteArray.mk x.toArray)).map (·.data.toList)=xs:=by simp[Function.comp_def]
 have B:=Lx.join_le xs 100000 hl;have:=Tryz.strings_Join g o cap (xs.map λx=>ByteArray.mk x.toArray) ⟨#[10]⟩ w (by
   intro j x h;rw[List.getElem?_map]at h;cases hx:xs[j]? with
   | none=>rw[hx]at h;simp at h
   | some y =>
    rw[hx]at h;simp only[Option.map_some,Option.some.injEq]at h;subst h;exact hc j y hx) hg (by rw[QV];omega) (by rw[QV];omega) (by
   rw[A];have C:xs.length*100001≤100000*100001:=Nat.mul_le_mul_right _ (by omega);show (Lib.join xs [10]).length≤_;omega)
 rw[A,QV,hn]at this;exact this
def KO (raw:List UInt8) (w:World) (e:Ending) (w':World):Prop:=e=.returned (.string ⟨(Lx.dedent raw).toArray⟩)∧Below w.heap.size w w'
set_option maxHeartbeats 8000000 in
theorem Gy (raw:List UInt8) (w:World) (hE:Env w) (hr:raw.length≤5000):Calls Tryz.prog 113 #[.string ⟨raw.toArray⟩] w (KO raw w):=by
 have a0:=Lx.replaceAll_len raw [13,10] [10] rfl;have a7:=Lx.nl_len raw;go_enter Tryz.func113,Tryz.ntmps113;go_wp2_with fail;refine (Hq raw [13,10] w hE (by decide) (by omega)).mono ?_;rintro e w1 ⟨rfl,hb1⟩;go_wp2_with fail;refine (Hq _ [13] w1 (hE.below hb1) (by decide) (by omega)).mono ?_;rintro e w2 ⟨rfl,hb2⟩;have J:=hb1.trans (hb2.mono hb1.size);have az:=hE.below J;go_wp2_with fail;refine (Jr raw w2 az (by omega)).mono ?_;rintro e w3 ⟨rfl,hR,hb3⟩;have bf:=Lx.lines_le raw;have aK:=Lx.line_le raw;have a4:=Lx.lines_len raw;have hB:Below w.heap.size w w3:=J.trans (hb3.mono J.size);have hg:w.heap.size≤w2.heap.size:=J.size;have HF:Hid (Lx.dedent raw=Lib.join (Lx.trimEnd ((Lx.strip (Lx.common (Lx.lines raw).tail) (Lx.lines raw)).dropWhile Lx.allSp)) [10]):=rfl
 generalize hls:Lx.lines raw=ls at *
 have h1:1≤ls.length:=by omega
 have af:=QA aK;clear aK a4 hls hb1 hb2 J hb3 a7 a0 hE az
 generalize w2.heap.size=g at *
 go_upto_region 3 with (fail)
 go_cut [3,14,15,16] (λs3 s14 s15 s16 wx=>wx=w3∧∃o1,s3=.slice (some ⟨g,0,none⟩) ls.length ls.length∧s14=.slice (some ⟨g,o1,none⟩) (ls.length-1) (ls.length-1)∧(2≤ls.length→o1=1)∧s15=.int .i64 ((ls.length-1:Nat):Int)∧s16=.int .i64 0)
 case first =>
  by_cases hn1:ls.length=1
  ·rw[hn1];go_wp2
   go_meet
   exact⟨rfl,0,by rw[hn1],by rw[hn1],by omega,by rw[hn1];rfl,rfl⟩
  ·have bm:2≤ls.length:=by omega
   have bu:=QA hn1;clear hn1;go_wp2
   go_meet
   exact⟨rfl,1,rfl,rfl,λ_=>rfl,rfl,rfl⟩
 case rest =>
  obtain⟨rfl,o1,rfl,rfl,aG,rfl,rfl⟩:=hcut;have aQ:=QA aG;clear aG;go_wp2_with fail
  go_loopg [4,16] (ls.length-1) (λk s4 s16 wr=>∃i:Nat,k=ls.length-1-i∧i≤ls.length-1∧s16=.int .i64 i∧s4=.int .i64 ((ls.tail.take i).foldl Lx.comStep (-1))∧Below wc.heap.size wc wr)
  case atStart=>exact⟨0,by omega,by omega,rfl,rfl,Below.refl _ _⟩
  case round =>
   obtain⟨i,R,hi,rfl,rfl,D⟩:=hrel;have HK:=QA R;clear R;by_cases hlt:i<ls.length-1
   ·have ho:=aQ.out (by omega);subst ho;obtain⟨x,hx⟩:∃x,ls[1+i]?=some x:=⟨ls[1+i]'(by omega),ZH _⟩
    have ak:=af.out x (QZ hx);have aF:(ls.tail)[i]?=some x:=by rw[List.getElem?_tail,Nat.add_comm];exact hx
    have HF:=QA (Dn Lx.comStep (-1) ls.tail i x aF);have A:wr.cell? ⟨g,1+i,none⟩=some (.string ⟨x.toArray⟩):=(hR.below D).cell hx;have X:=Lx.common_ge (ls.tail.take i) (-1) (by omega);have ae:-1≤List.foldl Lx.comStep (-1) (List.take i ls.tail)∧List.foldl Lx.comStep (-1) (List.take i ls.tail)≤1000000000:=by
     rcases X with h'|⟨y,hy,h'⟩
     ·omega
     ·have:=af.out y (List.mem_of_mem_tail (List.mem_of_mem_take hy));omega
    obtain⟨ba,aR⟩:=ae;clear X hx aF
    generalize List.foldl Lx.comStep (-1) (List.take i ls.tail)=c at *
    have bl:=Lx.ind_le x;have bk:(0:Int)≤(i:Int):=Int.natCast_nonneg _;have aU:(i:Int)<((ls.length-1:Nat):Int):=by omega
    have am:(ByteArray.mk x.toArray).size=x.length:=rfl;have M:(decide (Lx.ind x<x.length)=false∧Lx.comStep c x=c) ∨
      (decide (Lx.ind x<x.length)=true∧decide (c<0)=true∧Lx.comStep c x=Lx.ind x) ∨
      (decide (Lx.ind x<x.length)=true∧decide (c<0)=false∧decide ((Lx.ind x:Int)<c)=true∧Lx.comStep c x=Lx.ind x) ∨
      (decide (Lx.ind x<x.length)=true∧decide (c<0)=false∧decide ((Lx.ind x:Int)<c)=false∧Lx.comStep c x=c):=by
     unfold Lx.comStep;by_cases a1:Lx.ind x<x.length
     ·by_cases a2:c<0
      ·exact .inr (.inl ⟨by simpa using a1,by simpa using a2,by rw[if_pos ⟨by omega,.inl a2⟩]⟩)
      ·by_cases a3:(Lx.ind x:Int)<c
       ·exact .inr (.inr (.inl ⟨by simpa using a1,by simpa using a2,by simpa using a3,by rw[if_pos ⟨by omega,.inr a3⟩]⟩))
       ·exact .inr (.inr (.inr ⟨by simpa using a1,by simpa using a2,by simpa using a3,by rw[if_neg (by omega)]⟩))
     ·exact .inl ⟨by simpa using a1,by rw[if_neg (by omega)]⟩
    rcases M with⟨G,e4⟩|⟨G,T,e4⟩|⟨G,T,e3,e4⟩|⟨G,T,e3,e4⟩
    all_goals
     have E4:=QA e4;clear e4;go_wp2_with fail;refine (Ay x wr (by omega)).mono ?_;rintro e w5 ⟨rfl,hb5⟩;have E:=D.trans (hb5.mono D.size);go_wp2;go_roundg (ls.length-1-(i+1))
     case measure=>rw[HK.out];omega
     case rel=>exact⟨i+1,rfl,by omega,by go_num,by rw[HF.out,E4.out],E⟩
   ·have aX:i=ls.length-1:=by omega
    have aU:((ls.length-1:Nat):Int)≤(i:Int):=by omega
    have aO:List.take i ls.tail=ls.tail:=List.take_of_length_le (by rw[List.length_tail];omega);rw[aO];have X:=Lx.common_ge ls.tail (-1) (by omega);have ae:-1≤Lx.common ls.tail∧Lx.common ls.tail≤1000000000:=by
     rcases X with h'|⟨y,hy,h'⟩
     ·unfold Lx.common;omega
     ·have:=af.out y (List.mem_of_mem_tail hy);omega
    change Code.wp _ _ _ { tmps:=_,defers:=_ } _;have aA:Hid (Lx.common ls.tail=List.foldl Lx.comStep (-1) ls.tail):=rfl;rw[← aA.out];have aE:=hR.below D;have aD:Below w.heap.size w wr:=hB.trans (D.mono hB.size);obtain⟨ba,aR⟩:=ae
    generalize Lx.common ls.tail=c at *
    clear X aO aA hR D hB aX hi HK;go_wp2_with fail
    go_loopg [39] ls.length (λk s39 U=>∃j:Nat,k=ls.length-j∧j≤ls.length∧s39=.int .i64 j∧Row U g ((Lx.strip c ls).take j++ls.drop j)∧Below w.heap.size w U)
    case atStart=>exact⟨0,by omega,by omega,rfl,by simpa using aE,aD⟩
    case round =>
     obtain⟨j,R,hj,rfl,Q,L⟩:=hrel;have HK:=QA R;clear R aE aD;by_cases hlt:j<ls.length
     ·obtain⟨x,hx⟩:∃x,ls[j]?=some x:=⟨ls[j],ZH _⟩
      have ak:=af.out x (QZ hx);have an:((Lx.strip c ls).take j).length=j:=by rw[ZI,Lx.strip_len];omega
      have S:((Lx.strip c ls).take j++ls.drop j)[j]?=some x:=by
       rw[List.getElem?_append_right (by omega),an,List.getElem?_drop,Nat.sub_self,Nat.add_zero];exact hx
      have O:((Lx.strip c ls).take j++ls.drop j).set j (Lx.stripAt c j x)=(Lx.strip c ls).take (j+1)++ls.drop (j+1):=by
       rw[List.set_append_right _ _ (by omega),an,Nat.sub_self,ZC hlt,List.set_cons_zero,List.take_add_one,Lx.strip_get,hx];simp
      have A:=Q.cell S;have br:=Q.frozen j;have aI:=QA O;have aJ:(0:Int)≤(j:Int):=Int.natCast_nonneg _;have aM:(j:Int)<(ls.length:Int):=by omega
      have am:(ByteArray.mk x.toArray).size=x.length:=rfl;by_cases hdo:0<j∧0<c
      ·have ar:Hid (Lx.stripAt c j x=x.drop c.toNat):=by unfold Lx.stripAt;rw[if_pos hdo];rfl
       obtain⟨bs,bi⟩:=hdo;have bc:(0:Int)<(j:Int):=by omega
       clear hx an S O;go_wp2_with fail;refine AO [15] (by kernel_rfl) (by kernel_rfl) ?_;simp only[BM,List.take_succ_cons,List.take_zero,List.drop_succ_cons,List.drop_zero,Nat.sub_zero,Nat.reduceSub,Nat.reduceAdd]
       repeat (go_big_quiet_step (fail))
       refine wpQuiet_nil ?_;rintro _ ⟨nq,rfl⟩;go_wp2
       repeat (go_big_quiet_step (fail))
       refine wpQuiet_nil ?_;rintro _ ⟨nq,rfl⟩;go_wp2;go_roundg (ls.length-(j+1))
       case measure=>rw[HK.out];omega
       case rel =>
        refine⟨j+1,rfl,by omega,by go_num,?_,?_⟩
        ·have h1:∀n m:Nat,Row (((wr.drewN n).setCell ⟨g,j,none⟩ (.string ((ByteArray.mk x.toArray).extract (min c (x.length:Int)).toNat x.length))).drewN m) g ((Lx.strip c ls).take (j+1)++ls.drop (j+1)):=λn m=>by
          rw[FG,JE x c (by omega),← aI.out,ar.out];exact ((Q.drewN n).set j _).drewN m
         exact h1 _ _
        ·exact Below.drewN (Below.setCell (Below.drewN L _) hg _) _
      ·have ar:Hid (Lx.stripAt c j x=x):=by unfold Lx.stripAt;rw[if_neg hdo];rfl
       have M:j=0∨((0:Int)<(j:Int)∧c≤0):=by omega
       have HR:Hid (Row wr g ((Lx.strip c ls).take (j+1)++ls.drop (j+1))):=by
        rw[← aI.out,ar.out];have:((Lx.strip c ls).take j++ls.drop j).set j x=(Lx.strip c ls).take j++ls.drop j:=by
         apply List.ext_getElem?;intro m;rw[List.getElem?_set];split
         ·rename_i h';subst h';split
          ·exact S.symm
          ·rename_i h'';rw[List.getElem?_eq_none (by omega)]
         ·rfl
        rw[this];exact Q
       clear hx an S O hdo;rcases M with rfl|⟨G,T⟩
       ·go_wp2;go_roundg (ls.length-1)
        case measure=>rw[HK.out];omega
        case rel=>exact⟨1,rfl,by omega,rfl,HR.out,L⟩
       ·go_wp2;go_roundg (ls.length-(j+1))
        case measure=>rw[HK.out];omega
        case rel=>exact⟨j+1,rfl,by omega,by go_num,HR.out,L⟩
     ·have aL:j=ls.length:=by omega
      have aM:(ls.length:Int)≤(j:Int):=by omega
      have bg:decide (j<ls.length)=false:=by simp;omega
      have ax:Row wr g (Lx.strip c ls):=by
       rw[aL,List.take_of_length_le (by rw[Lx.strip_len];omega),List.drop_of_length_le (by omega),List.append_nil]at Q;exact Q
      have bo:=Lx.strip_len c ls;have ao:∀y,y∈Lx.strip c ls→y.length≤4*raw.length+3:=by
       intro y hy;obtain⟨m,V⟩:=List.getElem?_of_mem hy;rw[Lx.strip_get]at V;cases hlm:ls[m]? with
       | none=>rw[hlm]at V;simp at V
       | some z =>
        rw[hlm]at V;simp only[Option.map_some,Option.some.injEq]at V;subst V;have h1:=Lx.stripAt_le c m z;have h2:=af.out z (QZ hlm);omega
      have ai:=QA ao;clear ao Q aL HK hlt
      generalize Lx.strip c ls=ms at *
      go_wp2_with fail
      go_loopg [3] ls.length (λk s3 U=>∃j o:Nat,k=ls.length-j∧j≤ls.length∧s3=.slice (some ⟨g,o,none⟩) (ls.length-j) (ls.length-j)∧(j<ls.length→o=j)∧(ms.drop j).dropWhile Lx.allSp=ms.dropWhile Lx.allSp∧Below wr.heap.size wr U)
      case atStart=>exact⟨0,0,by omega,by omega,rfl,λ_=>rfl,rfl,Below.refl _ _⟩
      case round =>
       obtain⟨j,o,R,hj,rfl,ho,aH,D⟩:=hrel;obtain⟨U,rfl⟩:∃U:World,U=wr:=⟨_,rfl⟩
       have HK:=QA R;have HO:=QA ho;have al:=QA aH;clear R ho aH;by_cases hlt:j<ls.length
       ·have a8:=HO.out hlt;subst a8;obtain⟨x,hx⟩:∃x,ms[o]?=some x:=⟨ms[o]'(by omega),ZH _⟩
        have ak:=ai.out x (QZ hx);have A:=(ax.below D).cell hx;have W:∀y:Later U,y.1.cell? ⟨g,o,none⟩=some (.string ⟨x.toArray⟩):=λy=>Later.cell A y
        have am:(ByteArray.mk x.toArray).size=x.length:=rfl;have aC:ms.drop o=x::ms.drop (o+1):=by
         rw[ZC (by omega)];have:=(List.getElem?_eq_some_iff.1 hx).2;rw[this]
        have au:=QA aC;have aZ:(0:Int)<((ls.length-o:Nat):Int):=by omega
        have aW:0<ls.length-o:=by omega
        clear hx aC;cases hsp:Lx.allSp x
        ·have G:(Lx.ind x==x.length)=false:=hsp;have T:((Lx.ind x:Int)==(x.length:Int))=false:=eqF (by simp at G;omega);have C:=QA hsp;clear hsp;go_wp2_with fail;refine Aj (by kernel_rfl) (by kernel_rfl) ?_
         repeat (go_big_quiet_step (((exact Later.call (v:=.int .i64 (Lx.ind x)) (Ay x _ (by omega))))))
         refine wpQuiet_nil ?_;rintro w5 ⟨⟨_,hb5⟩,rfl⟩;have ad:ms.dropWhile Lx.allSp=ms.drop o:=by
          rw[← al.out,au.out,List.dropWhile_cons,C.out];simp
         obtain⟨B,ag,a5,Y⟩:∃B,Hid (Lx.dedent raw=Lib.join (Lx.trimEnd B) [10])∧B.length=ls.length-o∧(∀(i:Nat) y,B[i]?=some y→ms[o+i]?=some y) :=
          ⟨ms.drop o,by rw[← ad];exact HF,by rw[List.length_drop];omega,λi y h=>by rw[List.getElem?_drop]at h;exact h⟩
         have K:=D.trans (hb5.mono D.size);clear ad au al A W aZ aW C G T;have H:=QA Y;clear Y HF;go_wp2_with fail
         go_loopg [3] (ls.length-o) (λk s3 U=>∃m:Nat,k=m∧m≤(ls.length-o)∧s3=.slice (some ⟨g,o,none⟩) m (ls.length-o)∧Lx.trimEnd (B.take m)=Lx.trimEnd B∧Below wr.heap.size wr U)
         case atStart=>exact⟨_,rfl,QM _,rfl,by rw[List.take_of_length_le (by omega)],(by first|exact K|exact Below.drewN K _)⟩
         case round =>
          obtain⟨m,R,V,rfl,ab,D⟩:=hrel;have N:=ax.below D;have I:=L.trans (D.mono L.size);have av:=QA R;have P:=QA ab;clear R ab K;by_cases hm0:0<m
          ·obtain⟨x,hx⟩:∃x,B[m-1]?=some x:=⟨B[m-1]'(by omega),ZH _⟩
           have ak:=ai.out x (QZ (H.out _ _ hx));have A:=N.cell (H.out _ _ hx);have W:∀y:Later wr,y.1.cell? ⟨g,o+(m-1),none⟩=some (.string ⟨x.toArray⟩):=λy=>Later.cell A y
           have am:(ByteArray.mk x.toArray).size=x.length:=rfl;have ah:B.take m=B.take (m-1)++[x]:=by
            have:=List.take_add_one (l:=B) (i:=m-1);rw[show m-1+1=m by omega,hx]at this;exact this
           have ac:=QA ah;have a9:(0:Int)<(m:Int):=by omega
           have aS:(0:Int)≤(m:Int)-1:=by omega
           have aT:(m:Int)-1<(m:Int):=by omega
           clear hx ah;cases hsp:Lx.allSp x
           ·have G:(Lx.ind x==x.length)=false:=hsp;have T:((Lx.ind x:Int)==(x.length:Int))=false:=eqF (by simp at G;omega);have C:=QA hsp;clear hsp;have F:Hid (Lx.dedent raw=Lib.join (B.take m) [10]):=by
             rw[ag.out,← P.out,ac.out,Lx.trimEnd_snoc,C.out];rfl
            go_wp2_with fail;refine Aj (by kernel_rfl) (by kernel_rfl) ?_
            repeat (go_big_quiet_step (((exact Later.call (v:=.int .i64 (Lx.ind x)) (Ay x _ (by omega))))))
            refine wpQuiet_nil ?_;rintro w6 ⟨⟨_,E⟩,rfl⟩;have aa:=N.below E;have Z:=I.trans (E.mono I.size);have HJ:=QA (FQ g o m (ls.length-o) (B.take m) w6 (λi y h=>aa.cell (H.out i y (List.getElem?_take_of_some h))) aa.lt (by rw[ZI];omega) V (λy hy=>by
             obtain⟨i,hi⟩:=List.getElem?_of_mem (List.mem_of_mem_take hy);have:=ai.out y (QZ (H.out _ _ hi));omega) (by omega))
            clear A W G T;go_wp2_with fail;refine HJ.out.mono ?_;rintro e w7 ⟨rfl,hb7⟩;go_wp2;go_ret;exact⟨by rw[F.out];rfl,Z.trans (hb7.mono Z.size)⟩
           ·have G:(Lx.ind x==x.length)=true:=hsp;have T:((Lx.ind x:Int)==(x.length:Int))=true:=eqT (by simp at G;omega);have C:=QA hsp;clear hsp;go_wp2_with fail;refine Aj (by kernel_rfl) (by kernel_rfl) ?_
            repeat (go_big_quiet_step (((exact Later.call (v:=.int .i64 (Lx.ind x)) (Ay x _ (by omega))))))
            refine wpQuiet_nil ?_;rintro w6 ⟨⟨_,E⟩,rfl⟩;go_wp2;go_roundg (m-1)
            case measure=>rw[av.out];omega
            case rel =>
             refine⟨m-1,rfl,by omega,rfl,?_,D.trans (E.mono D.size)⟩;rw[← P.out,ac.out,Lx.trimEnd_snoc,C.out];rfl
          ·have ap:m=0:=by omega
           subst ap;have F:Hid (Lx.dedent raw=Lib.join [] [10]):=by
            rw[ag.out,← P.out];rfl
           have aw:¬(0:Int)<((0:Nat):Int):=by omega
           have HJ:Hid (∀n:Nat,Calls Tryz.prog 129 #[.slice (some ⟨g,o,none⟩) 0 (ls.length-o),.string ⟨#[10]⟩] (wr.drewN n) λe w'=>e=.returned (.string ⟨(Lib.join [] [10]).toArray⟩)∧Below (wr.drewN n).heap.size (wr.drewN n) w') :=
            λn=>FQ g o 0 (ls.length-o) [] (wr.drewN n) (λi y h=>by simp at h) (N.drewN n).lt rfl V (λy hy=>by simp at hy) (by omega)
           clear aw;go_wp2_with fail
           go_quiet (fail)
           go_wp2_with fail;refine (HJ.out _).mono ?_;rintro e w7 ⟨rfl,hb7⟩;go_wp2;go_ret;exact⟨by rw[F.out];rfl,I.trans ((Below.undrew hb7).mono I.size)⟩
        ·have G:(Lx.ind x==x.length)=true:=hsp;have T:((Lx.ind x:Int)==(x.length:Int))=true:=eqT (by simp at G;omega);have C:=QA hsp;clear hsp;have aB:(ms.drop (o+1)).dropWhile Lx.allSp=ms.dropWhile Lx.allSp:=by
          rw[← al.out,au.out,List.dropWhile_cons,C.out];simp
         have aN:=QA aB;clear aB;by_cases hlast:ls.length-o=1
         ·go_wp2_with fail;refine Aj (by kernel_rfl) (by kernel_rfl) ?_
          repeat (go_big_quiet_step (((exact Later.call (v:=.int .i64 (Lx.ind x)) (Ay x _ (by omega))))))
          refine wpQuiet_nil ?_;rintro w5 ⟨⟨_,hb5⟩,rfl⟩;go_wp2;go_roundg (ls.length-(o+1))
          case measure=>rw[HK.out];omega
          case rel=>exact⟨o+1,o,rfl,by omega,by rw[show ls.length-(o+1)=0 by omega],by omega,aN.out,D.trans (hb5.mono D.size)⟩
         ·have bt:1<ls.length-o:=by omega
          have bj:=QA hlast;clear hlast;go_wp2_with fail;refine Aj (by kernel_rfl) (by kernel_rfl) ?_
          repeat (go_big_quiet_step (((exact Later.call (v:=.int .i64 (Lx.ind x)) (Ay x _ (by omega))))))
          refine wpQuiet_nil ?_;rintro w5 ⟨⟨_,hb5⟩,rfl⟩;go_wp2;go_roundg (ls.length-(o+1))
          case measure=>rw[HK.out];omega
          case rel=>exact⟨o+1,o+1,rfl,by omega,by rw[Nat.sub_sub],λ_=>rfl,aN.out,D.trans (hb5.mono D.size)⟩
       ·have a6:j=ls.length:=by omega
        have ad:ms.dropWhile Lx.allSp=[]:=by
         rw[← al.out,List.drop_of_length_le (by omega)];rfl
        obtain⟨B,ag,a5,Y⟩:∃B,Hid (Lx.dedent raw=Lib.join (Lx.trimEnd B) [10])∧B.length=0∧(∀(i:Nat) y,B[i]?=some y→ms[o+i]?=some y) :=
          ⟨[],by rw[← ad];exact HF,rfl,λi y h=>by simp at h⟩
        have aJ:ls.length-j=0:=by omega
        have aM:¬(0:Int)<((ls.length-j:Nat):Int):=by omega
        have bq:ls.length≤j:=by omega
        have K:=D;clear a6 aJ ad;go_wp2_with fail
        go_quiet (fail)
        have H:=QA Y;clear Y HF;go_wp2_with fail
        go_loopg [3] 0 (λk s3 U=>∃m:Nat,k=m∧m≤0∧s3=.slice (some ⟨g,o,none⟩) m 0∧Lx.trimEnd (B.take m)=Lx.trimEnd B∧Below wr.heap.size wr U)
        case atStart=>exact⟨_,rfl,QM _,rfl,by rw[List.take_of_length_le (by omega)],(by first|exact K|exact Below.drewN K _)⟩
        case round =>
         obtain⟨m,R,V,rfl,ab,D⟩:=hrel;have N:=ax.below D;have I:=L.trans (D.mono L.size);have av:=QA R;have P:=QA ab;clear R ab K;by_cases hm0:0<m
         ·obtain⟨x,hx⟩:∃x,B[m-1]?=some x:=⟨B[m-1]'(by omega),ZH _⟩
          have ak:=ai.out x (QZ (H.out _ _ hx));have A:=N.cell (H.out _ _ hx);have W:∀y:Later wr,y.1.cell? ⟨g,o+(m-1),none⟩=some (.string ⟨x.toArray⟩):=λy=>Later.cell A y
          have am:(ByteArray.mk x.toArray).size=x.length:=rfl;have ah:B.take m=B.take (m-1)++[x]:=by
           have:=List.take_add_one (l:=B) (i:=m-1);rw[show m-1+1=m by omega,hx]at this;exact this
          have ac:=QA ah;have a9:(0:Int)<(m:Int):=by omega
          have aS:(0:Int)≤(m:Int)-1:=by omega
          have aT:(m:Int)-1<(m:Int):=by omega
          clear hx ah;cases hsp:Lx.allSp x
          ·have G:(Lx.ind x==x.length)=false:=hsp;have T:((Lx.ind x:Int)==(x.length:Int))=false:=eqF (by simp at G;omega);have C:=QA hsp;clear hsp;have F:Hid (Lx.dedent raw=Lib.join (B.take m) [10]):=by
            rw[ag.out,← P.out,ac.out,Lx.trimEnd_snoc,C.out];rfl
           go_wp2_with fail;refine Aj (by kernel_rfl) (by kernel_rfl) ?_
           repeat (go_big_quiet_step (((exact Later.call (v:=.int .i64 (Lx.ind x)) (Ay x _ (by omega))))))
           refine wpQuiet_nil ?_;rintro w6 ⟨⟨_,E⟩,rfl⟩;have aa:=N.below E;have Z:=I.trans (E.mono I.size);have HJ:=QA (FQ g o m 0 (B.take m) w6 (λi y h=>aa.cell (H.out i y (List.getElem?_take_of_some h))) aa.lt (by rw[ZI];omega) V (λy hy=>by
            obtain⟨i,hi⟩:=List.getElem?_of_mem (List.mem_of_mem_take hy);have:=ai.out y (QZ (H.out _ _ hi));omega) (by omega))
           clear A W G T;go_wp2_with fail;refine HJ.out.mono ?_;rintro e w7 ⟨rfl,hb7⟩;go_wp2;go_ret;exact⟨by rw[F.out];rfl,Z.trans (hb7.mono Z.size)⟩
          ·have G:(Lx.ind x==x.length)=true:=hsp;have T:((Lx.ind x:Int)==(x.length:Int))=true:=eqT (by simp at G;omega);have C:=QA hsp;clear hsp;go_wp2_with fail;refine Aj (by kernel_rfl) (by kernel_rfl) ?_
           repeat (go_big_quiet_step (((exact Later.call (v:=.int .i64 (Lx.ind x)) (Ay x _ (by omega))))))
           refine wpQuiet_nil ?_;rintro w6 ⟨⟨_,E⟩,rfl⟩;go_wp2;go_roundg (m-1)
           case measure=>rw[av.out];omega
           case rel =>
            refine⟨m-1,rfl,by omega,rfl,?_,D.trans (E.mono D.size)⟩;rw[← P.out,ac.out,Lx.trimEnd_snoc,C.out];rfl
         ·have ap:m=0:=by omega
          subst ap;have F:Hid (Lx.dedent raw=Lib.join [] [10]):=by
           rw[ag.out,← P.out];rfl
          have aw:¬(0:Int)<((0:Nat):Int):=by omega
          have HJ:Hid (∀n:Nat,Calls Tryz.prog 129 #[.slice (some ⟨g,o,none⟩) 0 0,.string ⟨#[10]⟩] (wr.drewN n) λe w'=>e=.returned (.string ⟨(Lib.join [] [10]).toArray⟩)∧Below (wr.drewN n).heap.size (wr.drewN n) w') :=
           λn=>FQ g o 0 0 [] (wr.drewN n) (λi y h=>by simp at h) (N.drewN n).lt rfl V (λy hy=>by simp at hy) (by omega)
          clear aw;go_wp2_with fail
          go_quiet (fail)
          go_wp2_with fail;refine (HJ.out _).mono ?_;rintro e w7 ⟨rfl,hb7⟩;go_wp2;go_ret;exact⟨by rw[F.out];rfl,I.trans ((Below.undrew hb7).mono I.size)⟩
end Go.Proofs.YtedeapbonbbacaaGreatDoor
