/-
  The lexer's 'block', walked. The lexer's 'token': its world. The lexer's 'token', walked. The lexer's 'Lex', walked. What the tokens' row holds, cell by cell.
-/
import Derived.Test.YtedeapbonbbacaaGreatDoorZr12
import Derived.Outline
import Derived.Deep.LoopGhost
import Derived.Test.YtedeapbonbbacaaGreatDoorZr11
import Derived.Deep.DeepCutAuto
import Derived.Deep.CutBlock
import Derived.Deep.RegionWith
import Derived.Test.YtedeapbonbbacaaGreatDoorZr3
import Derived.Test.YtedeapbonbbacaaGreatDoorZr7
import Derived.OwnWalk
open Go.Lib renaming hid → QA
open List renaming drop_succ_cons → QE, take_succ_cons → QF, drop_zero → QL, take_zero → QN, length_append → QS, length_take → ZI
open Nat renaming le_refl → QM, le_trans → QQ, reduceAdd → QW, lt_of_lt_of_le → ZU
namespace Go.Proofs.YtedeapbonbbacaaGreatDoor
set_option maxRecDepth 100000
set_option maxHeartbeats 4000000
set_option linter.unusedSimpArgs false
set_option linter.unusedVariables false
open Go Go.RowKit
theorem Gv (r n:Nat) :
  ((((n:Int)==0)=true)∧(n=0∨(r<32∧r≠9∧r≠10∧r≠13))) ∨
  ((((n:Int)==0)=false)∧decide ((r:Int)<32)=true∧((r:Int) != 9)=true∧((r:Int) != 10)=true∧((r:Int) != 13)=true∧(n=0∨(r<32∧r≠9∧r≠10∧r≠13))) ∨
  ((((n:Int)==0)=false)∧decide ((r:Int)<32)=true∧((r:Int) != 9)=true∧((r:Int) != 10)=true∧((r:Int) != 13)=false∧¬(n=0∨(r<32∧r≠9∧r≠10∧r≠13))) ∨
  ((((n:Int)==0)=false)∧decide ((r:Int)<32)=true∧((r:Int) != 9)=true∧((r:Int) != 10)=false∧¬(n=0∨(r<32∧r≠9∧r≠10∧r≠13))) ∨
  ((((n:Int)==0)=false)∧decide ((r:Int)<32)=true∧((r:Int) != 9)=false∧¬(n=0∨(r<32∧r≠9∧r≠10∧r≠13))) ∨
  ((((n:Int)==0)=false)∧decide ((r:Int)<32)=false∧¬(n=0∨(r<32∧r≠9∧r≠10∧r≠13))):=by
 by_cases h0:n=0
 ·exact .inl ⟨by simp[h0],.inl h0⟩
 ·have o:((n:Int)==0)=false:=by simp[h0]
  by_cases h1:r<32
  ·have A:decide ((r:Int)<32)=true:=by simp;omega
   by_cases h2:r=9
   ·exact .inr (.inr (.inr (.inr (.inl ⟨o,A,by simp[h2],by omega⟩))))
   ·by_cases h3:r=10
    ·exact .inr (.inr (.inr (.inl ⟨o,A,by simp;omega,by simp[h3],by omega⟩)))
    ·by_cases h4:r=13
     ·exact .inr (.inr (.inl ⟨o,A,by simp;omega,by simp;omega,by simp[h4],by omega⟩))
     ·exact .inr (.inl ⟨o,A,by simp;omega,by simp;omega,by simp;omega,by omega⟩)
  ·exact .inr (.inr (.inr (.inr (.inr ⟨o,by simp;omega,by omega⟩))))
theorem A9 (l:List UInt8):Lx.quotes3 l=Lib.hasPrefix l [34,34,34]:=by
 match l with
 | []=>rfl
 | [a]=>simp[Lx.quotes3,Lib.hasPrefix,List.isPrefixOf]
 | [a,b]=>simp[Lx.quotes3,Lib.hasPrefix,List.isPrefixOf]
 | a::b::c::t =>
  have e:Lib.hasPrefix (a::b::c::t) [34,34,34]=((34==a)&&((34==b)&&((34==c)&&true))):=rfl;have o:Lx.quotes3 (a::b::c::t)=decide ([a,b,c]=[34,34,34]):=rfl;rw[e,o];by_cases h1:a=34
  ·by_cases h2:b=34
   ·by_cases h3:c=34
    ·subst h1 h2 h3;decide
    ·simp[h1,h2,h3,Ne.symm h3]
   ·simp[h1,h2,Ne.symm h2]
  ·simp[h1,Ne.symm h1]
theorem EK (c:UInt8) (t:List UInt8):Lib.hasPrefix (c::t) [92,34,34,34]=(decide (c.toNat=92)&&Lx.quotes3 t):=by
 have e:Lib.hasPrefix (c::t) [92,34,34,34]=((92==c)&&Lib.hasPrefix t [34,34,34]):=rfl;rw[e,A9]
 congr 1
 by_cases h:c=92
 ·subst h;rfl
 ·have o:c.toNat≠92:=λe=>h (UInt8.toNat_inj.1 (by rw[e];rfl))
  simp[Ne.symm h,o]
theorem CO {l:List UInt8} (h:Lx.quotes3 l=true):3≤l.length:=by
 unfold Lx.quotes3 at h;have o:=congrArg List.length (of_decide_eq_true h);rw[ZI]at o;simp at o;omega
theorem Ag (s:ByteArray) (b:Nat) (p:List UInt8) (w:World) :
  Calls Tryz.prog 81 #[.string ⟨(sfx s b).toArray⟩,.string ⟨p.toArray⟩] w λe w'=>e=.returned (.bool (Lib.hasPrefix (sfx s b) p))∧w'=w:=Tryz.strings_HasPrefix _ _ _
def Ji (o:Option (List UInt8×List UInt8)) (bx:Nat) (s:ByteArray) (a:Nat) (w:World) (e:Ending) (w':World):Prop :=
 ∃b,a<b∧b≤s.size∧AN w' bx s b∧Fr bx w w'∧Env w' ∧
  ((∃m,o=some (m,sfx s b)∧m.length≤b∧e=.returned (.tuple #[.string ⟨(Lx.dedent m).toArray⟩,.bool true]))∨(o=none∧e=.returned (.tuple #[.string ⟨#[]⟩,.bool false])))
set_option maxHeartbeats 8000000 in
theorem Il (bx:Nat) (s:ByteArray) (a:Nat) (w:World) (hs:s.size≤4096) (hat:a+3≤s.size) (h:AN w bx s a) (hE:Env w) (h3:3≤bx) :
  Calls Tryz.prog 89 #[.pointer (some ⟨bx,0,none⟩)] w (Ji (Lx.block [] (sfx s (a+3))) bx s a w):=by
 have K:St w bx w.heap.size s (a+3) [] ((w.setCell ⟨bx,1,none⟩ (.int .i64 ((a+3:Nat):Int))).alloc (.cells #[.pointer none,.slice none 0 0] 168)):=by
  have:=St.start (w0:=w) (h.put (a+3)) (Fr.set (But.refl _ _) 1 _) (hE.fr (Fr.set (But.refl _ _) 1 _) h3) (by simp[World.setCell]) h3
  simpa [World.setCell] using this
 have W:=QA K;have c0:=h.c0;have c1:=h.c1;have f1:=h.f1;clear K h hE;go_enter Tryz.func89,Tryz.ntmps89;go_wp2;clear c0 c1 f1
 go_loopg [] (s.size-(a+3)) (λk wr=>∃b out,k=s.size-b∧a<b∧b≤s.size∧out.length≤b∧Lx.block out (sfx s b)=Lx.block [] (sfx s (a+3))∧St w bx w.heap.size s b out wr)
 case atStart=>exact⟨a+3,[],rfl,by omega,hat,by simp,rfl,W.out⟩
 case round =>
  obtain⟨b,out,U,Z,J,ab,T,A⟩:=hrel;have c0:=A.scan.c0;have c1:=A.scan.c1;have f1:=A.scan.f1;have L:=QA T;have V:=QA U;clear T U W;by_cases hlt:b<s.size
  ·have Y:(0:Int)≤(b:Int):=Int.natCast_nonneg _;have Q:(b:Int)<s.size:=by omega
   have B:=QA (Ax s b hlt);have X:=Lx.rune_le4 (sfx s b);have S:=Lx.rune_len (sfx s b);have ac:=Lx.rune_max (sfx s b);have aa:=BZ s b;rw[AQ]at S;cases hq:Lx.quotes3 (sfx s b)
   ·have N:Hid (Lx.quotes3 (bt s b::sfx s (b+1))=false):=by rw[← B.out];exact hq
    have O:Hid (Lib.hasPrefix (sfx s b) [34,34,34]=false):=by rw[← A9];exact hq
    clear hq;have C:Lib.hasPrefix (sfx s b) [92,34,34,34]=(decide ((bt s b).toNat=92)&&Lx.quotes3 (sfx s (b+1))):=by rw[B.out,EK]
    by_cases hesc:(bt s b).toNat=92∧Lx.quotes3 (sfx s (b+1))=true
    ·have G:Hid (Lib.hasPrefix (sfx s b) [92,34,34,34]=true):=by show _=_;rw[C,hesc.2];simp[hesc.1]
     have H:=CO hesc.2;rw[AQ]at H;have D:=QA hesc;clear hesc C;go_wp2
     go_quiet (fail)
     go_wp2
     go_quiet (fail)
     go_wp2_with fail;refine (Aw bx s b _ hs J (A.scan.drewN _) (A.env.drewN _)).mono ?_;rintro e w1 ⟨rfl,hb1⟩;have o:=(A.drewN _).below hb1;clear hb1 c0 c1 f1;have c0:=o.scan.c0;have c1:=o.scan.c1;have f1:=o.scan.f1;go_wp2_with fail;refine (Ag s b [34,34,34] _).mono ?_;rintro e w2 ⟨rfl,hw2⟩;subst hw2;rw[O.out];go_wp2_with fail;refine (Ag s b [92,34,34,34] _).mono ?_;rintro e w2 ⟨rfl,hw2⟩;subst hw2;rw[G.out];go_wp2_with fail;refine (o.str (by omega) [34,34,34] (by simp)).mono ?_;rintro e w3 ⟨⟨n3,rfl⟩,hS3⟩;clear c0 c1 f1;have c0:=hS3.scan.c0;have c1:=hS3.scan.c1;have f1:=hS3.scan.f1;go_wp2;go_roundg (s.size-(b+4))
     case measure=>rw[V.out];omega
     case rel =>
      refine⟨b+4,out++[34,34,34],rfl,by omega,by omega,by simp;omega,?_,hS3.put _⟩;rw[← L.out,B.out,Lx.block_esc N.out D.out,Ah]
    ·have G:Hid (Lib.hasPrefix (sfx s b) [92,34,34,34]=false):=by
      show _=_;rw[C];by_cases h1:(bt s b).toNat=92
      ·have h2:Lx.quotes3 (sfx s (b+1))=false:=by
        cases hh:Lx.quotes3 (sfx s (b+1))
        ·rfl
        ·exact absurd ⟨h1,hh⟩ hesc
       rw[h2];simp
      ·simp[h1]
     have D:=QA hesc;clear hesc C;rcases Gv (Lx.rune (sfx s b)).1 (Lx.rune (sfx s b)).2 with⟨q1,q4⟩|⟨q1,q2,q3,q5,q6,q4⟩|⟨q1,q2,q3,q5,q6,q4⟩|⟨q1,q2,q3,q5,q4⟩|⟨q1,q2,q3,q4⟩|⟨q1,q2,q4⟩
     all_goals
      have P:=QA q4;clear q4;go_wp2
      go_quiet (fail)
      go_wp2
      go_quiet (fail)
      go_wp2_with fail;refine (Aw bx s b _ hs J (A.scan.drewN _) (A.env.drewN _)).mono ?_;rintro e w1 ⟨rfl,hb1⟩;have o:=(A.drewN _).below hb1;clear hb1 c0 c1 f1;have c0:=o.scan.c0;have c1:=o.scan.c1;have f1:=o.scan.f1;go_wp2_with fail;refine (Ag s b [34,34,34] _).mono ?_;rintro e w2 ⟨rfl,hw2⟩;subst hw2;rw[O.out];go_wp2_with fail;refine (Ag s b [92,34,34,34] _).mono ?_;rintro e w2 ⟨rfl,hw2⟩;subst hw2;rw[G.out];go_wp2_with fail
      first
      | (
        go_ret2;exact⟨b,by omega,J,o.scan,o.fr,o.env,.inr ⟨by rw[← L.out,B.out,Lx.block_bad N.out D.out (by rw[← B.out];exact P.out)],rfl⟩⟩)
      | (
        have R:(Lx.rune (sfx s b)).2≠0:=λh=>P.out (.inl h)
        obtain⟨E,F⟩:=Lx.rune_enc (sfx s b) R;have M:=QA F;clear F;refine (o.rune (by omega) _ E).mono ?_;rintro e w3 ⟨⟨n3,rfl⟩,hS3⟩;clear c0 c1 f1 E;have c0:=hS3.scan.c0;have c1:=hS3.scan.c1;have f1:=hS3.scan.f1;go_wp2;go_roundg (s.size-(b+(Lx.rune (sfx s b)).2))
        case measure=>rw[V.out];omega
        case rel =>
         refine⟨b+(Lx.rune (sfx s b)).2,out++Lx.enc (Lx.rune (sfx s b)).1,rfl,by omega,by omega,?_,?_,hS3.put _⟩
         ·rw[M.out,QS,ZI];omega
         ·have:=Lx.block_go (out:=out) N.out D.out (by rw[← B.out];exact P.out);rw[← B.out]at this;rw[← L.out,this,M.out,Ah])
   ·have H:=CO hq;rw[AQ]at H;have N:=QA hq;have O:Hid (Lib.hasPrefix (sfx s b) [34,34,34]=true):=by rw[← A9];exact hq
    clear hq;go_wp2
    go_quiet (fail)
    go_wp2
    go_quiet (fail)
    go_wp2_with fail;refine (Aw bx s b _ hs J (A.scan.drewN _) (A.env.drewN _)).mono ?_;rintro e w1 ⟨rfl,hb1⟩;have o:=(A.drewN _).below hb1;clear hb1 c0 c1 f1;have c0:=o.scan.c0;have c1:=o.scan.c1;have f1:=o.scan.f1;go_wp2_with fail;refine (Ag s b [34,34,34] _).mono ?_;rintro e w2 ⟨rfl,hw2⟩;subst hw2;rw[O.out];go_wp2_with fail;refine (o.put (b+3)).string.mono ?_;rintro e w3 ⟨rfl,hS3⟩;go_wp2_with fail;refine (Gy out w3 hS3.env (by omega)).mono ?_;rintro e w4 ⟨rfl,hb4⟩;have I:=hS3.below hb4;go_wp2_with fail;go_ret2;refine⟨b+3,by omega,by omega,I.scan,I.fr,I.env,.inl ⟨out,?_,by omega,rfl⟩⟩;rw[← L.out,B.out,Lx.block_end (by rw[← B.out];exact N.out),← B.out,Ah]
  ·have Q:(s.size:Int)≤b:=by omega
   go_wp2
   go_quiet (fail)
   go_wp2;go_ret2;exact⟨b,by omega,J,A.scan.drewN _,A.fr.drewN _,A.env.drewN _,.inr ⟨by rw[← L.out,Cc s b (by omega),Lx.block_nil],rfl⟩⟩
def Tk (w:World) (k:Nat) (K:Int) (T:ByteArray) (A:Int):Prop:=w.heap[k]?=some (.cells #[.int .i64 K,.string T,.int .i64 A] 70 (0,0))
theorem Tk.c0 {w:World} {k:Nat} {K A:Int} {T:ByteArray} (h:Tk w k K T A):w.cell? ⟨k,0,none⟩=some (.int .i64 K):=by unfold Tk at h;simp[World.cell?,h]
theorem Tk.c1 {w:World} {k:Nat} {K A:Int} {T:ByteArray} (h:Tk w k K T A):w.cell? ⟨k,1,none⟩=some (.string T):=by unfold Tk at h;simp[World.cell?,h]
theorem Tk.c2 {w:World} {k:Nat} {K A:Int} {T:ByteArray} (h:Tk w k K T A):w.cell? ⟨k,2,none⟩=some (.int .i64 A):=by unfold Tk at h;simp[World.cell?,h]
theorem Tk.fz {w:World} {k:Nat} {K A:Int} {T:ByteArray} (h:Tk w k K T A) (i:Nat):w.frozen? ⟨k,i,none⟩=false:=by unfold Tk at h;simp[World.frozen?,h]
theorem Tk.lt {w:World} {k:Nat} {K A:Int} {T:ByteArray} (h:Tk w k K T A):k<w.heap.size:=Ct h
theorem Tk.set0 {w:World} {k:Nat} {K A:Int} {T:ByteArray} (h:Tk w k K T A) (K':Int):Tk (w.setCell ⟨k,0,none⟩ (.int .i64 K')) k K' T A:=by
 unfold Tk at *;simp[World.setCell,Array.getElem?_modify,h]
theorem Tk.set1 {w:World} {k:Nat} {K A:Int} {T:ByteArray} (h:Tk w k K T A) (T':ByteArray):Tk (w.setCell ⟨k,1,none⟩ (.string T')) k K T' A:=by
 unfold Tk at *;simp[World.setCell,Array.getElem?_modify,h]
theorem Tk.set_other {w:World} {k:Nat} {K A:Int} {T:ByteArray} (h:Tk w k K T A) (p:Addr) (v:Value) (hp:p.block≠k):Tk (w.setCell p v) k K T A:=by
 unfold Tk at *;rw[Below.heap_setCell _ _ _ _ (Ne.symm hp)];exact h
structure TS (w0:World) (bx:Nat) (s:ByteArray) (b:Nat) (K:Int) (T:ByteArray) (A:Int) (w:World):Prop where
 scan:AN w bx s b
 fr:Fr bx w0 w
 env:Env w
 res:Tk w w0.heap.size 0 ⟨#[]⟩ 0
 tok:Tk w (w0.heap.size+1) K T A
 lo:bx<w0.heap.size
 three:3≤bx
section
variable {w0 : World} {bx : Nat} {s : ByteArray} {b : Nat} {K : Int} {T : ByteArray} {A : Int} {w : World}
theorem TS.drewN (h:TS w0 bx s b K T A w) (n:Nat):TS w0 bx s b K T A (w.drewN n):=⟨h.scan.drewN n,h.fr.drewN n,h.env.drewN n,h.res,h.tok,h.lo,h.three⟩
theorem TS.call {b':Nat} {w':World} (h:TS w0 bx s b K T A w) (hs:AN w' bx s b') (hf:Fr bx w w'):TS w0 bx s b' K T A w':=by
 have l:=h.lo;refine⟨hs,h.fr.trans hf,h.env.fr hf h.three,?_,?_,h.lo,h.three⟩
 ·have:=h.res;have o:=Tk.lt this;unfold Tk at *;rw[hf.block _ o (by omega)];exact this
 ·have:=h.tok;have o:=Tk.lt this;unfold Tk at *;rw[hf.block _ o (by omega)];exact this
theorem TS.below {w':World} (h:TS w0 bx s b K T A w) (hb:Below w.heap.size w w'):TS w0 bx s b K T A w':=h.call (h.scan.below hb) (But.of_below hb)
theorem TS.kind (h:TS w0 bx s b K T A w) (K':Int):TS w0 bx s b K' T A (w.setCell ⟨w0.heap.size+1,0,none⟩ (.int .i64 K')):=by
 have l:=h.lo;have o:But (λk=>k=w0.heap.size+1) w (w.setCell ⟨w0.heap.size+1,0,none⟩ (.int .i64 K')):=But.setCell (X:=λk=>k=w0.heap.size+1) (But.refl _ _) (.inl rfl) _;refine⟨h.scan.but o (by omega),⟨o.os.trans h.fr.os,o.tape.trans h.fr.tape,o.output.trans h.fr.output,QQ h.fr.size o.size,λk hk hx=>?_⟩,h.env.but o (λk hk=>by have:=h.three;omega),h.res.set_other _ _ (by simp),h.tok.set0 K',h.lo,h.three⟩;rw[o.block k (ZU hk h.fr.size) (by omega)];exact h.fr.block k hk hx
theorem TS.text (h:TS w0 bx s b K T A w) (T':ByteArray):TS w0 bx s b K T' A (w.setCell ⟨w0.heap.size+1,1,none⟩ (.string T')):=by
 have l:=h.lo;have o:But (λk=>k=w0.heap.size+1) w (w.setCell ⟨w0.heap.size+1,1,none⟩ (.string T')):=But.setCell (X:=λk=>k=w0.heap.size+1) (But.refl _ _) (.inl rfl) _;refine⟨h.scan.but o (by omega),⟨o.os.trans h.fr.os,o.tape.trans h.fr.tape,o.output.trans h.fr.output,QQ h.fr.size o.size,λk hk hx=>?_⟩,h.env.but o (λk hk=>by have:=h.three;omega),h.res.set_other _ _ (by simp),h.tok.set1 T',h.lo,h.three⟩;rw[o.block k (ZU hk h.fr.size) (by omega)];exact h.fr.block k hk hx
theorem TS.put (h:TS w0 bx s b K T A w) (n:Nat):TS w0 bx s n K T A (w.setCell ⟨bx,1,none⟩ (.int .i64 n)):=h.call (h.scan.put n) (Fr.set (But.refl _ _) 1 _)
end
theorem TS.done {w0:World} {bx:Nat} {s:ByteArray} {b:Nat} {K:Int} {T:ByteArray} {A:Int} {w:World} (h:TS w0 bx s b K T A w) (k:Int) (t:ByteArray) (x:Int) :
  ∃W,W=((w.setCell ⟨w0.heap.size,0,none⟩ (.int .i64 k)).setCell ⟨w0.heap.size,1,none⟩ (.string t)).setCell ⟨w0.heap.size,2,none⟩ (.int .i64 x) ∧
   Tk W w0.heap.size k t x∧AN W bx s b∧Fr bx w0 W∧Env W:=by
 refine⟨_,rfl,?_⟩;have l:=h.lo;have o:But (λk=>k=w0.heap.size) w (((w.setCell ⟨w0.heap.size,0,none⟩ (.int .i64 k)).setCell ⟨w0.heap.size,1,none⟩ (.string t)).setCell ⟨w0.heap.size,2,none⟩ (.int .i64 x)) :=
  But.setCell (X:=λk=>k=w0.heap.size) (But.setCell (X:=λk=>k=w0.heap.size) (But.setCell (X:=λk=>k=w0.heap.size) (But.refl _ _) (.inl rfl) _) (.inl rfl) _) (.inl rfl) _
 refine⟨?_,h.scan.but o (by omega),⟨o.os.trans h.fr.os,o.tape.trans h.fr.tape,o.output.trans h.fr.output,QQ h.fr.size o.size,λk hk hx=>?_⟩,h.env.but o (λk hk=>by have:=h.three;omega)⟩
 ·have B:=h.res;unfold Tk at *;simp[World.setCell,Array.getElem?_modify,B]
 ·rw[o.block k (ZU hk h.fr.size) (by omega)];exact h.fr.block k hk hx
theorem TS.start {w:World} {bx:Nat} {s:ByteArray} {b:Nat} (hs:AN w bx s b) (he:Env w) (h3:3≤bx) (A:Int) :
  TS w bx s b 0 ⟨#[]⟩ A ((w.alloc (.cells #[.int .i64 0,.string ⟨#[]⟩,.int .i64 0] 70)).alloc (.cells #[.int .i64 0,.string ⟨#[]⟩,.int .i64 A] 70)):=by
 have o:Below w.heap.size w ((w.alloc (.cells #[.int .i64 0,.string ⟨#[]⟩,.int .i64 0] 70)).alloc (.cells #[.int .i64 0,.string ⟨#[]⟩,.int .i64 A] 70)):=((Below.refl _ _).alloc (QM _) _).alloc (by simp) _;refine⟨hs.below o,But.of_below o,he.below o,?_,?_,hs.lt,h3⟩
 ·show ((w.heap.push _).push _)[w.heap.size]?=_;rw[Array.getElem?_push,if_neg (by simp)];simp
 ·show ((w.heap.push _).push _)[w.heap.size+1]?=_;rw[Array.getElem?_push,if_pos (by simp)]
theorem KF (c:UInt8) (w:World) :
  Calls Tryz.prog 91 #[.string ⟨#[33,36,38,40,41,58,61,64,91,93,123,124,125]⟩,.int .u8 c.toNat] w λe w'=>e=.returned (.int .i64 (Lib.indexByte Lx.signs c))∧w'=w:=by
 refine (Tryz.strings_IndexByte _ _ _).mono ?_;rintro e w' ⟨rfl,rfl⟩;refine⟨?_,rfl⟩;have o:((c.toNat:Int)).toNat.toUInt8=c:=by simp
 rw[o];rfl
theorem Cz (l:List UInt8):Lx.dots3 l=Lib.hasPrefix l [46,46,46]:=by
 match l with
 | []=>rfl
 | [a]=>simp[Lx.dots3,Lib.hasPrefix,List.isPrefixOf]
 | [a,b]=>simp[Lx.dots3,Lib.hasPrefix,List.isPrefixOf]
 | a::b::c::t =>
  have e:Lib.hasPrefix (a::b::c::t) [46,46,46]=((46==a)&&((46==b)&&((46==c)&&true))):=rfl;have o:Lx.dots3 (a::b::c::t)=decide ([a,b,c]=[46,46,46]):=rfl;rw[e,o];by_cases h1:a=46
  ·by_cases h2:b=46
   ·by_cases h3:c=46
    ·subst h1 h2 h3;decide
    ·simp[h1,h2,h3,Ne.symm h3]
   ·simp[h1,h2,Ne.symm h2]
  ·simp[h1,Ne.symm h1]
theorem Ih {l:List UInt8} (h:Lx.dots3 l=true):3≤l.length:=by
 unfold Lx.dots3 at h;have o:=congrArg List.length (of_decide_eq_true h);rw[ZI]at o;simp at o;omega
theorem Dp (s:ByteArray) (a b:Nat):s.extract a b=⟨((sfx s a).take (b-a)).toArray⟩:=by
 have h:(s.extract a b).data=((sfx s a).take (b-a)).toArray:=by
  apply Array.ext';simp only[ByteArray.data_extract,Array.toList_extract,sfx,List.extract_eq_take_drop]
 cases h':s.extract a b
 simp_all
def KT (bx:Nat) (s:ByteArray) (a:Nat) (w:World) (e:Ending) (w':World):Prop :=
 ∃b,a≤b∧b≤s.size∧AN w' bx s b∧Fr bx w w'∧Env w' ∧
  (
   (∃(k:Nat) (T:List UInt8),Lx.token (sfx s a)=some (k,T,sfx s b)∧a<b∧1≤k∧k≤5∧T.length≤1000000000∧e=.returned (.tuple #[.agg #[.int .i64 k,.string ⟨T.toArray⟩,.int .i64 a],.bool true])) ∨
   (Lx.token (sfx s a)=none∧∃K T,e=.returned (.tuple #[.agg #[.int .i64 K,.string T,.int .i64 a],.bool false])))
def Mid (bx:Nat) (s:ByteArray) (a:Nat) (w:World) (ok:Bool) (wx:World):Prop :=
 ∃(b:Nat) (K:Nat) (T:List UInt8),a≤b∧b≤s.size∧TS w bx s b K ⟨T.toArray⟩ a wx ∧
  (
   (ok=true∧K=4∧Lx.token (sfx s a)=some (4,T,sfx s b)∧a<b∧T.length≤1000000000) ∨
   (ok=true∧K≠4∧1≤K∧K≤5∧T=[]∧a<b∧Lx.token (sfx s a)=some (K,(sfx s a).take (b-a),sfx s b)) ∨
   (ok=false∧Lx.token (sfx s a)=none))
set_option maxHeartbeats 8000000 in
theorem Ic (bx:Nat) (s:ByteArray) (a:Nat) (w:World) (hs:s.size≤4096) (hat:a<s.size) (h:AN w bx s a) (hE:Env w) (h3:3≤bx) :
  Calls Tryz.prog 61 #[.pointer (some ⟨bx,0,none⟩)] w (KT bx s a w):=by
 have ae:=TS.start h hE h3 (a:Int);have c0:=h.c0;have c1:=h.c1;have aB:=h.lt;have aG:bx≠w.heap.size:=by omega
 have W:=QA ae;clear ae;go_enter Tryz.func61,Tryz.ntmps61;go_wp2_with fail;refine (BR bx s a _ hs (by omega) W.out.scan).mono ?_;rintro e w1 ⟨rfl,n1,hw1⟩;have C:=W.out.drewN n1;rw[← hw1]at C;clear hw1 W c0 c1 h hE
 go_upto_block 0 with (fail)
 go_cut [6] (λs6 wx=>∃ok:Bool,s6=.bool ok∧Mid bx s a w ok wx)
 case first =>
  have t0:=C.tok.c0;have f0:=C.tok.fz 0;have t1:=C.tok.c1;have f1:=C.tok.fz 1;have c0:=C.scan.c0;have c1:=C.scan.c1;have g1:=C.scan.f1;have ak:w.heap.size+1≠bx:=by omega
  have aC:w.heap.size+1<w1.heap.size:=C.tok.lt;have HH:=QA (BQ s a);have ah:a+1≤s.size:=hat;have HC:=QA (Ax s a hat);have aJ:=BZ s a;cases hlet:Lx.isLetter (bt s a)
  ·have E:=QA hlet;clear hlet;have o:Lx.token (sfx s a)=if (bt s a).toNat=45∨Lx.isDigit (bt s a)=true then (Lx.number (sfx s a)).map λp=>(p.1,(sfx s a).take ((sfx s a).length-p.2.length),p.2)
     else if Lx.quotes3 (sfx s a) then (Lx.block [] (sfx s (a+3))).map λp=>(4,Lx.dedent p.1,p.2)
     else if (bt s a).toNat=34 then (Lx.text [] (sfx s (a+1))).map λp=>(4,p.1,p.2)
     else if Lx.dots3 (sfx s a) then some (5,(sfx s a).take 3,sfx s (a+3))
     else if (bt s a).toNat≠0∧Lx.signs.contains (bt s a)=true then some (5,(sfx s a).take 1,sfx s (a+1))
     else none:=by
    unfold Lx.token;rw[HH.out,E.out,if_neg Bool.false_ne_true,Ah,Ah]
   by_cases hnum:(bt s a).toNat=45∨Lx.isDigit (bt s a)=true
   ·rw[if_pos hnum]at o;have B:=QA o;clear o;have F:((((bt s a).toNat:Int)==45)=true)∨((((bt s a).toNat:Int)==45)=false∧Hid (Lx.isDigit (bt s a)=true)):=by
     by_cases h45:(bt s a).toNat=45
     ·exact .inl (eqT (by omega))
     ·exact .inr ⟨eqF (by omega),hnum.resolve_left h45⟩
    clear hnum;rcases F with Z|⟨Z,M⟩
    all_goals
     go_wp2_with (first|(go_at_call 84;refine (Al _ _).mono ?_;rintro e w' ⟨rfl,hw'⟩;obtain rfl:=hw'.symm;rw[E.out])|(go_at_call 87;refine (Ao _ _).mono ?_;rintro e w' ⟨rfl,hw'⟩;obtain rfl:=hw'.symm;rw[M.out])|fail);refine (HW bx s a _ hs (by omega) C.scan).mono ?_;rintro e w2 ⟨b,H,P,hS2,hF2,hres⟩;have A:=C.call hS2 hF2;clear t0 f0 t1 f1 c0 c1 g1 Z;have t0:=A.tok.c0;have f0:=A.tok.fz 0;rcases hres with⟨k,hnu,hk,rfl⟩|⟨hnu,rfl⟩
     ·have ac:=Lx.number_shorter hnu;have U:=QA hnu;clear hnu;have ad:a<b:=by rw[AQ,AQ]at ac;omega
      have ag:0<k:=by omega
      have aK:decide (0<k)=true:=by simpa using ag
      clear ac;go_wp2_with fail
      go_meet
      refine⟨true,rfl,b,k,[],H,P,A.kind k,.inr (.inl ⟨rfl,by omega,by omega,by omega,rfl,ad,?_⟩)⟩;rw[B.out,U.out,Option.map_some,AQ,AQ,show s.size-a-(s.size-b)=b-a by omega]
     ·have U:=QA hnu;clear hnu;go_wp2_with fail
      go_meet
      refine⟨false,rfl,b,0,[],H,P,A.kind 0,.inr (.inr ⟨rfl,?_⟩)⟩;rw[B.out,U.out,Option.map_none]
   ·rw[if_neg hnum]at o;have Z:=eqF (n:=(bt s a).toNat) (k:=45) (by omega);have M:Hid (Lx.isDigit (bt s a)=false):=by
     show _=_;cases hh:Lx.isDigit (bt s a)
     ·rfl
     ·exact absurd (.inr hh) hnum
    clear hnum;cases hq:Lx.quotes3 (sfx s a)
    ·rw[hq,if_neg Bool.false_ne_true]at o;have HP:Hid (Lib.hasPrefix (sfx s a) [34,34,34]=false):=by rw[← A9];exact hq
     clear hq;by_cases h34:(bt s a).toNat=34
     ·rw[if_pos h34]at o;have e2:=eqT (n:=(bt s a).toNat) (k:=34) (by omega);have B:=QA o;clear o h34;go_wp2_with (first|(go_at_call 84;refine (Al _ _).mono ?_;rintro e w' ⟨rfl,hw'⟩;obtain rfl:=hw'.symm;rw[E.out])|(go_at_call 87;refine (Ao _ _).mono ?_;rintro e w' ⟨rfl,hw'⟩;obtain rfl:=hw'.symm;rw[M.out])|(go_at_call 81;refine (Ag s a [34,34,34] _).mono ?_;rintro e w' ⟨rfl,hw'⟩;obtain rfl:=hw'.symm;rw[HP.out])|fail);refine (Jd bx s a _ hs hat (C.kind 4).scan (C.kind 4).env (C.kind 4).three).mono ?_;rintro e w2 ⟨b,H,P,hS2,hF2,hE2,hres⟩;have A:=(C.kind 4).call hS2 hF2;clear t0 f0 t1 f1 c0 c1 g1 Z e2;have t1:=A.tok.c1;have f1:=A.tok.fz 1;rcases hres with⟨m,htx,hml,rfl⟩|⟨htx,rfl⟩
      ·have J:=QA htx;clear htx;go_wp2_with fail
       go_meet
       exact⟨true,rfl,b,4,m,by omega,P,A.text _,.inl ⟨rfl,rfl,by rw[B.out,J.out,Option.map_some],by omega,by omega⟩⟩
      ·have J:=QA htx;clear htx;go_wp2_with fail
       go_meet
       exact⟨false,rfl,b,4,[],by omega,P,A.text _,.inr (.inr ⟨rfl,by rw[B.out,J.out,Option.map_none]⟩)⟩
     ·rw[if_neg h34]at o;have e2:=eqF (n:=(bt s a).toNat) (k:=34) (by omega);clear h34;cases hd3:Lx.dots3 (sfx s a)
      ·rw[hd3,if_neg Bool.false_ne_true]at o;have R:Hid (Lib.hasPrefix (sfx s a) [46,46,46]=false):=by rw[← Cz];exact hd3
       clear hd3;have V:=KF (bt s a);have Q:=Lx.index_signs (bt s a) Lx.signs
       generalize Lib.indexByte Lx.signs (bt s a)=kk at V Q
       have HI:=QA V;clear V;by_cases hsg:(bt s a).toNat≠0∧Lx.signs.contains (bt s a)=true
       ·rw[if_pos hsg]at o;have B:=QA o;have e3:=neT (n:=(bt s a).toNat) (k:=0) (by omega);have e4:decide (0≤kk)=true:=by simpa using Q.2 hsg.2
        clear o Q hsg;go_wp2_with (first|(go_at_call 84;refine (Al _ _).mono ?_;rintro e w' ⟨rfl,hw'⟩;obtain rfl:=hw'.symm;rw[E.out])|(go_at_call 87;refine (Ao _ _).mono ?_;rintro e w' ⟨rfl,hw'⟩;obtain rfl:=hw'.symm;rw[M.out])|(go_at_call 91;refine (HI.out _).mono ?_;rintro e w' ⟨rfl,hw'⟩;obtain rfl:=hw'.symm)|(go_at_call_of 81 (Value.string ⟨#[34,34,34]⟩);refine (Ag s a [34,34,34] _).mono ?_;rintro e w' ⟨rfl,hw'⟩;obtain rfl:=hw'.symm;rw[HP.out])|(go_at_call 81;refine (Ag s a [46,46,46] _).mono ?_;rintro e w' ⟨rfl,hw'⟩;obtain rfl:=hw'.symm;rw[R.out])|fail)
        go_meet
        exact⟨true,rfl,a+1,5,[],by omega,ah,(C.kind 5).put (a+1),.inr (.inl ⟨rfl,by omega,by omega,by omega,rfl,by omega,by rw[B.out,show a+1-a=1 by omega]⟩)⟩
       ·rw[if_neg hsg]at o;have B:=QA o;have F:((((bt s a).toNat:Int) != 0)=false)∨((((bt s a).toNat:Int) != 0)=true∧decide (0≤kk)=false):=by
         by_cases h0:(bt s a).toNat=0
         ·exact .inl (neF (by omega))
         ·refine .inr ⟨neT (by omega),?_⟩;have:¬0≤kk:=λh=>hsg ⟨h0,Q.1 h⟩
          simpa using this
        have t2:=C.tok.c2;have r0:=C.res.c0;have r1:=C.res.c1;have r2:=C.res.c2;have q0:=C.res.fz 0;have q1:=C.res.fz 1;have q2:=C.res.fz 2;clear o Q hsg;rcases F with e3|⟨e3,e4⟩
        all_goals
         go_wp2_with (first|(go_at_call 84;refine (Al _ _).mono ?_;rintro e w' ⟨rfl,hw'⟩;obtain rfl:=hw'.symm;rw[E.out])|(go_at_call 87;refine (Ao _ _).mono ?_;rintro e w' ⟨rfl,hw'⟩;obtain rfl:=hw'.symm;rw[M.out])|(go_at_call 91;refine (HI.out _).mono ?_;rintro e w' ⟨rfl,hw'⟩;obtain rfl:=hw'.symm)|(go_at_call_of 81 (Value.string ⟨#[34,34,34]⟩);refine (Ag s a [34,34,34] _).mono ?_;rintro e w' ⟨rfl,hw'⟩;obtain rfl:=hw'.symm;rw[HP.out])|(go_at_call 81;refine (Ag s a [46,46,46] _).mono ?_;rintro e w' ⟨rfl,hw'⟩;obtain rfl:=hw'.symm;rw[R.out])|fail)
         try simp only[Exit.inBlock,Exit.then]
         obtain⟨W3,G,D,O,N,L⟩:=TS.done C 0 ⟨#[]⟩ a;rw[← G];clear G;have S:=D.c0;have Y:=D.c1;have X:=D.c2;refine bodyPost_ret (v:=.tuple #[.agg #[.int .i64 0,.string ⟨#[]⟩,.int .i64 a],.bool false]) (by simp[results,Tryz.results61,go_sem,S,Y,X]) rfl ?_;exact⟨a,QM _,by omega,O,N,L,.inr ⟨B.out,_,_,rfl⟩⟩
      ·rw[hd3,if_pos rfl]at o;have R:Hid (Lib.hasPrefix (sfx s a) [46,46,46]=true):=by rw[← Cz];exact hd3
       have aj:=Ih hd3;rw[AQ]at aj;have B:=QA o;clear hd3 o;go_wp2_with (first|(go_at_call 84;refine (Al _ _).mono ?_;rintro e w' ⟨rfl,hw'⟩;obtain rfl:=hw'.symm;rw[E.out])|(go_at_call 87;refine (Ao _ _).mono ?_;rintro e w' ⟨rfl,hw'⟩;obtain rfl:=hw'.symm;rw[M.out])|(go_at_call_of 81 (Value.string ⟨#[34,34,34]⟩);refine (Ag s a [34,34,34] _).mono ?_;rintro e w' ⟨rfl,hw'⟩;obtain rfl:=hw'.symm;rw[HP.out])|(go_at_call 81;refine (Ag s a [46,46,46] _).mono ?_;rintro e w' ⟨rfl,hw'⟩;obtain rfl:=hw'.symm;rw[R.out])|fail)
       go_meet
       exact⟨true,rfl,a+3,5,[],by omega,by omega,(C.kind 5).put (a+3),.inr (.inl ⟨rfl,by omega,by omega,by omega,rfl,by omega,by rw[B.out,show a+3-a=3 by omega]⟩)⟩
    ·rw[hq,if_pos rfl]at o;have an:=CO hq;rw[AQ]at an;have HP:Hid (Lib.hasPrefix (sfx s a) [34,34,34]=true):=by rw[← A9];exact hq
     have B:=QA o;clear hq o;go_wp2_with (first|(go_at_call 84;refine (Al _ _).mono ?_;rintro e w' ⟨rfl,hw'⟩;obtain rfl:=hw'.symm;rw[E.out])|(go_at_call 87;refine (Ao _ _).mono ?_;rintro e w' ⟨rfl,hw'⟩;obtain rfl:=hw'.symm;rw[M.out])|(go_at_call 81;refine (Ag s a [34,34,34] _).mono ?_;rintro e w' ⟨rfl,hw'⟩;obtain rfl:=hw'.symm;rw[HP.out])|fail);refine (Il bx s a _ hs (by omega) (C.kind 4).scan (C.kind 4).env (C.kind 4).three).mono ?_;rintro e w2 ⟨b,H,P,hS2,hF2,hE2,hres⟩;have A:=(C.kind 4).call hS2 hF2;clear t0 f0 t1 f1 c0 c1 g1 Z;have t1:=A.tok.c1;have f1:=A.tok.fz 1;rcases hres with⟨m,htx,hml,rfl⟩|⟨htx,rfl⟩
     ·have J:=QA htx;clear htx;go_wp2_with fail
      go_meet
      exact⟨true,rfl,b,4,Lx.dedent m,by omega,P,A.text _,.inl ⟨rfl,rfl,by rw[B.out,J.out,Option.map_some],by omega,Lx.dedent_len m (by omega)⟩⟩
     ·have J:=QA htx;clear htx;go_wp2_with fail
      go_meet
      exact⟨false,rfl,b,4,[],by omega,P,A.text _,.inr (.inr ⟨rfl,by rw[B.out,J.out,Option.map_none]⟩)⟩
  ·have E:=QA hlet;clear hlet;go_wp2_with (first|(go_at_call 84;refine (Al _ _).mono ?_;rintro e w' ⟨rfl,hw'⟩;obtain rfl:=hw'.symm;rw[E.out])|fail);refine (Gu bx s a _ hs (by omega) (C.kind 1).scan).mono ?_;rintro e w2 ⟨b,H,P,hdw,rfl,hS2,hF2⟩;have A:=(C.kind 1).call hS2 hF2;have I:a<b:=by
    have h1:=congrArg List.length hdw;have h2:=Lx.dropWhile_le Lx.isWord (sfx s (a+1));rw[HC.out,List.dropWhile_cons,show isWord (bt s a)=true by simp[Lx.isWord,E.out],if_pos rfl,AQ]at h1;rw[AQ]at h2;have h3:(List.dropWhile Lx.isWord (sfx s (a+1))).length=(List.dropWhile isWord (sfx s (a+1))).length:=rfl;omega
   have al:=QA hdw;clear hdw;go_wp2_with fail
   go_meet
   refine⟨true,rfl,b,1,[],H,P,A,.inr (.inl ⟨rfl,by decide,by decide,by decide,rfl,I,?_⟩)⟩;unfold Lx.token;have h1:(sfx s a).dropWhile Lx.isWord=sfx s b:=al.out.symm;rw[HH.out,if_pos E.out,h1,AQ,AQ,show s.size-a-(s.size-b)=b-a by omega]
 case rest =>
  obtain⟨ok,rfl,b,K,T,H,P,A,F⟩:=hcut;clear C;have t0:=A.tok.c0;have t1:=A.tok.c1;have t2:=A.tok.c2;have f1:=A.tok.fz 1;have r0:=A.res.c0;have r1:=A.res.c1;have r2:=A.res.c2;have q0:=A.res.fz 0;have q1:=A.res.fz 1;have q2:=A.res.fz 2;have ak:w.heap.size+1≠bx:=by omega
  have c0:=A.scan.c0;have c1:=A.scan.c1;rcases F with⟨rfl,rfl,htk,I,hTl⟩|⟨rfl,hK,hK1,hK5,rfl,I,htk⟩|⟨rfl,htk⟩
  ·have B:=QA htk;clear htk;go_wp2
   try simp only[Exit.inBlock,Exit.then]
   obtain⟨W3,G,D,O,N,L⟩:=TS.done A 4 ⟨T.toArray⟩ a;rw[← G];clear G;have S:=D.c0;have Y:=D.c1;have X:=D.c2;refine bodyPost_ret (v:=.tuple #[.agg #[.int .i64 4,.string ⟨T.toArray⟩,.int .i64 a],.bool true]) (by simp[results,Tryz.results61,go_sem,S,Y,X]) rfl ?_;exact⟨b,H,P,O,N,L,.inl ⟨4,T,B.out,I,by omega,by omega,hTl,rfl⟩⟩
  ·have B:=QA htk;have Z:=neT (n:=K) (k:=4) (by omega);have hx:s.extract a b=⟨((sfx s a).take (b-a)).toArray⟩:=Dp s a b;have HK:=QA hK;have ax:(0:Int)≤(a:Int):=by omega
   have aD:(a:Int)≤(b:Int):=by omega
   have aF:(b:Int)≤s.size:=by omega
   clear htk hK;go_wp2;refine AO [11] (by kernel_rfl) (by kernel_rfl) ?_;simp only[BM,QF,QN,QE,QL,Nat.sub_zero,Nat.reduceSub,QW]
   repeat (go_big_quiet_step (fail))
   refine wpQuiet_nil ?_;rintro _ ⟨nq,rfl⟩;go_wp2
   repeat (go_big_quiet_step (fail))
   refine wpQuiet_nil ?_;rintro _ ⟨nq,rfl⟩;go_wp2;have am:∀n m:Nat,TS w bx s b K ⟨((sfx s a).take (b-a)).toArray⟩ a (((wc.drewN n).setCell ⟨w.heap.size+1,1,none⟩ (.string ⟨((sfx s a).take (b-a)).toArray⟩)).drewN m):=λn m=>((A.drewN n).text _).drewN m
   try simp only[Exit.inBlock,Exit.then]
   obtain⟨W3,G,D,O,N,L⟩:=TS.done (am _ _) K ⟨((sfx s a).take (b-a)).toArray⟩ a;rw[← G];clear G;have S:=D.c0;have Y:=D.c1;have X:=D.c2;refine bodyPost_ret (v:=.tuple #[.agg #[.int .i64 K,.string ⟨((sfx s a).take (b-a)).toArray⟩,.int .i64 a],.bool true]) (by simp[results,Tryz.results61,go_sem,S,Y,X]) rfl ?_;exact⟨b,H,P,O,N,L,.inl ⟨K,(sfx s a).take (b-a),B.out,I,hK1,hK5,by rw[ZI];omega,rfl⟩⟩
  ·have B:=QA htk;clear htk;go_wp2
   try simp only[Exit.inBlock,Exit.then]
   obtain⟨W3,G,D,O,N,L⟩:=TS.done A K ⟨T.toArray⟩ a;rw[← G];clear G;have S:=D.c0;have Y:=D.c1;have X:=D.c2;refine bodyPost_ret (v:=.tuple #[.agg #[.int .i64 K,.string ⟨T.toArray⟩,.int .i64 a],.bool false]) (by simp[results,Tryz.results61,go_sem,S,Y,X]) rfl ?_;exact⟨b,H,P,O,N,L,.inr ⟨B.out,_,_,rfl⟩⟩
def A7 (ts:List Lx.Tok):List Value:=ts.flatMap λt=>[.int .i64 t.kind,.string ⟨t.text.toArray⟩,.int .i64 t.at_]
def Ci (w:World) (base:Nat) (v:Value) (ts:List Lx.Tok):Prop:=w.ownsRow base 70 3 v ts.length (A7 ts)
theorem Ci.but {w w':World} {base:Nat} {v:Value} {ts:List Lx.Tok} {X:Nat→Prop} (h:Ci w base v ts) (hb:But X w w') (hX:∀k,X k→k<base):Ci w' base v ts:=by
 refine⟨h.1,?_⟩;rcases h.2 with h2|⟨g,cap,cur,hv,hg,hc,h3⟩
 ·exact .inl h2
 ·refine .inr ⟨g,cap,cur,hv,hg,?_,h3⟩;rw[hb.block g (Ct hc) (λx=>by have:=hX _ x;omega)];exact hc
theorem Ci.below {w w':World} {base:Nat} {v:Value} {ts:List Lx.Tok} (h:Ci w base v ts) (hb:Below w.heap.size w w'):Ci w' base v ts:=h.but (X:=λ_=>False) (But.of_below hb) (λ_ f=>f.elim)
theorem Ce (ts:List Lx.Tok) (t:Lx.Tok):A7 (ts++[t])=A7 ts++[.int .i64 t.kind,.string ⟨t.text.toArray⟩,.int .i64 t.at_]:=by simp[A7]
theorem KB:(Tryz.prog.info? 70).map (λi=>(i.zero,i.size,i.bytes))=some (some (.agg #[.int .i64 0,.string ⟨#[]⟩,.int .i64 0]),3,32):=by kernel_rfl
def Jh (s:ByteArray) (w:World) (e:Ending) (w':World):Prop :=
 Below w.heap.size w w' ∧
 (
  (∃ts v,Lx.lex s.data.toList=.ok ts∧e=.returned (.tuple #[v,.int .i64 0,.int .i64 0])∧Ci w' (w.heap.size+1) v ts∧Std s ts) ∨
  (∃a c:Nat,Lx.lex s.data.toList=.err a c∧e=.returned (.tuple #[.slice none 0 0,.int .i64 a,.int .i64 c])∧(c=5∨c=8∨c=40)))
structure LS (w0:World) (s:ByteArray) (a:Nat) (v:Value) (out:List Lx.Tok) (w:World):Prop where
 scan:AN w w0.heap.size s a
 env:Env w
 own:Ci w (w0.heap.size+1) v out
 bel:Below w0.heap.size w0 w
 hi:w0.heap.size+1≤w.heap.size
theorem LS.call {w0 w w':World} {s:ByteArray} {a b:Nat} {v:Value} {out:List Lx.Tok} (h:LS w0 s a v out w) (h3:3≤w0.heap.size) (hs:AN w' w0.heap.size s b) (hf:Fr w0.heap.size w w'):LS w0 s b v out w':=by
 refine⟨hs,h.env.fr hf h3,h.own.but hf (λk hk=>by omega),?_,QQ h.hi hf.size⟩;exact h.bel.trans ⟨hf.os,hf.tape,hf.output,QQ (by have:=h.hi;omega) hf.size,λk hk=>hf.block k (by have:=h.hi;omega) (by omega)⟩
theorem LS.drewN {w0 w:World} {s:ByteArray} {a:Nat} {v:Value} {out:List Lx.Tok} (h:LS w0 s a v out w) (n:Nat):LS w0 s a v out (w.drewN n) :=
 ⟨h.scan.drewN n,h.env.drewN n,h.own,Below.drewN h.bel n,h.hi⟩
theorem LS.alloc {w0 w:World} {s:ByteArray} {a:Nat} {v:Value} {out:List Lx.Tok} (h:LS w0 s a v out w) (o:Obj):LS w0 s a v out (w.alloc o):=by
 have A:Below w.heap.size w (w.alloc o):=(Below.refl _ _).alloc (QM _) _;exact⟨h.scan.below A,h.env.below A,h.own.below A,h.bel.trans (A.mono (by have:=h.hi;omega)),QQ h.hi A.size⟩
theorem LS.grown {w0 w w':World} {s:ByteArray} {a:Nat} {v v':Value} {out out':List Lx.Tok} (h:LS w0 s a v out w) (h3:3≤w0.heap.size) (ho:Ci w' (w0.heap.size+1) v' out') (hg:w.grownBy w' v.ownBlock):LS w0 s a v' out' w':=by
 have o:∀k,v.ownBlock=some k→w0.heap.size+1≤k:=λk hk=>(World.ownsRow.lt h.own k hk).1
 have A:But (λk=>v.ownBlock=some k) w w':=⟨hg.os,hg.tape,hg.output,hg.size,λk hk hx=>hg.block k hk (λe=>hx e.symm)⟩
 refine⟨h.scan.but A (λx=>by have:=o _ x;omega),?_,ho,?_,QQ h.hi hg.size⟩
 ·have C:=h.env;obtain⟨⟨B,D⟩,m,E⟩:=C;refine Env.but ⟨⟨B,D⟩,m,E⟩ A (λk hk=>by have:=o _ hk;omega)
 ·exact h.bel.trans ⟨hg.os,hg.tape,hg.output,QQ (by have:=h.hi;omega) hg.size,λk hk=>A.block k (by have:=h.hi;omega) (λx=>by have:=o _ x;omega)⟩
theorem Ci.form {w:World} {base:Nat} {v:Value} {ts:List Lx.Tok} (h:Ci w base v ts):∃a c,v=.slice a ts.length c:=by
 rcases h.2 with⟨h2,h3⟩|⟨g,cap,cur,hv,hg,hc,h3⟩
 ·exact⟨none,0,by rw[h3];exact h2⟩
 ·exact⟨_,_,hv⟩
theorem Jl (s:ByteArray) (w:World) (hs:s.size≤9223372036854775807) (hE:Env w) (h3:3≤w.heap.size) :
  Calls Tryz.prog 41 #[.string s] w (Jh s w):=by
 obtain⟨W,hi,Q,G,J⟩:=info_parts KB;go_enter Tryz.func41,Tryz.ntmps41;have X:(0:Int)≤(s.size:Int):=Int.natCast_nonneg _;have F:s.data.toList.length=s.size:=rfl;by_cases hbig:4096<s.size
 ·go_wp2_with fail;refine bodyPost_ret (v:=.tuple #[.slice none 0 0,.int .i64 0,.int .i64 5]) (by simp[results,Tryz.results41,go_sem]) rfl ?_;exact⟨Below.refl _ _,.inr ⟨0,5,by unfold Lx.lex;rw[if_pos (by omega)],rfl,.inl rfl⟩⟩
 ·have H:LS w s 0 (.slice none 0 0) [] (w.alloc (.cells #[.string s,.int .i64 0] 118)):=by
   have V:Below w.heap.size w (w.alloc (.cells #[.string s,.int .i64 0] 118)):=(Below.refl _ _).alloc (QM _) _;refine⟨?_,hE.below V,World.ownsRow_nil _ _ _ _,V,by simp⟩;show (w.heap.push _)[w.heap.size]?=_;simp
  have L:Lx.lexGo s.size (s.size+1) (sfx s 0) []=Lx.lex s.data.toList:=by
   unfold Lx.lex;rw[if_neg (by omega),Dz,F]
  have I:=QA H;have S:=QA L;clear H L F;go_wp2_with fail
  go_loopg [6,7,8] (s.size+1) (λk s6 _ _ wr=>∃a B,a≤s.size∧s.size<k+a∧Lx.lexGo s.size k (sfx s a) B=Lx.lex s.data.toList∧B.length≤1500∧CF s 0 B a∧LS w s a s6 B wr)
  case atStart=>exact⟨0,[],Nat.zero_le _,by omega,S.out,by simp,QM _,I.out⟩
  case round =>
   obtain⟨a,B,ha,hk,L,Z,M,R⟩:=hrel;have O:=QA M;have S:=QA L;clear L I M;go_wp2_with fail;refine (J3 w.heap.size s a wr (by omega) ha R.scan R.env h3).mono ?_;rintro e w2 ⟨b,r,hab,V,hgap,rfl,hS2,hF2⟩;have C:=R.call h3 hS2 hF2;clear R;obtain⟨n,rfl⟩:∃n,gk=n+1:=⟨gk-1,by omega⟩
   have P:decide ((sfx s a).length=s.size)=decide (a=0):=by
    rw[AQ];by_cases h0:a=0<;>simp[h0];omega
   have c1:=C.scan.c1;have o:=S.out;rw[Lx.lexGo,P,hgap,AQ]at o;clear S P hgap hS2 hF2;cases r
   ·rw[if_pos rfl,show s.size-(s.size-b)=b by omega]at o;have A:=QA o;clear o;go_wp2_with fail;refine AO [] (by kernel_rfl) (by kernel_rfl) ?_;simp only[BM,QF,QN,QE,QL,Nat.sub_zero,Nat.reduceSub,QW]
    repeat (go_big_quiet_step (fail))
    refine wpQuiet_nil ?_;rintro _ ⟨nq,rfl⟩;go_wp2;refine bodyPost_ret (v:=.tuple #[.slice none 0 0,.int .i64 b,.int .i64 40]) (by simp[results,Tryz.results41,go_sem]) rfl ?_;exact⟨Below.drewN C.bel _,.inr ⟨b,40,A.out.symm,rfl,.inr (.inr rfl)⟩⟩
   ·rw[if_neg (by simp)]at o;by_cases hbe:b=s.size
    ·rw[if_pos (by omega)]at o;have A:=QA o;have Y:=eqT (n:=b) (k:=s.size) (by omega);clear o;go_wp2_with (first|(at_builtin;refine wpList_append_own _ rfl _ _ 63 rfl (w.heap.size+1) 70 W (.agg #[.int .i64 0,.string ⟨#[]⟩,.int .i64 0]) 3 32 Tryz.underlying63 hi Q G J rfl (by decide) _ _ _ rfl (C.alloc _).own ⟨w2.heap.size,0,none⟩ 1 1 [.int .i64 0,.string ⟨#[]⟩,.int .i64 s.size] rfl rfl ?c1 ?c2 ?c3 ?c4 ?c5 ?_)|fail)
     case c1 =>
      intro j u hj
      match j,hj with
      | 0,hj=>simp at hj;subst hj;simp[Addr.add]
      | 1,hj=>simp at hj;subst hj;simp[Addr.add]
      | 2,hj=>simp at hj;subst hj;simp[Addr.add]
      | (j+3),hj=>simp at hj
     case c2=>intro u hu;simp at hu;rcases hu with rfl|rfl|rfl<;>rfl
     case c3=>unfold maxLen;omega
     case c4=>omega
     case c5=>have:=C.hi;simp;omega
     intro v' w3 hown' hgrow _;have D:=(C.alloc _).grown (out':=B++[⟨0,[],s.size⟩]) h3 (by unfold Ci;rw[Ce,QS];exact hown') hgrow;clear hown' hgrow C c1;go_wp2;refine bodyPost_ret (v:=.tuple #[v',.int .i64 0,.int .i64 0]) (by simp[results,Tryz.results41,go_sem]) rfl ?_;exact⟨D.bel,.inl ⟨_,v',A.out.symm,rfl,D.own,⟨by simp;omega,B,rfl,O.out.mono (by omega)⟩⟩⟩
    ·rw[if_neg (by omega)]at o;have A:=QA o;have Y:=eqF (n:=b) (k:=s.size) (by omega);clear o;go_wp2_with fail;refine (Ic w.heap.size s b _ (by omega) (by omega) C.scan C.env h3).mono ?_;rintro e w3 ⟨c,hbc,hc,hS3,hF3,hE3,hres⟩;have D:=C.call h3 hS3 hF3;clear C hS3 hF3 c1;rcases hres with⟨k,T,htk,hbc2,hk1,hk5,hTl,rfl⟩|⟨htk,K,T,rfl⟩
     ·have o:=A.out;rw[htk,show s.size-(s.size-b)=b by omega]at o
      replace o:(if B.length=1500 then Lx.Res.err b 8 else Lx.lexGo s.size n (sfx s c) (B++[⟨k,T,b⟩]))=Lx.lex s.data.toList:=o
      have N:=QA (JF htk hbc2 hc hk1 hk5);clear A htk;have E:=D.alloc (.cells #[.int .i64 k,.string ⟨T.toArray⟩,.int .i64 b] 70);obtain⟨oa,oc,rfl⟩:=E.own.form;by_cases h15:B.length=1500
      ·rw[if_pos h15]at o;have A:=QA o;have e2:=eqT (n:=B.length) (k:=1500) (by omega);clear o D;go_wp2_with fail;refine AO [] (by kernel_rfl) (by kernel_rfl) ?_;simp only[BM,QF,QN,QE,QL,Nat.sub_zero,Nat.reduceSub,QW]
       repeat (go_big_quiet_step (fail))
       refine wpQuiet_nil ?_;rintro _ ⟨nq,rfl⟩;go_wp2;refine bodyPost_ret (v:=.tuple #[.slice none 0 0,.int .i64 b,.int .i64 8]) (by simp[results,Tryz.results41,go_sem]) rfl ?_;exact⟨Below.drewN E.bel _,.inr ⟨b,8,A.out.symm,rfl,.inr (.inl rfl)⟩⟩
      ·rw[if_neg h15]at o;have A:=QA o;have e2:=eqF (n:=B.length) (k:=1500) (by omega);clear o;go_wp2_with (first|(at_builtin;refine wpList_append_own _ rfl _ _ 63 rfl (w.heap.size+1) 70 W (.agg #[.int .i64 0,.string ⟨#[]⟩,.int .i64 0]) 3 32 Tryz.underlying63 hi Q G J rfl (by decide) _ _ _ rfl (E.alloc _).own ⟨w3.heap.size+1,0,none⟩ 1 1 [.int .i64 k,.string ⟨T.toArray⟩,.int .i64 b] rfl rfl ?d1 ?d2 ?d3 ?d4 ?d5 ?_)|fail)
       case d1 =>
        intro j u hj
        match j,hj with
        | 0,hj=>simp at hj;subst hj;simp[Addr.add]
        | 1,hj=>simp at hj;subst hj;simp[Addr.add]
        | 2,hj=>simp at hj;subst hj;simp[Addr.add]
        | (j+3),hj=>simp at hj
       case d2=>intro u hu;simp at hu;rcases hu with rfl|rfl|rfl<;>rfl
       case d3=>unfold maxLen;omega
       case d4=>omega
       case d5=>have:=E.hi;simp at this;simp;omega
       intro v' w5 hown' hgrow _;have U:=(E.alloc _).grown (out':=B++[⟨k,T,b⟩]) h3 (by unfold Ci;rw[Ce,QS];exact hown') hgrow;clear hown' hgrow E D;go_wp2;go_roundg n
       case measure=>omega
       case rel=>exact⟨c,_,hc,by omega,A.out,by rw[QS];simp;omega,(O.out.mono hab).snoc N.out.1 N.out.2,U⟩
     ·have o:=A.out;rw[htk,show s.size-(s.size-b)=b by omega]at o;have A:=QA o;clear o htk;go_wp2_with fail;refine AO [] (by kernel_rfl) (by kernel_rfl) ?_;simp only[BM,QF,QN,QE,QL,Nat.sub_zero,Nat.reduceSub,QW]
      repeat (go_big_quiet_step (fail))
      refine wpQuiet_nil ?_;rintro _ ⟨nq,rfl⟩;go_wp2;refine bodyPost_ret (v:=.tuple #[.slice none 0 0,.int .i64 b,.int .i64 40]) (by simp[results,Tryz.results41,go_sem]) rfl ?_;exact⟨Below.drewN (D.alloc _).bel _,.inr ⟨b,40,A.out.symm,rfl,.inr (.inr rfl)⟩⟩
theorem CQ (ts:List Lx.Tok):∀(i:Nat) (t:Lx.Tok),ts[i]?=some t →
  (A7 ts)[3*i]?=some (.int .i64 t.kind)∧(A7 ts)[3*i+1]?=some (.string ⟨t.text.toArray⟩)∧(A7 ts)[3*i+2]?=some (.int .i64 t.at_):=by
 induction ts with
 | nil=>intro i t h;simp at h
 | cons x xs ih =>
  intro i t h
  match i,h with
  | 0,h=>simp at h;subst h;simp[A7]
  | i+1,h =>
   simp at h;have:=ih i t h;have e:A7 (x::xs)=.int .i64 x.kind::.string ⟨x.text.toArray⟩::.int .i64 x.at_::A7 xs:=by simp[A7]
   rw[e,show 3*(i+1)=3*i+1+1+1 by omega];exact this
structure BH (w:World) (g:Nat) (ts:List Lx.Tok):Prop where
 lt:g<w.heap.size
 kind:∀(i:Nat) (t:Lx.Tok),ts[i]?=some t→w.cell? ⟨g,3*i,none⟩=some (.int .i64 t.kind)
 text:∀(i:Nat) (t:Lx.Tok),ts[i]?=some t→w.cell? ⟨g,3*i+1,none⟩=some (.string ⟨t.text.toArray⟩)
 at_:∀(i:Nat) (t:Lx.Tok),ts[i]?=some t→w.cell? ⟨g,3*i+2,none⟩=some (.int .i64 t.at_)
theorem BH.below {w w':World} {g:Nat} {ts:List Lx.Tok} (h:BH w g ts) (hb:Below w.heap.size w w'):BH w' g ts:=by
 have e:∀k,w'.cell? ⟨g,k,none⟩=w.cell? ⟨g,k,none⟩:=λk=>World.cell?_of_block (hb.block g h.lt)
 exact⟨ZU h.lt hb.size,λi t x=>(e _).trans (h.kind i t x),λi t x=>(e _).trans (h.text i t x),λi t x=>(e _).trans (h.at_ i t x)⟩
theorem BH.drewN {w:World} {g:Nat} {ts:List Lx.Tok} (h:BH w g ts) (n:Nat):BH (w.drewN n) g ts:=⟨h.lt,h.kind,h.text,h.at_⟩
theorem addr_add (g k:Nat):(⟨g,0,none⟩:Addr).add k=⟨g,k,none⟩:=by
 by_cases h:k=0
 ·subst h;simp[Addr.add]
 ·simp[Addr.add,h]
theorem Ci.openRow {w:World} {base:Nat} {v:Value} {ts:List Lx.Tok} (h:Ci w base v ts) (hne:0<ts.length) :
  ∃g cap,v=.slice (some ⟨g,0,none⟩) ts.length cap∧base≤g∧BH w g ts:=by
 have o:=λg=>World.ownsRow.cells (g:=g) h
 rcases h.2 with⟨h2,h3⟩|⟨g,cap,cur,hv,hg,hcur,h3⟩
 ·omega
 ·refine⟨g,cap,hv,hg,Ct hcur,?_,?_,?_⟩
  ·intro i t ht;have:=o g (by rw[hv];rfl) (3*i) _ (CQ ts i t ht).1
   simpa only[addr_add] using this
  ·intro i t ht;have:=o g (by rw[hv];rfl) (3*i+1) _ (CQ ts i t ht).2.1
   simpa only[addr_add] using this
  ·intro i t ht;have:=o g (by rw[hv];rfl) (3*i+2) _ (CQ ts i t ht).2.2
   simpa only[addr_add] using this
end Go.Proofs.YtedeapbonbbacaaGreatDoor
