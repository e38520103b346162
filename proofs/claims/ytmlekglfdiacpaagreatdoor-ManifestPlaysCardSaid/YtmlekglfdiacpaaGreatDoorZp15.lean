/-
  The document's file system: what a crash builds (two rows that grow in a box).
-/
import Derived.Test.YtmlekglfdiacpaaGreatDoorZp11
import Derived.Test.YtmlekglfdiacpaaGreatDoorZp10
open Nat renaming le_trans → QQ
namespace Go.Proofs.YtmlekglfdiacpaaGreatDoor
set_option linter.unusedSimpArgs false
set_option linter.unusedVariables false
open Go Go.RowKit
open Go.Maps Go.WideMaps
theorem Ac {ops:Array Oper} {rest:List Oper} {o:Oper} {a:Act} {w:World} {Q:Exit→Act→World→Prop} (hgd:o.guard=none) (s x:Operand)
  (ho:o.op=.call { callee:=.builtin .append,args:=#[s,x],argTypes:=#[28,28] })
  (base:Nat) (v:Value) (l:List (List UInt8×Nat)) (hs:a.eval s=v) (hown:A5 w base v l) (f:List UInt8×Nat) (b:Nat) (T:TypeId) (hx:a.eval x=.slice (some ⟨b,0,none⟩) 1 1) (hB:w.heap[b]?=some (.cells (AU [f]).toArray T (0,0)))
  (h63:l.length≤1000000000) (hbase:base≤w.heap.size)
  (h:∀v' w',A5 w' base v' (l++[f])→w.grownBy w' v.ownBlock→(v'.ownBlock=v.ownBlock∨v'.ownBlock=some w.heap.size)→wpList Tryz.prog ops Q rest (a.put o.dst v') w') :
  wpList Tryz.prog ops Q (o::rest) a w:=by
 obtain⟨G,F,C,B,D⟩:=info_parts Is;have A:w.heap[b]?=some (.cells #[.string ⟨f.1.toArray⟩,.int .i64 (f.2:Nat)] T (0,0)):=hB;have h0:w.cell? ⟨b,0,none⟩=some (.string ⟨f.1.toArray⟩):=AA A 0 _ rfl;have E:w.cell? ⟨b,1,none⟩=some (.int .i64 (f.2:Nat)):=AA A 1 _ rfl;refine wpList_append_own_at w hgd s x _ ho base 105 G (.agg #[.string ⟨#[]⟩,.int .i64 0]) 2 24 Tryz.underlying28 F C B D rfl (by decide) v l.length (AU l) hs hown ⟨b,0,none⟩ 1 1 (AU [f]) hx rfl ?_ (Ch [f]) (by unfold maxLen;omega) (by omega) hbase ?_
 ·intro j u hj;rw[Bd]
  match j,hj with
  | 0,hj=>simp[AU]at hj;subst hj;exact h0
  | 1,hj=>simp[AU]at hj;subst hj;exact E
  | j+2,hj=>simp[AU]at hj
 ·intro v' w' g1 g2 _ g4;exact h v' w' (by unfold A5;rw[List.length_append,Cf];exact g1) g2 g4
theorem Ag {ops:Array Oper} {rest:List Oper} {o:Oper} {a:Act} {w:World} {Q:Exit→Act→World→Prop} (hgd:o.guard=none) (s x:Operand)
  (ho:o.op=.call { callee:=.builtin .append,args:=#[s,x],argTypes:=#[29,29] })
  (base:Nat) (v:Value) (l:Fs.Names) (hs:a.eval s=v) (hown:Ay w base v l) (n:List UInt8×Int) (b:Nat) (T:TypeId) (hx:a.eval x=.slice (some ⟨b,0,none⟩) 1 1) (hB:w.heap[b]?=some (.cells (AP [n]).toArray T (0,0)))
  (h63:l.length≤1000000000) (hbase:base≤w.heap.size)
  (h:∀v' w',Ay w' base v' (l++[n])→w.grownBy w' v.ownBlock→(v'.ownBlock=v.ownBlock∨v'.ownBlock=some w.heap.size)→wpList Tryz.prog ops Q rest (a.put o.dst v') w') :
  wpList Tryz.prog ops Q (o::rest) a w:=by
 obtain⟨G,F,C,B,D⟩:=info_parts JQ;have A:w.heap[b]?=some (.cells #[.string ⟨n.1.toArray⟩,.int .i64 n.2] T (0,0)):=hB;have h0:w.cell? ⟨b,0,none⟩=some (.string ⟨n.1.toArray⟩):=AA A 0 _ rfl;have E:w.cell? ⟨b,1,none⟩=some (.int .i64 n.2):=AA A 1 _ rfl;refine wpList_append_own_at w hgd s x _ ho base 95 G (.agg #[.string ⟨#[]⟩,.int .i64 0]) 2 24 Tryz.underlying29 F C B D rfl (by decide) v l.length (AP l) hs hown ⟨b,0,none⟩ 1 1 (AP [n]) hx rfl ?_ (Cg [n]) (by unfold maxLen;omega) (by omega) hbase ?_
 ·intro j u hj;rw[Bd]
  match j,hj with
  | 0,hj=>simp[AP]at hj;subst hj;exact h0
  | 1,hj=>simp[AP]at hj;subst hj;exact E
  | j+2,hj=>simp[AP]at hj
 ·intro v' w' g1 g2 _ g4;exact h v' w' (by unfold Ay;rw[List.length_append,Ce];exact g1) g2 g4
def rvc (fv dv:Value):RV:=⟨fv,dv,.slice none 0 0,.slice none 0 0,.slice none 0 0,[]⟩
structure CI (g M:Nat) (XM:World) (room:Int) (fs:List (List UInt8×Nat)) (ds:Fs.Names) (fv dv:Value) (X:World):Prop where
 fr:But (λx=>x=g) XM X
 hM:g<M∧M=XM.heap.size
 c:A9 X g (Fs.new room) (rvc fv dv)
 of:A5 X M fv fs
 od:Ay X M dv ds
 ne:∀x,fv.ownBlock=some x→dv.ownBlock≠some x
section
variable {g M : Nat} {XM X X7 X8 : World} {room : Int} {fs fs' : List (List UInt8 × Nat)} {ds ds' : Fs.Names} {fv dv v' : Value}
theorem CI.below (h:CI g M XM room fs ds fv dv X) (hb:Below X.heap.size X X7):CI g M XM room fs ds fv dv X7 :=
 ⟨h.fr.trans (But.of_below hb),h.hM,(hb.block _ (AE h.c)).trans h.c,AQ h.of (λk hk=>hb.block k (AJ h.of k hk).2),AQ h.od (λk hk=>hb.block k (AJ h.od k hk).2),h.ne⟩
theorem CI.size (h:CI g M XM room fs ds fv dv X):M≤X.heap.size:=by have:=h.fr.size;have:=h.hM.2;omega
theorem CI.files_at (h:CI g M XM room fs ds fv dv X) (hg:X.grownBy X8 fv.ownBlock):A9 X8 g (Fs.new room) (rvc fv dv):=by
 rw[A9,hg.block g (AE h.c) (λe=>by have:=(AJ h.of g e.symm).1;have:=h.hM.1;omega)];exact h.c
theorem CI.names_at (h:CI g M XM room fs ds fv dv X) (hg:X.grownBy X8 dv.ownBlock):A9 X8 g (Fs.new room) (rvc fv dv):=by
 rw[A9,hg.block g (AE h.c) (λe=>by have:=(AJ h.od g e.symm).1;have:=h.hM.1;omega)];exact h.c
theorem CI.files (h:CI g M XM room fs ds fv dv X) (ho:A5 X8 M v' fs') (hg:X.grownBy X8 fv.ownBlock) (hl:v'.ownBlock=fv.ownBlock∨v'.ownBlock=some X.heap.size) :
  CI g M XM room fs' ds v' dv (X8.setCell ⟨g,1,none⟩ v'):=by
 have hM:=h.hM;have B:X8.heap.size≤(X8.setCell ⟨g,1,none⟩ v').heap.size:=by simp[World.setCell]
 have o:∀k,k≠g→(X8.setCell ⟨g,1,none⟩ v').heap[k]?=X8.heap[k]?:=λk o=>Below.heap_setCell _ _ _ _ (by show k≠g;exact o)
 refine⟨?_,hM,heap_set (h.files_at hg) v',AQ ho (λk e=>o k (by have:=(AJ ho k e).1;omega)),?_,?_⟩
 ·refine⟨hg.os.trans h.fr.os,hg.tape.trans h.fr.tape,hg.output.trans h.fr.output,QQ h.fr.size (QQ hg.size B),λk A h2=>?_⟩;rw[o k h2,hg.block k (Nat.lt_of_lt_of_le A h.fr.size) (λe=>by have:=(AJ h.of k e.symm).1;omega)];exact h.fr.block k A h2
 ·refine AQ h.od (λk e=>?_);have A:=AJ h.od k e;rw[o k (by omega),hg.block k A.2 (λe2=>h.ne k e2.symm e)]
 ·intro x e1 e2;rcases hl with hl|hl
  ·exact h.ne x (hl▸e1) e2
  ·rw[hl]at e1;have:=(AJ h.od x e2).2;have:=Option.some.inj e1;omega
theorem CI.names (h:CI g M XM room fs ds fv dv X) (ho:Ay X8 M v' ds') (hg:X.grownBy X8 dv.ownBlock) (hl:v'.ownBlock=dv.ownBlock∨v'.ownBlock=some X.heap.size) :
  CI g M XM room fs ds' fv v' (X8.setCell ⟨g,2,none⟩ v'):=by
 have hM:=h.hM;have B:X8.heap.size≤(X8.setCell ⟨g,2,none⟩ v').heap.size:=by simp[World.setCell]
 have o:∀k,k≠g→(X8.setCell ⟨g,2,none⟩ v').heap[k]?=X8.heap[k]?:=λk o=>Below.heap_setCell _ _ _ _ (by show k≠g;exact o)
 refine⟨?_,hM,heap_set (h.names_at hg) v',?_,AQ ho (λk e=>o k (by have:=(AJ ho k e).1;omega)),?_⟩
 ·refine⟨hg.os.trans h.fr.os,hg.tape.trans h.fr.tape,hg.output.trans h.fr.output,QQ h.fr.size (QQ hg.size B),λk A h2=>?_⟩;rw[o k h2,hg.block k (Nat.lt_of_lt_of_le A h.fr.size) (λe=>by have:=(AJ h.od k e.symm).1;omega)];exact h.fr.block k A h2
 ·refine AQ h.of (λk e=>?_);have A:=AJ h.of k e;rw[o k (by omega),hg.block k A.2 (λe2=>h.ne k e e2.symm)]
 ·intro x e1 e2;rcases hl with hl|hl
  ·exact h.ne x e1 (hl▸e2)
  ·rw[hl]at e2;have:=(AJ h.of x e1).2;have:=Option.some.inj e2;omega
end
theorem D6 {Q:Ending→World→Prop} {a:Act} {W:World} (g:Nat) (st:Fs.St) (V:RV) (h4:a.tmps[6]?=some (.pointer (some ⟨g,0,none⟩))) (hd:a.defers=[])
  (hW:A9 W g st V) (hQ:Q (.returned (.agg (AG st V))) W):bodyPost Tryz.prog Tryz.f36 Q .ret a W:=by
 have B:W.cell? ⟨g,0,none⟩=some (.int .i64 st.room):=AA hW 0 _ rfl;have C:W.cell? ⟨g,1,none⟩=some V.fv:=AA hW 1 _ rfl;have D:W.cell? ⟨g,2,none⟩=some V.dv:=AA hW 2 _ rfl;have o:W.cell? ⟨g,3,none⟩=some V.sv:=AA hW 3 _ rfl;have G:W.cell? ⟨g,4,none⟩=some V.cv:=AA hW 4 _ rfl;have E:W.cell? ⟨g,5,none⟩=some (.int .i64 st.steps):=AA hW 5 _ rfl;have A:W.cell? ⟨g,6,none⟩=some (.int .i64 st.left):=AA hW 6 _ rfl;have F:W.cell? ⟨g,7,none⟩=some V.pv:=AA hW 7 _ rfl;exact bodyPost_ret (v:=.agg (AG st V)) (by simp[results,Tryz.results36,go_sem,h4,B,C,D,o,G,E,A,F,AG]) hd hQ
theorem E9 (st:Fs.St) (j:Nat) (l:Fs.Names) (h:st.changes[j]?=some l):Fs.crashDir st (j+1)=Fs.doAll (Fs.crashDir st j) l:=by
 unfold Fs.crashDir;rw[List.take_add_one,h,List.foldl_append];rfl
theorem G2 (d l:Fs.Names) (i:Nat) (p:List UInt8×Int) (h:l[i]?=some p):Fs.doAll d (l.take (i+1))=Fs.doOne (Fs.doAll d (l.take i)) p:=by
 unfold Fs.doAll;rw[List.take_add_one,h,List.foldl_append];rfl
end Go.Proofs.YtmlekglfdiacpaaGreatDoor
