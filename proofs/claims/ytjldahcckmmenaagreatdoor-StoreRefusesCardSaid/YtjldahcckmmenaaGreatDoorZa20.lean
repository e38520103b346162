/-
  Entries as the document has them, in memory; the law's same and Fits, Steps, walked. The law's entries, walked.
-/
import Derived.Test.YtjldahcckmmenaaGreatDoorZa19
import Derived.Test.YtjldahcckmmenaaGreatDoorZa7
open Array renaming getInternal_eq_getElem → QD
open Go.Lib renaming hid → QA
open List renaming setIfInBounds_toArray → QC, set_cons_succ → QG, set_cons_zero → QH, getElem_cons_zero → QI, getElem_cons_succ → QJ, getElem_toArray → QK, length_map → QV, mem_of_getElem? → QZ, getElem?_map → ZF, getElem?_eq_getElem → ZG, map_cons → ZP
open Nat renaming le_refl → QM, zero_le → ZS
namespace Go.Proofs.YtjldahcckmmenaaGreatDoor
set_option maxRecDepth 100000
set_option maxHeartbeats 4000000
set_option linter.unusedSimpArgs false
set_option linter.unusedVariables false
open Go Go.RowKit
open Go.Maps Go.WideMaps
def txt (l:List UInt8):Value:=.string ⟨l.toArray⟩
structure ROk (o:Sto.Op):Prop where
 key:o.1.length=32
 kind:-9223372036854775808≤o.2.1∧o.2.1≤9223372036854775807
 val:o.2.2.length≤1000000000
def AO (o:Sto.Op):List Value:=AH o (txt o.2.2)
def Bc (E:Sto.Ents):List Value:=AP (E.map λo=>(o,txt o.2.2))
theorem A2 {o:Sto.Op} (h:o.1.length=32):(AO o).length=34:=Af h _
theorem Kc (l:List UInt8):(txt l).oneCell'=true:=rfl
def BW (w:World) (F:Nat→Prop) (v:Value) (E:Sto.Ents):Prop :=
 ∃a cap,v=.slice a E.length cap∧E.length≤cap∧∀(i:Nat) o,E[i]?=some o→ROk o∧∃g off,a=some ⟨g,off,none⟩∧g<w.heap.size∧F g∧w.rangeAt g (off+i*34) (AO o)
theorem BW.form {w:World} {F:Nat→Prop} {v:Value} {E:Sto.Ents} (h:BW w F v E):∃a cap,v=.slice a E.length cap:=by
 obtain⟨a,cap,o,_⟩:=h;exact⟨a,cap,o⟩
theorem BW.at {w:World} {F:Nat→Prop} {a:Option Addr} {n cap:Nat} {E:Sto.Ents} (h:BW w F (.slice a n cap) E) {i:Nat} {o:Sto.Op} (hi:E[i]?=some o) :
  ROk o∧∃g off,a=some ⟨g,off,none⟩∧g<w.heap.size∧w.rangeAt g (off+i*34) (AO o):=by
 obtain⟨J,B,A,_,C⟩:=h;simp only[Value.slice.injEq]at A;rw[A.1];obtain⟨G,g,off,H,D,_,I⟩:=C i o hi;exact⟨G,g,off,H,D,I⟩
theorem BW.mv {F F':Nat→Prop} {w w':World} {v:Value} {E:Sto.Ents} (h:BW w F v E) (m:MV F F' w w'):BW w' F' v E:=by
 obtain⟨a,cap,G,C,B⟩:=h;refine⟨a,cap,G,C,λi p hi=>?_⟩;obtain⟨D,g,o,H,A,I,J⟩:=B i p hi;obtain⟨L,K⟩:=m.2 g A I;exact⟨D,g,o,H,Nat.lt_of_lt_of_le A m.1,L,AY J K⟩
theorem BW.ok {w:World} {F:Nat→Prop} {v:Value} {E:Sto.Ents} (h:BW w F v E):∀o∈E,ROk o:=λo ho=>by
 obtain⟨i,B⟩:=List.getElem?_of_mem ho;obtain⟨a,cap,D,C,A⟩:=h;exact (A i o B).1
structure B7 (w:World) (base:Nat) (v:Value) (E:Sto.Ents):Prop where
 row:w.ownsRow base 82 34 v E.length (Bc E)
 ok:∀o∈E,ROk o
theorem GE (E D:Sto.Ents):Bc (E++D)=Bc E++Bc D:=by unfold Bc AP;rw[List.map_append,List.flatMap_append]
theorem F5 (o:Sto.Op):Bc [o]=AO o:=by unfold Bc AP AO;simp
theorem B7.rosF {w:World} {base:Nat} {F:Nat→Prop} {v:Value} {E:Sto.Ents} (h:B7 w base v E) (hF:∀b,base≤b→F b):BW w F v E:=by
 have A:=λg hg=>World.ownsRow.cells (g:=g) h.row hg
 rcases h.row.2 with⟨h1,h2⟩|⟨g,cap,cur,h1,hg,hb,hc,hm,_,_⟩
 ·have C:E=[]:=List.eq_nil_of_length_eq_zero h2;subst C;exact⟨none,0,h1,QM _,λi p hp=>by simp at hp⟩
 ·refine⟨some ⟨g,0,none⟩,cap,h1,hc,λi o hi=>⟨h.ok o (QZ hi),g,0,rfl,AD hb,hF g hg,λj u hj=>?_⟩⟩;have G:∀p∈E.map (λo=>(o,txt o.2.2)),p.1.1.length=32:=λp hp=>by obtain⟨o,D,rfl⟩:=List.mem_map.1 hp;exact (h.ok o D).key
  have B:(E.map λo=>(o,txt o.2.2))[i]?=some (o,txt o.2.2):=by rw[ZF,hi];rfl
  have:=A g (by rw[h1];rfl) (i*34+j) u (Bi _ G i _ j u B hj);rw[addr_add]at this;rw[Nat.zero_add];exact this
theorem B7.nil (w:World) (base:Nat):B7 w base (.slice none 0 0) []:=⟨World.ownsRow_nil _ _ _ _,λo h=>by simp at h⟩
theorem B7.keep {w w':World} {base:Nat} {v:Value} {E:Sto.Ents} (h:B7 w base v E) (hb:Below w.heap.size w w'):B7 w' base v E:=⟨AQ h.row (λg hg=>hb.block g (h.row.lt g hg).2),h.ok⟩
theorem B7.form {w:World} {base:Nat} {v:Value} {E:Sto.Ents} (h:B7 w base v E):∃a c,v=.slice a E.length c:=by
 rcases h.row.2 with⟨h1,h2⟩|⟨g,cap,cur,h1,_⟩
 ·exact⟨none,0,by rw[h1,h2]⟩
 ·exact⟨_,_,h1⟩
theorem D3 {ops:Array Oper} {S:World→Prop} {op:Oper} {a:Act} (hw:Region.wanted op (yielded ops a.tmps)=true) (x:Operand) (ho:op.op=.load 82 x) (b o:Nat) (hx:a.eval x=.pointer (some ⟨b,o,none⟩)) (p:Sto.Op) (hk:p.1.length=32)
  (hS:∀w,S w→w.rangeAt b o (AO p)):YieldsIf Tryz.prog ops S op (.agg (AO p).toArray) a :=
 yieldsIf_load_mid hw _ x ho b o hx (AO p) _ hS Tryz.underlying82 rfl (by rw[A2 hk];kernel_rfl)
theorem Az {ops:Array Oper} {rest:List Oper} {op:Oper} {a:Act} {w:World} {Q:Exit→Act→World→Prop} (hgd:op.guard=none) (x:Operand) (ho:op.op=.load 82 x) (g off:Nat) (o:Sto.Op) (hk:o.1.length=32)
  (hx:a.eval x=.pointer (some ⟨g,off,none⟩)) (hW:w.rangeAt g off (AO o)) (h:wpList Tryz.prog ops Q rest (a.put op.dst (.agg (AO o).toArray)) w):wpList Tryz.prog ops Q (op::rest) a w :=
 wpList_load_mid hgd _ x ho g off hx (AO o) _ hW Tryz.underlying82 rfl (by rw[A2 hk];kernel_rfl) h
/-! ### Two entries are the same -/
theorem Cc (m:Nat) (k:List UInt8) (hk:k.length=32):Tryz.prog.keyLits (m+2) 39 (AG k)=some (k.map λc=>Lit.int .u8 (c.toNat:Int)):=by
 unfold Program.keyLits;simp only[Tryz.underlying39];rw[if_pos (by rw[show Tryz.prog.cellsOf 39=32 by kernel_rfl];simp[AG,hk]),mapM_some (g:=λi=>[Lit.int .u8 ((k.getD i 0).toNat:Int)]) _ (λi hi=>?_)]
 ·rw[Option.map_some]
  congr 1
  have:(List.range 32).map (λi=>[Lit.int .u8 ((k.getD i 0).toNat:Int)])=k.map λc=>[Lit.int .u8 (c.toNat:Int)]:=by
   apply List.ext_getElem
   ·simp[hk]
   ·intro i h1 h2;simp at h1 h2;simp[ZG h2]
  rw[this];clear this hk
  induction k with
  | nil=>rfl
  | cons c r ih=>rw[ZP,List.flatten_cons,ih];rfl
 ·have o:i<k.length:=by have:=List.mem_range.1 hi;omega
  rw[Kz];have:((AG k).drop (i*1)).take 1=[Value.int .u8 ((k.getD i 0).toNat:Int)]:=by
   rw[Nat.mul_one,List.drop_eq_getElem_cons (by simpa [AG] using o),List.take_succ_cons,List.take_zero];simp[AG,ZG o]
  rw[this];exact EZ m _
def GF (o:Sto.Op):List Lit:=(o.1.map λc=>Lit.int .u8 (c.toNat:Int))++[.int .i64 o.2.1,.string o.2.2]
theorem Ho {a b:Sto.Op} (ha:a.1.length=32) (hb:b.1.length=32) (h:GF a=GF b):a=b:=by
 unfold GF at h;obtain⟨A,o⟩:=List.append_inj h (by rw[QV,QV,ha,hb]);simp only[List.cons.injEq,Lit.int.injEq,Lit.string.injEq,true_and,and_true]at o;exact Prod.ext (CK A) (Prod.ext o.1 o.2)
theorem LJ (n:Int) (h:-9223372036854775808≤n∧n≤9223372036854775807):(Lit.int .i64 n).wf=true:=by
 have A:IntKind.i64.min=-9223372036854775808:=by decide
 have o:IntKind.i64.max=9223372036854775807:=by decide
 simp[Lit.wf,A,o];omega
theorem KJ (o:Sto.Op) (h:o.1.length=32):(AO o).take 32=AG o.1∧((AO o).drop 32).take 1=[.int .i64 o.2.1]∧((AO o).drop 33).take 1=[txt o.2.2]:=by
 have A:(AG o.1).length=32:=by rw[AU,h]
 unfold AO AH;refine⟨?_,?_,?_⟩
 ·rw[← A];exact List.take_left
 ·rw[show (32:Nat)=(AG o.1).length from A.symm,List.drop_left];rfl
 ·rw[show (33:Nat)=(AG o.1).length+1 by omega,← List.drop_drop,List.drop_left];rfl
theorem E1 {o:Sto.Op} (h:ROk o):Tryz.prog.keyLits 3 82 (AO o)=some (GF o):=by
 obtain⟨E,B,A⟩:=KJ o h.key;have D:Tryz.prog.keyLits 2 3 [.int .i64 o.2.1]=some [.int .i64 o.2.1]:=by
  unfold Program.keyLits;simp only[Tryz.underlying3,LJ _ h.kind,and_self,if_true]
 have F:Tryz.prog.keyLits 2 9 [txt o.2.2]=some [.string o.2.2]:=by
  unfold Program.keyLits txt;have:(⟨o.2.2.toArray⟩:ByteArray).size≤maxLen:=by show o.2.2.toArray.size≤_;have:=h.val;unfold maxLen;simp;omega
  simp only[Tryz.underlying9,this,if_true]
 have C:=Cc 0 o.1 h.key;unfold Program.keyLits;simp only[Tryz.underlying82];rw[if_pos ⟨by rw[A2 h.key];kernel_rfl,by kernel_rfl⟩];simp only[List.mapM_cons,List.mapM_nil,List.drop_zero,show Tryz.prog.cellsOf 39=32 by kernel_rfl,show Tryz.prog.cellsOf 3=1 by kernel_rfl,show Tryz.prog.cellsOf 9=1 by kernel_rfl,E,B,A,C,D,F];rfl
theorem FE {o:Sto.Op} (h:o.1.length=32):(Value.agg (AO o).toArray).formed Tryz.prog 82=true:=by
 have A:Tryz.prog.cellsOf 82=34:=by kernel_rfl
 simp[Value.formed,Tryz.underlying82,A,A2 h]
theorem H6 (a b:Sto.Op) (ha:ROk a) (hb:ROk b) (w:World):(Op.equalIn 10000 82 (.agg (AO a).toArray) (.agg (AO b).toArray)).run Tryz.prog w=.ok (decide (a=b)) w:=by
 obtain⟨r,A,o⟩:=run_equalIn_deep (P:=Tryz.prog) 9997 3 82 (by kernel_rfl) w 3 3 (.agg (AO a).toArray) (.agg (AO b).toArray) _ _ (FE ha.key) (FE hb.key) (by show Tryz.prog.keyLits 3 _ (AO a).toArray.toList=_;rw[List.toList_toArray];exact E1 ha) (by show Tryz.prog.keyLits 3 _ (AO b).toArray.toList=_;rw[List.toList_toArray];exact E1 hb);refine Eq.trans (b:=.ok r w) A ?_
 congr 1
 rw[Bool.eq_iff_iff,o,decide_eq_true_iff];exact⟨Ho ha.key hb.key,λe=>by rw[e]⟩
theorem LF (a b:Sto.Op) (ha:ROk a) (hb:ROk b) (w:World):(binOp .neq 82 (.agg (AO a).toArray) (.agg (AO b).toArray)).run Tryz.prog w=.ok (.bool (!decide (a=b))) w:=by
 rw[run_neq_struct,H6 a b ha hb w];rfl
theorem JM (op:BinOp) (x y:Operand) (a b:Sto.Op) (w:World):(eqGuard op 82 x y (.agg (AO a).toArray) (.agg (AO b).toArray)).run Tryz.prog w=.ok () w:=by
 have h:Tryz.prog.eqGuardType Tryz.prog.depth 82=false:=by kernel_rfl
 unfold eqGuard;cases op<;>simp[h]
theorem Ch (a b:Value) (E D:Sto.Ents) (w:World) (F G:Nat→Prop) (ha:BW w F a E) (hb:BW w G b D) (hl:E.length≤1000000000) (hm:D.length≤1000000000) :
  Calls Tryz.prog 15 #[a,b] w λe w'=>e=.returned (.bool (decide (E=D)))∧Below w.heap.size w w':=by
 obtain⟨aa,ac,rfl⟩:=ha.form;obtain⟨ba,bc,rfl⟩:=hb.form;have HA:=QA ha;have HB:=QA hb;clear ha hb;go_enter Tryz.func15,Tryz.ntmps15;by_cases hlen:E.length=D.length
 ·have ht:((E.length:Int) != (D.length:Int))=false:=by rw[hlen];simp
  have P:(E.length != D.length)=false:=by rw[hlen];simp
  have o:=QA hlen;clear hlen;go_wp2_with fail
  go_loopg [13] E.length (λk s13 wr=>∃j:Nat,j≤E.length∧k=E.length-j∧s13=.int .i64 (j:Nat)∧E.take j=D.take j∧∃n,wr=w.drewN n)
  case atStart=>exact⟨0,ZS _,rfl,rfl,by simp,0,rfl⟩
  case round =>
   obtain⟨j,hj,V,rfl,C,nd,rfl⟩:=hrel;have HK:=QA V;have O:=QA C;clear V C;have ad:(0:Int)≤(j:Int):=Int.natCast_nonneg _;by_cases hjn:j<E.length
   ·have M:(j:Int)<(E.length:Int):=by omega
    have X:(j:Int)<(D.length:Int):=by have:=o.out;omega
    obtain⟨x,S⟩:∃x,E[j]?=some x:=⟨_,ZG hjn⟩
    obtain⟨y,Q⟩:∃y,D[j]?=some y:=⟨_,ZG (by have:=o.out;omega)⟩
    obtain⟨Z,B,J,rfl,an,c1⟩:=HA.out.at S;obtain⟨U,L,N,rfl,af,c2⟩:=HB.out.at Q;have W:=QA S;have T:=QA Q;have I:=QA Z;have K:=QA U;clear S Q Z U;go_wp2_with fail;refine AK (λw'=>w'.rangeAt B (J+j*34) (AO x)∧w'.rangeAt L (N+j*34) (AO y)) 9 (by kernel_rfl) ?_;have A:(w.drewN nd).drew.rangeAt B (J+j*34) (AO x)∧(w.drewN nd).drew.rangeAt L (N+j*34) (AO y):=⟨(World.rangeAt_drew _ _ _ _).2 c1,(World.rangeAt_drew _ _ _ _).2 c2⟩
    change Ad _ _ _ _ _ _ _ _ _ (w.drewN nd).drew;refine TK (i:=0) (v:=.slice (some ⟨B,J,none⟩) E.length ac) rfl (Or.inl ⟨by rfl,λw hSw=>by go_simp⟩) A ?_;simp only[Act.put,QD,QK,QI,QJ,QC,QH,QG];refine TK (i:=1) (v:=.int .i64 (j:Nat)) rfl (Or.inl ⟨by rfl,λw hSw=>by go_simp⟩) A ?_;simp only[Act.put,QD,QK,QI,QJ,QC,QH,QG];refine TK (i:=2) (v:=.pointer (some ⟨B,J+j*34,none⟩)) rfl (Or.inl ⟨by rfl,λw hSw=>by go_simp⟩) A ?_;simp only[Act.put,QD,QK,QI,QJ,QC,QH,QG];refine TK (i:=3) (v:=.agg (AO x).toArray) rfl (D3 rfl _ rfl B (J+j*34) rfl x I.out.key (λw hSw=>hSw.1)) A ?_;simp only[Act.put,QD,QK,QI,QJ,QC,QH,QG];refine TK (i:=4) (v:=.slice (some ⟨L,N,none⟩) D.length bc) rfl (Or.inl ⟨by rfl,λw hSw=>by go_simp⟩) A ?_;simp only[Act.put,QD,QK,QI,QJ,QC,QH,QG];refine TK (i:=5) (v:=.int .i64 (j:Nat)) rfl (Or.inl ⟨by rfl,λw hSw=>by go_simp⟩) A ?_;simp only[Act.put,QD,QK,QI,QJ,QC,QH,QG];refine TK (i:=6) (v:=.pointer (some ⟨L,N+j*34,none⟩)) rfl (Or.inl ⟨by rfl,λw hSw=>by go_simp⟩) A ?_;simp only[Act.put,QD,QK,QI,QJ,QC,QH,QG];refine TK (i:=7) (v:=.agg (AO y).toArray) rfl (D3 rfl _ rfl L (N+j*34) rfl y K.out.key (λw hSw=>hSw.2)) A ?_;simp only[Act.put,QD,QK,QI,QJ,QC,QH,QG];have ah:=JM .neq;have ak:=LF x y I.out K.out;refine TK (i:=8) (v:=.bool (!decide (x=y))) rfl (Or.inl ⟨by rfl,λw hSw=>by go_simp⟩) A ?_;simp only[Act.put,QD,QK,QI,QJ,QC,QH,QG];refine AN (by kernel_rfl) ?_ _;by_cases hxy:x=y
    ·have R:(!decide (x=y))=false:=by rw[decide_eq_true hxy];rfl
     rw[R];go_wp2_with fail;go_roundg (E.length-(j+1))
     case measure=>rw[HK.out];omega
     case rel=>exact⟨j+1,by omega,rfl,by simp,by rw[List.take_add_one,List.take_add_one,O.out,W.out,T.out,hxy],nd+1,by first|rfl|(simp[World.drewN,World.drew];omega)⟩
    ·have R:(!decide (x=y))=true:=by rw[decide_eq_false hxy];rfl
     have H:Hid (decide (E=D)=false):=QA (decide_eq_false (λe=>hxy (by have:=W.out;rw[e,T.out]at this;exact (Option.some.inj this).symm)));rw[R];go_wp2_with fail;go_ret;exact⟨by rw[H.out];rfl,Below.drew (Below.drewN (Below.refl _ _) _)⟩
   ·have M:(E.length:Int)≤(j:Int):=by omega
    have H:Hid (decide (E=D)=true):=by
     have Y:=O.out;rw[List.take_of_length_le (by omega),List.take_of_length_le (by have:=o.out;omega)]at Y;exact QA (decide_eq_true Y)
    go_wp2_with fail;go_ret;exact⟨by rw[H.out];rfl,Below.drewN (Below.refl _ _) _⟩
 ·have ht:((E.length:Int) != (D.length:Int))=true:=by rw[bne_iff_ne];omega
  have P:(E.length != D.length)=true:=by rw[bne_iff_ne];exact hlen
  have H:Hid (decide (E=D)=false):=QA (decide_eq_false (λe=>hlen (by rw[e])));clear hlen;go_wp2_with fail;go_ret;exact⟨by rw[H.out];rfl,Below.refl _ _⟩
theorem BQ (base B:Nat) (st:Fs.St) (V:FsV) (own:Nat→Tag) (w:World) (h:Ae base B st V own w) :
  Calls Tryz.prog 19 #[.pointer (some ⟨B,0,none⟩)] w λe w'=>e=.returned (.int .i64 st.steps)∧Below w.heap.size w w':=by
 have o:w.cell? ⟨B,0,none⟩=some (.int .i64 st.steps):=AA h.at_.root 0 _ rfl;clear h;go_enter Tryz.func19,Tryz.ntmps19;go_wp2_with fail;go_ret;exact⟨rfl,Below.refl _ _⟩
def Jd (l:Sto.ME) (w:World) (e:Ending) (w':World):Prop :=
 ∃b,e=.returned (.bool b)∧(b=true→l.length≤70∧∀p∈l,p.1.2.2.length≤9000)∧Below w.heap.size w w'
theorem Dq (v:Value) (l:Sto.ME) (w:World) (F:Nat→Prop) (h:Au w F v l) (hl:l.length≤9223372036854775807) (hb:∀p∈l,p.1.2.2.length≤9223372036854775807) :
  Calls Tryz.prog 9 #[.agg #[.int .i64 0,.int .i64 0,v,.slice none 0 0]] w (Jd l w):=by
 obtain⟨va,vc,rfl⟩:=h.form;have D:Below w.heap.size w (w.alloc (.cells #[.int .i64 0,.int .i64 0,.slice va l.length vc,.slice none 0 0] 27)):=(Below.refl _ _).alloc (QM _) _;have H:=QA (h.mv (MV.below D));have C:=QA D;have X:=QA hb;clear h D hb;go_enter Tryz.func9,Tryz.ntmps9;by_cases h70:70<l.length
 ·have S:(70:Int)<(l.length:Int):=by omega
  go_wp2_with fail;go_ret;exact⟨false,rfl,λe=>(by cases e),C.out⟩
 ·have S:(l.length:Int)≤70:=by omega
  go_wp2_with fail;obtain⟨W,P⟩:∃x,w.alloc (.cells #[.int .i64 0,.int .i64 0,.slice va l.length vc,.slice none 0 0] 27)=x:=⟨_,rfl⟩
  rw[P]at C H ⊢;clear P
  go_loopg [3,19] l.length (λk s3 s19 wr=>∃j n:Nat,j≤l.length∧k=l.length-j∧s19=.int .i64 (j:Nat)∧s3=.int .i64 (n:Nat)∧n≤9000∧(∀p∈l.take j,p.1.2.2.length≤9000)∧Below W.heap.size W wr)
  case atStart=>exact⟨0,0,ZS _,rfl,rfl,rfl,ZS _,λp E=>(by simp at E),Below.refl _ _⟩
  case round =>
   obtain⟨j,n,hj,hk,rfl,rfl,hn,K,hB⟩:=hrel;have HK:=QA hk;have V:=QA hB;have J:=QA K;clear hk hB K;have ag:(0:Int)≤(j:Int):=Int.natCast_nonneg _;by_cases hjn:j<l.length
   ·have R:(j:Int)<(l.length:Int):=by omega
    obtain⟨⟨o,pv⟩,E⟩:∃p,l[j]?=some p:=⟨_,ZG hjn⟩
    obtain⟨A,Q,g,O,rfl,hg,L⟩:=(H.out.mv (MV.below V.out)).at E;have G:=Q.1;have aa:Hid (l.take (j+1)=l.take j++[(o,pv)]):=QA (by rw[List.take_add_one,E];rfl);have Z:=X.out _ (QZ E);obtain⟨M,N,T,af⟩:=G.form;simp only at T A G L Z;subst T;have D:=Al.new wr o (.slice M o.2.2.length N);have ah:=D.cell (Ak A _);have U:=QA G;have B:=QA A;clear D G A E Q;have I:Hid (Below W.heap.size W (wr.alloc (.cells (AH o (.slice M o.2.2.length N)).toArray 43))):=QA (V.out.alloc V.out.size _);by_cases hbig:9000-(n:Int)<(o.2.2.length:Int)
    ·go_wp2_with (first|(guard_target=wpList _ _ _ ({ dst:=_,op:=.load 43 _,type:=_,pos:=_,after:=_,guard:=none }::_) _ _;refine AR rfl _ rfl g (O+j*34) o (.slice M o.2.2.length N) B.out rfl L ?_)|(guard_target=wpList _ _ _ ({ dst:=_,op:=.store 43 _ _,type:=_,pos:=_,after:=_,guard:=none }::_) _ _;refine AW rfl _ _ rfl _ rfl o (.slice M o.2.2.length N) B.out U.out.one rfl rfl ?_)|fail);refine bodyPost_ret (v:=.bool false) (by simp[results,Tryz.results9,go_sem]) rfl ?_;exact⟨false,rfl,λe=>(by cases e),C.out.trans (I.out.mono C.out.size)⟩
    ·have Y:(o.2.2.length:Int)≤9000-(n:Int):=by omega
     go_wp2_with (first|(guard_target=wpList _ _ _ ({ dst:=_,op:=.load 43 _,type:=_,pos:=_,after:=_,guard:=none }::_) _ _;refine AR rfl _ rfl g (O+j*34) o (.slice M o.2.2.length N) B.out rfl L ?_)|(guard_target=wpList _ _ _ ({ dst:=_,op:=.store 43 _ _,type:=_,pos:=_,after:=_,guard:=none }::_) _ _;refine AW rfl _ _ rfl _ rfl o (.slice M o.2.2.length N) B.out U.out.one rfl rfl ?_)|fail);go_roundg (l.length-(j+1))
     case measure=>rw[HK.out];omega
     case rel=>exact⟨j+1,n+o.2.2.length,by omega,rfl,by simp,by simp,by omega,(by
      rw[aa.out];intro p E;rcases List.mem_append.1 E with E|E
      ·exact J.out p E
      ·rw[List.mem_singleton.1 E];show o.2.2.length≤9000;omega),I.out⟩
   ·have R:(l.length:Int)≤(j:Int):=by omega
    have HT:Hid (l.take j=l):=QA (List.take_of_length_le (by omega));go_wp2_with fail;refine bodyPost_ret (v:=.bool true) (by simp[results,Tryz.results9,go_sem]) rfl ?_;exact⟨true,rfl,λ_=>⟨by omega,by have:=J.out;rwa [HT.out]at this⟩,C.out.trans (V.out.mono C.out.size)⟩
open Go.Maps Go.WideMaps
theorem Hi (b off j:Nat):(⟨b,off,none⟩:Addr).add j=⟨b,off+j,none⟩:=by
 unfold Addr.add;by_cases h:j=0
 ·rw[h];rfl
 ·simp[h]
theorem K2:(Tryz.prog.info? 82).map (λi=>(i.zero,i.size,i.bytes))=some (some (.agg (Array.replicate 32 (.int .u8 0)++#[.int .i64 0,.string ⟨#[]⟩])),34,56):=by kernel_rfl
theorem LL (w:World):(zeroValue 82).run Tryz.prog w=.ok (.agg (Array.replicate 32 (.int .u8 0)++#[.int .i64 0,.string ⟨#[]⟩])) w:=by kernel_rfl
theorem F4 (w:World) (o:Sto.Op) (hk:o.1.length=32):(Instr.build 82 #[(0,Ac o.1),(1,.int .i64 o.2.1),(2,txt o.2.2)]).run Tryz.prog w=.ok (.agg (AO o).toArray) w:=by
 have A:=AU o.1;unfold Instr.build;simp only[Sem.run_bind,LL,Result.andThen_ok,run_underlying Tryz.underlying82];simp;rw[De hk (by simp[Value.cells]) (.int .i64 0) (.string ⟨#[]⟩) (by simp[Value.cells]) (by simp[Value.cells]) _ rfl,DO (off:=32) rfl (by simp;omega) _ rfl,Jy hk,DO (off:=33) rfl (by simp;omega) _ rfl,JN hk];rfl
theorem G7 {o:Sto.Op}:∀u∈AO o,u.oneCell'=true:=Be (Kc _)
section
variable {ops : Array Oper} {rest : List Oper} {op : Oper} {a : Act} {w : World} {Q : Exit → Act → World → Prop}
theorem Jv (hw:Region.wanted op (yielded ops a.tmps)=true) (x y z:Operand) (ho:op.op=.build 82 #[(0,x),(1,y),(2,z)]) (o:Sto.Op) (hk:o.1.length=32)
  (hx:a.eval x=Ac o.1) (hy:a.eval y=.int .i64 o.2.1) (hz:a.eval z=txt o.2.2) (h:wpList Tryz.prog ops Q rest (a.put op.dst (.agg (AO o).toArray)) w):wpList Tryz.prog ops Q (op::rest) a w :=
 BN hw λ_ hK=>by
  unfold Oper.wp execOp;simp only[ho,List.map_toArray,ZP,List.map_nil,hx,hy,hz,Sem.run_bind,F4 w o hk,Result.andThen_ok];exact hK _ _ h
theorem CS (hw:Region.wanted op (yielded ops a.tmps)=true) (x:Operand) (ho:op.op=.buildSlice 33 1 #[(0,x)]) (o:Sto.Op) (hk:o.1.length=32) (hx:a.eval x=.agg (AO o).toArray)
  (h:wpList Tryz.prog ops Q rest (a.put op.dst (.slice (some ⟨w.heap.size,0,none⟩) 1 1)) (w.alloc (.cells (AO o).toArray 82))):wpList Tryz.prog ops Q (op::rest) a w:=by
 obtain⟨F,E,B,C,D⟩:=info_parts K2;refine BN hw λ_ hK=>?_
 have A:=B6 w 33 82 (AO o) F _ Tryz.underlying33 E B (by rw[C,A2 hk]) (by rw[A2 hk];omega) (by rw[A2 hk];omega);unfold Oper.wp execOp;simp only[ho,Sem.run_bind,List.map_toArray,ZP,List.map_nil,hx,A,Result.andThen_ok];exact hK _ _ h
theorem Am (hgd:op.guard=none) (s x:Operand) (ho:op.op=.call { callee:=.builtin .append,args:=#[s,x],argTypes:=#[33,33] })
  (base:Nat) (v:Value) (E:Sto.Ents) (hs:a.eval s=v) (hown:B7 w base v E) (o:Sto.Op) (hok:ROk o) (b off n c:Nat) (hx:a.eval x=.slice (some ⟨b,off,none⟩) n c) (hn:n=1) (hr:w.rangeAt b off (AO o)) (h63:E.length≤1000000000) (hbase:base≤w.heap.size)
  (h:∀v' w',B7 w' base v' (E++[o])→w.grownBy w' v.ownBlock→(v'.ownBlock=v.ownBlock∨v'.ownBlock=some w.heap.size)→wpList Tryz.prog ops Q rest (a.put op.dst v') w') :
  wpList Tryz.prog ops Q (op::rest) a w:=by
 obtain⟨F,D,B,C,A⟩:=info_parts K2;refine wpList_append_own_at w hgd s x _ ho base 82 F (.agg (Array.replicate 32 (.int .u8 0)++#[.int .i64 0,.string ⟨#[]⟩])) 34 56 Tryz.underlying33 D B C A rfl (by decide) v E.length (Bc E) hs hown.row ⟨b,off,none⟩ n c (AO o) hx (by rw[A2 hok.key,hn]) ?_ G7 (by unfold maxLen;omega) (by omega) hbase ?_
 ·intro j u hj;rw[Hi];exact hr j u hj
 ·intro v' w' g1 g2 _ g4;refine h v' w' ⟨?_,λp hp=>?_⟩ g2 g4
  ·rw[List.length_append,GE,F5,List.length_singleton];rw[hn]at g1;exact g1
  ·rcases List.mem_append.1 hp with hp|hp
   ·exact hown.ok p hp
   ·rw[List.mem_singleton.1 hp];exact hok
theorem Df (hg:op.guard=none) (x y:Operand) (ho:op.op=.store 40 x y) (c:Array Value) (hc:c.size=32) (k:List UInt8) (hk:k.length=32)
  (hx:a.eval x=.pointer (some ⟨w.heap.size,0,none⟩)) (hy:a.eval y=Ac k) (h:wpList Tryz.prog ops Q rest (a.put op.dst undef) (w.alloc (.cells (AG k).toArray 40))) :
  wpList Tryz.prog ops Q (op::rest) a (w.alloc (.cells c 40)) :=
 wpList_plain hg λ_ hK=>by
  have o:a.eval y=.agg (AG k).toArray:=hy;unfold Oper.wp execOp;simp only[ho,hx,o,Instr.storeAt,Instr.sureAddr,Sem.run_bind,Sem.run_pure,Result.andThen_ok,run_storeVar_new (P:=Tryz.prog) w 40 c (AG k).toArray (by rw[List.size_toArray,AU,hk];kernel_rfl) (by rw[hc,List.size_toArray,AU,hk]) (all_oneCell_toArray (DI k))];exact hK _ _ h
end
theorem Kn {l:Sto.ME} (hs:Sto.Srt (l.map (·.1))) {j:Nat} {p:Sto.Op×Value} (h:l[j]?=some p):Sto.getE (l.map (·.1)) p.1.1=(p.1.2.1,p.1.2.2,true):=by
 have A:(l.map λp=>p.1.1).Pairwise λ(x y:List UInt8)=>x≠y:=by
  unfold Sto.Srt at hs;rw[List.pairwise_map]at hs ⊢;exact hs.imp λ{a b} (h:a.1.1<b.1.1) e=>by rw[e]at h;exact List.lt_irrefl _ h
 have o:=QZ h;refine Sto.getE_some (p:=p) ?_;clear h hs
 induction l with
 | nil=>cases o
 | cons q r ih =>
  rw[ZP,List.pairwise_cons]at A;rcases List.mem_cons.1 o with rfl|hm
  ·rw[List.find?_cons_of_pos (by simp)]
  ·rw[List.find?_cons_of_neg (by
    have:=A.1 p.1.1 (List.mem_map.2 ⟨p,hm,rfl⟩)
    simpa using this)]
   exact ih A.2 hm
def LN (E:Sto.Ents):Prop:=E.length≤1000000∧∀o∈E,ROk o
theorem Fx (r B mb:Nat) (ver:Int) (sv:Value) (dead:Bool) (l:Sto.ME) (w:World) (G:Nat→Prop) (hroot:w.heap[r]?=some (.cells (AF ver sv mb B dead) 51 (0,0)))
  (hm:A9 w G mb l) (hs:Sto.Srt (l.map (·.1))) (hf:LN (l.map (·.1))) :
  Calls Tryz.prog 16 #[.pointer (some ⟨r,0,none⟩)] w λe w'=>∃v,e=.returned v∧B7 w' w.heap.size v (l.map (·.1))∧Below w.heap.size w w':=by
 have ag:l.length≤1000000:=by have:=hf.1;rwa [QV]at this
 have HM:=QA hm;have HS:=QA hs;have HF:=QA hf;have HR:=QA hroot;have y0:=rc0 hroot;have y1:=rc1 hroot;have y2:=rc2 hroot;have y3:=rc3 hroot;have y4:=rc4 hroot;clear hm hs hf hroot;go_enter Tryz.func16,Tryz.ntmps16;go_wp2_with fail;refine (Fc mb l w G HM.out HS.out ag).mono ?_;rintro e w1 ⟨kv,ks,rfl,hok,hks,hb1⟩;obtain⟨ka,kc,rfl⟩:=BG hok;have V:ks.length=l.length:=by have:=congrArg List.length hks;rwa [QV,QV]at this
 rw[V];have ai:=QA hok;have aE:=QA hks;have H:=QA hb1;have Z:=QA V;clear hok hks hb1 V y0 y1 y2 y3 y4;go_wp2_with fail
 go_loopg [3,15] l.length (λk s3 s15 wr=>∃j:Nat,j≤l.length∧k=l.length-j∧s15=.int .i64 (j:Nat)∧B7 wr w1.heap.size s3 ((l.map (·.1)).take j)∧Below w1.heap.size w1 wr)
 case atStart=>exact⟨0,ZS _,rfl,rfl,B7.nil _ _,Below.refl _ _⟩
 case round =>
  obtain⟨j,hj,hk,rfl,N,hB⟩:=hrel;obtain⟨oa,oc,rfl⟩:=N.form;have HK:=QA hk;have HB:=QA hB;have X:((l.map (·.1)).take j).length=j:=by rw[List.length_take,QV];omega
  rw[X]at N ⊢;have ap:=QA N;have ab:=QA X;clear hk hB N X;have aT:(0:Int)≤(j:Int):=Int.natCast_nonneg _;by_cases hjn:j<l.length
  ·have aq:(j:Int)<(l.length:Int):=by omega
   obtain⟨⟨o,pv⟩,hp⟩:∃p,l[j]?=some p:=⟨_,ZG hjn⟩
   obtain⟨kk,R⟩:∃k,ks[j]?=some k:=⟨_,ZG (by have:=Z.out;omega)⟩
   have W:kk.1=o.1:=by
    have I:(ks.map (·.1))[j]?=some kk.1:=by rw[ZF,R];rfl
    rw[aE.out,ZF,hp]at I;exact (Option.some.inj I).symm
   obtain⟨kg,aS,ah⟩:=Bp ai.out (by have:=Z.out;omega);simp only[Value.slice.injEq]at ah;obtain⟨rfl,-,rfl⟩:=ah;have O:o.1.length=32:=W▸kk.2;have al:wr.rangeAt kg (j*32) (AG o.1):=by
    have I:=ai.out;have:=II I R;rw[W]at this;exact AY this (HB.out.block _ (I.lt kg rfl).2)
   have aa:=Kn HS.out hp;have af:Hid (ROk o):=QA (HF.out.2 o (List.mem_map.2 ⟨_,QZ hp,rfl⟩));have aH:=QA al;have ad:=QA aa;have aB:Hid ((l.map (·.1)).take (j+1)=(l.map (·.1)).take j++[o]):=QA (by rw[List.take_add_one,ZF,hp];rfl);have A:=QA O;clear hp R W al aa O;go_wp2_with (first|(guard_target=wpList _ _ _ ({ dst:=_,op:=.load 40 _,type:=_,pos:=_,after:=_,guard:=none }::_) _ _;refine Ah rfl _ rfl kg (j*32) o.1 A.out rfl aH.out ?_)|(guard_target=wpList _ _ _ ({ dst:=_,op:=.store 40 _ _,type:=_,pos:=_,after:=_,guard:=none }::_) _ _;refine Df rfl _ _ rfl _ rfl o.1 A.out rfl rfl ?_)|fail);have U:=AJ wr (.cells (AG o.1).toArray 40);have F:Below wr.heap.size wr (wr.alloc (.cells (AG o.1).toArray 40)):=(Below.refl _ _).alloc (QM _) _;have D:=H.out.trans (HB.out.mono H.out.size);have Q:(wr.alloc (.cells (AG o.1).toArray 40)).heap[r]?=some (.cells (AF ver sv mb B dead) 51 (0,0)):=(F.block _ (by have:=AD HR.out;have:=D.size;omega)).trans ((D.block _ (AD HR.out)).trans HR.out);have P:=HM.out.below (D.trans (F.mono D.size));have S:=ap.out.keep F;obtain⟨M,T⟩:∃x,wr.alloc (.cells (AG o.1).toArray 40)=x:=⟨_,rfl⟩
   have ao:M.heap.size=wr.heap.size+1:=by rw[← T];simp
   rw[T]at U F Q P S ⊢;have aF:=QA U;have ae:=QA (HB.out.trans (F.mono HB.out.size));have Y:=QA Q;have aw:=QA P;have aA:=QA S;have aD:=QA ao;clear U F D Q P S ao T;refine AK (λw'=>w'.heap[r]?=some (.cells (AF ver sv mb B dead) 51 (0,0))∧w'.rangeAt wr.heap.size 0 (AG o.1)) 13 (by kernel_rfl) ?_;have K:M.rangeAt wr.heap.size 0 (AG o.1):=λi u hi=>by rw[Nat.zero_add];exact AA aF.out i u (by simpa using hi)
   have E:M.drew.heap[r]?=some (.cells (AF ver sv mb B dead) 51 (0,0))∧M.drew.rangeAt wr.heap.size 0 (AG o.1):=⟨Y.out,(World.rangeAt_drew _ _ _ _).2 K⟩
   change Ad _ _ _ _ _ _ _ _ _ M.drew;refine TK (i:=0) (v:=.pointer (some ⟨r,0,none⟩)) rfl (Or.inl ⟨by rfl,λw hSw=>by go_simp⟩) E ?_;simp only[Act.put,QD,QK,QI,QJ,QC,QH,QG];refine TK (i:=1) (v:=.pointer (some ⟨r,0,none⟩)) rfl (Or.inl ⟨by rfl,λw hSw=>by go_simp⟩) E ?_;simp only[Act.put,QD,QK,QI,QJ,QC,QH,QG];refine TK (i:=2) (v:=.pointer (some ⟨r,2,none⟩)) rfl (Or.inl ⟨by rfl,λw hSw=>by go_simp⟩) E ?_;simp only[Act.put,QD,QK,QI,QJ,QC,QH,QG];refine TK (i:=3) (v:=.map (some mb)) rfl (Or.inl ⟨by rfl,λw hSw=>by have aZ:=rc2 hSw.1;go_simp⟩) E ?_;simp only[Act.put,QD,QK,QI,QJ,QC,QH,QG];refine TK (i:=4) (v:=Ac o.1) rfl (BC rfl _ rfl wr.heap.size 0 rfl o.1 A.out (λw hSw=>hSw.2)) E ?_;simp only[Act.put,QD,QK,QI,QJ,QC,QH,QG];refine TO (i:=5) ?_;refine AB (by decide) (λK5 HK5=>?_);simp only[List.drop_succ_cons,List.drop_zero,List.take_succ_cons,List.take_zero];go_wp2_with fail;refine (GU mb l o.1 M.drew _ (aw.out.below (Below.drew (Below.refl _ _))) A.out (by rw[ad.out];exact af.out.val)).mono ?_;rw[ad.out];rintro e w7 ⟨gv,rfl,hgv,hb7⟩;obtain⟨ga,gc,ak⟩:=hgv.slice;subst ak;have C:Below M.heap.size M w7:=(Below.drew (Below.refl _ M)).trans hb7;have az:Hid (Aa w7 (.slice ga o.2.2.length gc) o.2.2):=QA hgv.byts;have J:=AY K (C.block _ (by have:=aD.out;omega));have am:=QA J;have L:Hid (Below w1.heap.size w1 w7):=QA (ae.out.trans (C.mono ae.out.size));have an:=QA (aA.out.keep C);have E:w7.heap[r]?=some (.cells (AF ver sv mb B dead) 51 (0,0))∧w7.rangeAt wr.heap.size 0 (AG o.1):=⟨(C.block _ (AD Y.out)).trans Y.out,J⟩
   clear hgv hb7 C J K;go_wp2;refine HK5.out _ _ ⟨λ_=>E,?_⟩;clear HK5;refine TK (i:=6) (v:=.tuple #[.int .i64 o.2.1,.slice ga o.2.2.length gc,.bool true]) rfl (Or.inl ⟨by rfl,λw hSw=>by go_simp⟩) E ?_;simp only[Act.put,QD,QK,QI,QJ,QC,QH,QG];refine TK (i:=7) (v:=.int .i64 o.2.1) rfl (Or.inl ⟨by rfl,λw hSw=>by go_simp⟩) E ?_;simp only[Act.put,QD,QK,QI,QJ,QC,QH,QG];refine TK (i:=8) (v:=.slice ga o.2.2.length gc) rfl (Or.inl ⟨by rfl,λw hSw=>by go_simp⟩) E ?_;simp only[Act.put,QD,QK,QI,QJ,QC,QH,QG];refine TK (i:=9) (v:=.bool true) rfl (Or.inl ⟨by rfl,λw hSw=>by go_simp⟩) E ?_;simp only[Act.put,QD,QK,QI,QJ,QC,QH,QG];refine TK (i:=10) (v:=.int .i64 o.2.1) rfl (Or.inl ⟨by rfl,λw hSw=>by go_simp⟩) E ?_;simp only[Act.put,QD,QK,QI,QJ,QC,QH,QG];refine TK (i:=11) (v:=.slice ga o.2.2.length gc) rfl (Or.inl ⟨by rfl,λw hSw=>by go_simp⟩) E ?_;simp only[Act.put,QD,QK,QI,QJ,QC,QH,QG];refine TK (i:=12) (v:=.bool true) rfl (Or.inl ⟨by rfl,λw hSw=>by go_simp⟩) E ?_;simp only[Act.put,QD,QK,QI,QJ,QC,QH,QG];refine AN (by kernel_rfl) ?_ _;have aV:=Fh az.out;have a1:(j:Int)+1≤1000001:=by omega
   go_wp2_with (first|(guard_target=wpList _ _ _ ({ dst:=_,op:=.load 40 _,type:=_,pos:=_,after:=_,guard:=none }::_) _ _;refine Ah rfl _ rfl wr.heap.size 0 o.1 A.out rfl am.out ?_)|(guard_target=wpList _ _ _ ({ dst:=_,op:=.build 82 _,type:=_,pos:=_,after:=_,guard:=_ }::_) _ _;refine Jv rfl _ _ _ rfl o A.out rfl rfl rfl ?_)|(guard_target=wpList _ _ _ ({ dst:=_,op:=.buildSlice 33 _ _,type:=_,pos:=_,after:=_,guard:=_ }::_) _ _;refine CS rfl _ rfl o A.out rfl ?_)|(at_builtin;refine Am rfl _ _ rfl w1.heap.size (.slice oa j oc) ((l.map (·.1)).take j) rfl (an.out.keep ((Below.refl _ _).alloc (QM _) _)) o af.out w7.heap.size 0 1 1 rfl rfl (λi u hi=>by rw[Nat.zero_add];exact AA (AJ w7 _) i u (by simpa using hi)) (by rw[ab.out];omega) (by have:=L.out.size;simp;omega) ?_;intro v8 w8 ho8 hg8 hl8;obtain⟨a8,c8,aC⟩:=ho8.form;subst aC;have av:=QA ho8;have aG:=QA hg8;clear ho8 hg8 hl8)|fail);go_roundg (l.length-(j+1))
   case measure=>rw[HK.out];omega
   case rel =>
    refine⟨j+1,by omega,rfl,by simp,by rw[aB.out];have h8:=av.out;rw[List.length_append,ab.out]at h8;exact h8,?_⟩;have I:Below w1.heap.size w1 (w7.alloc (.cells (AO o).toArray 82)):=L.out.alloc L.out.size _;exact I.grown aG.out (by have:=L.out.size;simp;omega) (λg hg=>(an.out.row.lt g hg).1)
  ·have aq:(l.length:Int)≤(j:Int):=by omega
   have HT:Hid ((l.map (·.1)).take j=l.map (·.1)):=QA (List.take_of_length_le (by rw[QV];omega));go_wp2_with fail;refine bodyPost_ret (v:=.slice oa j oc) (by simp[results,Tryz.results16,go_sem]) rfl ?_;refine⟨_,rfl,?_,H.out.trans (HB.out.mono H.out.size)⟩;have I:=ap.out;rw[HT.out]at I;have:=H.out.size;exact⟨ownsRow_base_a (by have:=I.row;exact this) this,I.ok⟩
end Go.Proofs.YtjldahcckmmenaaGreatDoor
