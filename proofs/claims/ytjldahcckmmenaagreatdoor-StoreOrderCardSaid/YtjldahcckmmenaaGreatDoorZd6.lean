/-
  The file system: Remove and Rename, walked. The file system: what is planned stays small (plain). Frames: the table, walked. Frames: bytes that are read; the sum, walked. Frames: four bytes and their number, walked. Frames: slices.Grow and slices.Concat of bytes. Frames: Encode, walked.
-/
import Derived.Test.YtjldahcckmmenaaGreatDoorZd5
import Derived.Shelf.Spec.SlicesGrow
import Derived.Laws.BitsAllLaws
import Derived.OpenShut
import Derived.Laws.AppendOwnNone
open Go.Lib renaming hid → QA
open List renaming length_append → QS, mem_of_getElem? → QZ, getElem?_eq_getElem → ZG
open Nat renaming le_refl → QM, le_trans → QQ, zero_le → ZS
namespace Go.Proofs.YtjldahcckmmenaaGreatDoor
set_option maxRecDepth 100000
set_option maxHeartbeats 4000000
set_option linter.unusedSimpArgs false
set_option linter.unusedVariables false
open Go Go.RowKit
open Go.Maps Go.WideMaps
theorem Jq {w:World} {g:Nat} {s t:ByteArray} (hg:g<w.heap.size) (h0:w.cell? ⟨g,0,none⟩=some (.string s)) (h1:w.cell? ⟨g,1,none⟩=some (.string t)):DG w (.slice (some ⟨g,0,none⟩) 2 2) [s,t] :=
 ⟨some ⟨g,0,none⟩,2,rfl,λi x hi=>by
  match i,hi with
  | 0,hi =>
   simp at hi;subst hi;exact⟨g,0,rfl,hg,h0⟩
  | 1,hi =>
   simp at hi;subst hi;exact⟨g,0,rfl,hg,h1⟩
  | i+2,hi=>simp at hi⟩
theorem ED (base B:Nat) (st:Fs.St) (V:FsV) (own:Nat→Tag) (s:ByteArray) (w:World) (h:Aa base B st V own w) (hbase:base≤w.heap.size) (hs:s.size≤1000000) (hfl:st.files.length≤900000) (hcl:st.changes.length≤900000) (hdl:st.dir.length≤900000) :
  Calls Tryz.prog 69 #[.pointer (some ⟨B,0,none⟩),.string s] w λe w'=>e=.returned (.int .i64 (Fs.remove st s.data.toList).2)∧AQ base B (Fs.remove st s.data.toList).1 own w w':=by
 have H:=QA h;clear h;go_enter Tryz.func69,Tryz.ntmps69;go_wp2_with fail;refine (C3 base B st V own s w H.out.at_ hs).mono ?_;rintro e w1 ⟨hb1,hres⟩;have L:=QA (H.out.kept (AB hb1));rcases hres with⟨h0,f,b,d,hf,hb,hd,rfl⟩|⟨h0,rfl⟩
 ·clear hf hb hd;go_wp2_with fail;refine (BV base B st V own w1 L.out.at_).mono ?_;rintro e w2 ⟨pv,rfl,h2,hk2⟩;have o:Kept own (·≠.other) w w2:=(AB hb1).trans (hk2.mono (λt ht=>by rw[ht];simp));have A:Aa base B (Fs.step st).1 { V with pv:=pv } own w2:=⟨h2,λk hk=>L.out.fresh k (QQ hk2.size hk),L.out.old⟩
  have M:base≤w2.heap.size:=by have:=hk2.size;have:=hb1.size;omega
  by_cases hc:(Fs.step st).2.2=0
  ·have F:Hid (Fs.remove st s.data.toList=(Fs.turned (Fs.step st).1 [(s.data.toList,-1)],0)):=by
    unfold Fs.remove;rw[if_neg (by simp[h0]),if_neg (by simp[hc])];exact QA rfl
   have K:((Fs.step st).2.2 != 0)=false:=by rw[hc];rfl
   have C:=AK w2 (.cells #[.string s,.int .i64 (-1)] 168);have D:=A.kept ((Kept.refl own (·=.other) w2).alloc (.cells #[.string s,.int .i64 (-1)] 168));have G:=A.fresh w2.heap.size (QM _);have E:=QA (Ds base B _ _ own w2.heap.size 1 _ [(s.data.toList,-1)] _ D C (by simp[A0]) G M (by simp;omega)
    (by
     intro p hp;simp at hp;subst hp;exact⟨hs,by omega,by simp only[];omega⟩)
    (by simp[Fs.step_files];omega) (by simp[Fs.step_dir];omega) (by simp[Fs.step_changes];omega))
   have N:=QA ((Kept.refl own (·≠.other) w2).alloc (.cells #[.string s,.int .i64 (-1)] 168));have J:=QA o;have I:Hid (w.heap.size≤w2.heap.size):=QA o.size;clear hc C D G h2 A hk2 o h0;go_wp2_with fail;refine E.out.mono ?_;rintro e w8 ⟨rfl,V',own',hok',ho',hk'⟩;go_wp2;go_ret;rw[F.out];refine⟨rfl,V',own',hok',λk hk=>ho' k (by have:=I.out;simp;omega) (by have:=I.out;omega),?_⟩;have O:=J.out.trans N.out;exact O.trans hk'
  ·have F:Hid (Fs.remove st s.data.toList=((Fs.step st).1,(Fs.step st).2.2)):=by
    unfold Fs.remove;rw[if_neg (by simp[h0]),if_pos hc];exact QA rfl
   have K:((Fs.step st).2.2 != 0)=true:=by rw[bne_iff_ne];exact hc
   clear hc;go_wp2;go_ret;rw[F.out];exact⟨rfl,_,own,A,λ_ _=>rfl,o⟩
 ·have F:Hid (Fs.remove st s.data.toList=(st,Fs.openE st s.data.toList)):=by unfold Fs.remove;rw[if_pos h0];exact QA rfl
  have K:(Fs.openE st s.data.toList != 0)=true:=by rw[bne_iff_ne];exact h0
  go_wp2;go_ret;rw[F.out];exact⟨rfl,V,own,L.out,λ_ _=>rfl,AB hb1⟩
theorem G8 (base B:Nat) (st:Fs.St) (V:FsV) (own:Nat→Tag) (s t:ByteArray) (w:World) (h:Aa base B st V own w) (hbase:base≤w.heap.size) (hs:s.size≤1000000) (ht:t.size≤1000000) (hfl:st.files.length≤900000) (hcl:st.changes.length≤900000) (hdl:st.dir.length≤900000) :
  Calls Tryz.prog 93 #[.pointer (some ⟨B,0,none⟩),.string s,.string t] w λe w'=>e=.returned (.int .i64 (Fs.rename st s.data.toList t.data.toList).2)∧AQ base B (Fs.rename st s.data.toList t.data.toList).1 own w w':=by
 have x5:w.cell? ⟨B,5,none⟩=some (.map (some V.md)):=AA h.at_.root 5 _ rfl;have G:Below w.heap.size w (w.alloc (.cells #[.string s,.string t] 9)):=(Below.refl _ _).alloc (QM _) _;have C:=keyOf_string_mk Tryz.underlying9 (s:=s) (show s.size≤maxLen by unfold maxLen;omega);have O:=QA (DW _ [s,t] (w.alloc (.cells #[.string s,.string t] 9)) (Jq (by simp) (Ak w _ _ 0 _ rfl) (Ak w _ _ 1 _ rfl)) (by simp) (by intro x hx;simp at hx;rcases hx with rfl|rfl<;>omega));have ac:BZ [s,t]=(Fs.good s.data.toList&&Fs.good t.data.toList):=by simp[BZ]
 rw[ac]at O;have P:=QA (h.at_.dir.heap (G.block _ h.at_.dir.lt));have ah:(w.alloc (.cells #[.string s,.string t] 9)).cell? ⟨B,5,none⟩=some (.map (some V.md)):=by rw[G.cell (Bz x5)];exact x5
 have A:=QA (h.kept (AB G));have K:=QA (Fs.datum_has st.dir s.data.toList);have D:=QA (Fs.datum_get st.dir s.data.toList);have I:=QA G;have H:=QA h;clear h G x5;go_enter Tryz.func93,Tryz.ntmps93;cases hgd:Fs.good s.data.toList&&Fs.good t.data.toList
 ·have N:Hid (Fs.rename st s.data.toList t.data.toList=(st,7)):=by unfold Fs.rename;rw[if_pos hgd];exact QA rfl
  rw[hgd]at O;clear hgd;go_wp2_with fail;refine O.out.mono ?_;rintro e w2 ⟨rfl,hw2⟩;obtain rfl:=hw2.symm;go_wp2;go_ret;rw[N.out];exact⟨rfl,V,own,A.out,λ_ _=>rfl,AB I.out⟩
 ·rw[hgd]at O;cases hhas:Fs.mhas st.dir s.data.toList
  ·have aa:Hid (Maps.has (Fs.datum st.dir) (.string s.data.toList)=false):=by rw[K.out];exact QA hhas
   have N:Hid (Fs.rename st s.data.toList t.data.toList=(st,3)):=by unfold Fs.rename;rw[if_neg (by rw[hgd];simp),if_pos hhas];exact QA rfl
   clear hgd hhas;go_wp2_with fail;refine O.out.mono ?_;rintro e w2 ⟨rfl,hw2⟩;obtain rfl:=hw2.symm;go_wp2_with (first|(at_lookup;refine wpList_lookup_own_ok_int _ rfl _ _ 60 rfl 9 3 .i64 Ar Tryz.underlying60 Tryz.underlying3 (BN _) V.md _ _ rfl P.out _ _ rfl C ?_;intro c hat hwc;rw[aa.out];have J:Hid (c=Fs.mget st.dir s.data.toList):=(by have:=hat.symm.trans D.out;simp only[DataW.lit.injEq,Lit.int.injEq,true_and]at this;exact QA this);clear hat hwc)|fail);go_ret;rw[N.out];exact⟨rfl,V,own,A.out,λ_ _=>rfl,AB I.out⟩
  ·have W:Hid (Maps.has (Fs.datum st.dir) (.string s.data.toList)=true):=by rw[K.out];exact QA hhas
   obtain⟨p,R,af,S⟩:=Fs.mget_mem hhas;have F:=H.out.at_.known p R;rw[S]at F;have Y:=QA F;clear R af S F;by_cases hc:(Fs.step st).2.2=0
   ·have N:Hid (Fs.rename st s.data.toList t.data.toList=(Fs.turned (Fs.step st).1 [(s.data.toList,-1),(t.data.toList,Fs.mget st.dir s.data.toList)],0)):=by
     unfold Fs.rename;rw[if_neg (by rw[hgd];simp),if_neg (by rw[hhas];simp),if_neg (by simp[hc])];exact QA rfl
    have Z:((Fs.step st).2.2 != 0)=false:=by rw[hc];rfl
    clear hgd hhas hc;go_wp2_with fail;refine O.out.mono ?_;rintro e w2 ⟨rfl,hw2⟩;obtain rfl:=hw2.symm;go_wp2_with (first|(at_lookup;refine wpList_lookup_own_ok_int _ rfl _ _ 60 rfl 9 3 .i64 Ar Tryz.underlying60 Tryz.underlying3 (BN _) V.md _ _ rfl P.out _ _ rfl C ?_;intro c hat hwc;rw[W.out];have J:Hid (c=Fs.mget st.dir s.data.toList):=(by have:=hat.symm.trans D.out;simp only[DataW.lit.injEq,Lit.int.injEq,true_and]at this;exact QA this);clear hat hwc)|fail);refine (BV base B st V own _ A.out.at_).mono ?_;rintro e w2 ⟨pv,rfl,h2,hk2⟩;have o:Kept own (·≠.other) w w2:=(AB I.out).trans (hk2.mono (λt ht=>by rw[ht];simp));have E:Aa base B (Fs.step st).1 { V with pv:=pv } own w2:=⟨h2,λk hk=>A.out.fresh k (QQ hk2.size hk),H.out.old⟩
    have ab:base≤w2.heap.size:=by have:=o.size;omega
    have L:=AK w2 (.cells #[.string s,.int .i64 (-1),.string t,.int .i64 c] 168);have M:=E.kept ((Kept.refl own (·=.other) w2).alloc (.cells #[.string s,.int .i64 (-1),.string t,.int .i64 c] 168));have U:=E.fresh w2.heap.size (QM _);have Q:=QA (Ds base B _ _ own w2.heap.size 2 _ [(s.data.toList,-1),(t.data.toList,c)] _ M L (by simp[A0]) U ab (by simp;omega)
     (by
      intro p R;simp at R;have F:=Y.out;rw[← J.out]at F;rcases R with rfl|rfl
      ·exact⟨hs,by omega,by simp only[];omega⟩
      ·exact⟨ht,by simp only[];omega,by simp only[Fs.step_files];omega⟩)
     (by simp[Fs.step_files];omega) (by simp[Fs.step_dir];omega) (by simp[Fs.step_changes];omega))
    have ad:=QA ((Kept.refl own (·≠.other) w2).alloc (.cells #[.string s,.int .i64 (-1),.string t,.int .i64 c] 168));have T:=QA o;have X:Hid (w.heap.size≤w2.heap.size):=QA o.size;clear L M U h2 E hk2 o;go_wp2_with fail;refine Q.out.mono ?_;rintro e w8 ⟨rfl,V',own',hok',ho',hk'⟩;go_wp2;go_ret;rw[N.out];rw[J.out]at hok';refine⟨rfl,V',own',hok',λk hk=>ho' k (by have:=X.out;simp;omega) (by have:=X.out;omega),?_⟩;have ae:=T.out.trans ad.out;exact ae.trans hk'
   ·have N:Hid (Fs.rename st s.data.toList t.data.toList=((Fs.step st).1,(Fs.step st).2.2)):=by
     unfold Fs.rename;rw[if_neg (by rw[hgd];simp),if_neg (by rw[hhas];simp),if_pos hc];exact QA rfl
    have Z:((Fs.step st).2.2 != 0)=true:=by rw[bne_iff_ne];exact hc
    clear hgd hhas hc;go_wp2_with fail;refine O.out.mono ?_;rintro e w2 ⟨rfl,hw2⟩;obtain rfl:=hw2.symm;go_wp2_with (first|(at_lookup;refine wpList_lookup_own_ok_int _ rfl _ _ 60 rfl 9 3 .i64 Ar Tryz.underlying60 Tryz.underlying3 (BN _) V.md _ _ rfl P.out _ _ rfl C ?_;intro c hat hwc;rw[W.out];have J:Hid (c=Fs.mget st.dir s.data.toList):=(by have:=hat.symm.trans D.out;simp only[DataW.lit.injEq,Lit.int.injEq,true_and]at this;exact QA this);clear hat hwc)|fail);refine (BV base B st V own _ A.out.at_).mono ?_;rintro e w2 ⟨pv,rfl,h2,hk2⟩;have o:Kept own (·≠.other) w w2:=(AB I.out).trans (hk2.mono (λt ht=>by rw[ht];simp));go_wp2;go_ret;rw[N.out];exact⟨rfl,_,own,⟨h2,λk hk=>A.out.fresh k (QQ hk2.size hk),H.out.old⟩,λ_ _=>rfl,o⟩
open Go.Maps Go.WideMaps
namespace Fs
def PlanOK (st:St):Prop:=∀z∈st.plan,z≤9223372036854775807
section
variable {st : St} (h : PlanOK st)
include h
theorem PlanOK.of {st':St} (e:st'.plan=st.plan∨st'.plan=st.plan.tail):PlanOK st':=λz hz=>by
 rcases e with e|e
 ·rw[e]at hz;exact h z hz
 ·rw[e]at hz;exact h z (List.mem_of_mem_tail hz)
theorem PlanOK.how:(step st).2.1≤9223372036854775807:=by
 unfold step;split
 ·show (0:Int)≤_;omega
 ·show st.plan.headD 0≤_;cases hp:st.plan with
  | nil=>show (0:Int)≤_;omega
  | cons z r=>exact h z (by rw[hp];exact List.mem_cons_self)
end
theorem Ap (st:St):(step st).1.plan=st.plan∨(step st).1.plan=st.plan.tail:=by
 unfold step;split
 ·exact .inl rfl
 ·exact .inr rfl
theorem plan_create (st:St) (n:List UInt8):(create st n).1.plan=st.plan∨(create st n).1.plan=st.plan.tail:=by
 unfold create;split
 ·exact .inl rfl
 split
 ·exact .inl rfl
 split
 ·exact .inl rfl
 split
 ·exact Ap st
 ·exact Ap st
theorem plan_append (st:St) (n b:List UInt8):(append st n b).1.plan=st.plan∨(append st n b).1.plan=st.plan.tail:=by
 unfold append;split
 ·exact .inl rfl
 split
 ·exact .inl rfl
 split
 ·split
  ·exact Ap st
  ·exact Ap st
 split
 ·exact Ap st
 ·exact Ap st
theorem plan_sync (st:St) (n:List UInt8):(sync st n).1.plan=st.plan∨(sync st n).1.plan=st.plan.tail:=by
 unfold sync;split
 ·exact .inl rfl
 split
 ·exact Ap st
 ·exact Ap st
theorem plan_syncDir (st:St):(syncDir st).1.plan=st.plan∨(syncDir st).1.plan=st.plan.tail:=by
 unfold syncDir;split
 ·exact Ap st
 ·exact Ap st
theorem plan_remove (st:St) (n:List UInt8):(remove st n).1.plan=st.plan∨(remove st n).1.plan=st.plan.tail:=by
 unfold remove;split
 ·exact .inl rfl
 split
 ·exact Ap st
 ·exact Ap st
theorem plan_rename (st:St) (a b:List UInt8):(rename st a b).1.plan=st.plan∨(rename st a b).1.plan=st.plan.tail:=by
 unfold rename;split
 ·exact .inl rfl
 split
 ·exact .inl rfl
 split
 ·exact Ap st
 ·exact Ap st
end Fs
open Go.Maps Go.WideMaps
namespace Fr
def stp (c:Int):Int:=bits .xor .u32 (c / 2) (bits .and .u32 c 1*2197175160 % 4294967296)
def iter:Nat→Int→Int
 | 0,c=>c
 | n+1,c=>stp (iter n c)
def ent (i:Int):Int:=iter 8 i
def tabCells (j:Nat):Array Value:=((List.range 256).map λi=>Value.int .u32 (if i<j then ent i else 0)).toArray
end Fr
theorem Fr.tab_at (j k:Nat) (hk:k<256) (hjk:j≤k):(Fr.tabCells j)[k]?=some (.int .u32 0):=by
 simp[Fr.tabCells,hk,show ¬k<j by omega]
theorem Fr.tab_set (j:Nat) (hj:j<256):(Fr.tabCells j).setIfInBounds j (.int .u32 (Fr.iter 8 j))=Fr.tabCells (j+1):=by
 apply Array.ext
 ·simp[Fr.tabCells]
 ·intro i h1 h2;simp only[Fr.tabCells,List.size_toArray,List.length_map,List.length_range]at h2;rw[Array.getElem_setIfInBounds];simp only[Fr.tabCells,List.getElem_toArray,List.getElem_map,List.getElem_range];by_cases h:j=i
  ·subst h;simp[Fr.ent]
  ·by_cases h3:i<j
   ·simp[h,h3,show i<j+1 by omega]
   ·simp[h,h3,show ¬i<j+1 by omega]
  ·simpa [Fr.tabCells] using h2
theorem C6:Fr.tabCells 0=Tryz.zeroCells190:=by kernel_rfl
theorem Iw (w:World):Calls Tryz.prog 115 #[] w λe w'=>e=.returned (.agg (Fr.tabCells 256))∧Below w.heap.size w w':=by
 have H:((w.alloc (.cells (Fr.tabCells 0) 190)).alloc (.cells (Fr.tabCells 0) 190)).heap[w.heap.size]?=some (.cells (Fr.tabCells 0) 190 (0,0)):=by
  rw[show ((w.alloc (.cells (Fr.tabCells 0) 190)).alloc (.cells (Fr.tabCells 0) 190)).heap[w.heap.size]?=(w.alloc (.cells (Fr.tabCells 0) 190)).heap[w.heap.size]? from Below.heap_alloc _ _ _ (by simp)];exact AK _ _
 have F:((w.alloc (.cells (Fr.tabCells 0) 190)).alloc (.cells (Fr.tabCells 0) 190)).heap[w.heap.size+1]?=some (.cells (Fr.tabCells 0) 190 (0,0)):=by
  have:=AK (w.alloc (.cells (Fr.tabCells 0) 190)) (.cells (Fr.tabCells 0) 190);rw[show (w.alloc (.cells (Fr.tabCells 0) 190)).heap.size=w.heap.size+1 by simp]at this;exact this
 rw[C6]at H F;have P:Below w.heap.size w ((w.alloc (.cells Tryz.zeroCells190 190)).alloc (.cells Tryz.zeroCells190 190)):=((Below.refl _ _).alloc (QM _) _).alloc (by simp) _;have T:=QA H;have S:=QA F;clear H F;go_enter Tryz.func115,Tryz.ntmps115;go_wp2
 go_loopg [4] 256 (λk s4 wr=>∃j:Nat,j≤256∧k=256-j∧s4=.int .i64 (j:Nat)∧wr.heap[w.heap.size]?=some (.cells (Fr.tabCells 0) 190 (0,0))∧wr.heap[w.heap.size+1]?=some (.cells (Fr.tabCells j) 190 (0,0))∧Below w.heap.size w wr)
 case atStart=>exact⟨0,by omega,rfl,rfl,by rw[C6];exact T.out,by rw[C6];exact S.out,P⟩
 case round =>
  obtain⟨j,Y,A,rfl,L,K,N⟩:=hrel;have Q:=QA A;have G:=QA L;have E:=QA K;clear A L K P;have V:(0:Int)≤(j:Int):=Int.natCast_nonneg _;by_cases hjn:j<256
  ·have B:(j:Int)<256:=by omega
   have W:wr.cell? ⟨w.heap.size+1,j,none⟩=some (.int .u32 0):=AA E.out j _ (Fr.tab_at j j hjn (QM _));have Z:=AE E.out j;go_wp2
   go_loopg [3,9] 8 (λk s3 s9 wq=>∃(a:Nat) (c:Int),a≤8∧k=8-a∧s9=.int .i64 (a:Nat)∧s3=.int .u32 c∧c=Fr.iter a j∧wq=wr)
   case atStart=>exact⟨0,_,by omega,rfl,rfl,rfl,rfl,rfl⟩
   case round =>
    obtain⟨a,c,X,A,rfl,rfl,O,rfl⟩:=hrel;have M:=QA O;clear O;have I:=QA A;clear A;have U:(0:Int)≤(a:Int):=Int.natCast_nonneg _;by_cases han:a<8
    ·have D:(a:Int)<8:=by omega
     go_wp2;go_roundg (8-(a+1))
     case measure=>rw[I.out];omega
     case rel => 
      exact⟨a+1,_,by omega,rfl,by simp,rfl,by rw[M.out];rfl,rfl⟩
    ·have D:(8:Int)≤(a:Int):=by omega
     obtain rfl:a=8:=by omega
     go_wp2;go_roundg (256-(j+1))
     case measure=>rw[Q.out];omega
     case rel =>
      refine⟨j+1,by omega,rfl,by simp,?_,?_,N.setCell (p:=⟨w.heap.size+1,j,none⟩) (Nat.le_succ _) _⟩
      ·rw[Below.heap_setCell _ _ _ _ (by show w.heap.size≠w.heap.size+1;omega)];exact G.out
      ·rw[← Fr.tab_set j hjn,← M.out];exact heap_set E.out _
  ·have B:(256:Int)≤(j:Int):=by omega
   obtain rfl:j=256:=by omega
   have o:∀j,(Fr.tabCells j).size=256:=λj=>by simp[Fr.tabCells]
   have C:(Fr.tabCells 256).all (·.oneCell')=true:=by kernel_rfl
   have J:(Tryz.prog.info? 190).map (·.size)=some (Fr.tabCells 256).size:=by rw[o];kernel_rfl
   go_wp2_with (first
    | refine wpList_load_row rfl _ _ rfl (w.heap.size+1) rfl 190 (Fr.tabCells 256) (0,0) _ E.out Tryz.underlying190 rfl J ?_
    | refine wpList_store_row rfl _ _ _ rfl w.heap.size (Fr.tabCells 256) rfl rfl 190 (Fr.tabCells 0) G.out J (by rw[o,o]) C ?_
    | fail)
   have R:(wr.setRow w.heap.size (Fr.tabCells 256)).heap[w.heap.size]?=some (.cells (Fr.tabCells 256) 190 (0,0)):=setRow_heap wr w.heap.size (Fr.tabCells 0) _ _ _ G.out;refine bodyPost_ret (v:=.agg (Fr.tabCells 256)) (results_cell_row Tryz.results115 _ _ w.heap.size 190 (Fr.tabCells 256) (0,0) _ rfl R Tryz.underlying190 rfl J) rfl ?_;exact⟨rfl,N.trans ⟨rfl,rfl,rfl,by simp,λk A=>setRow_other wr w.heap.size k _ (by omega)⟩⟩
open Go.Maps Go.WideMaps
def AZ (w:World) (v:Value) (l:List UInt8):Prop :=
 ∃a cap,v=.slice a l.length cap∧l.length≤cap∧(a=none→cap=0)∧∀(i:Nat) x,l[i]?=some x→∃b off,a=some ⟨b,off,none⟩∧b<w.heap.size∧w.cell? ⟨b,off+i,none⟩=some (.int .u8 x.toNat)
theorem AZ.form {w:World} {v:Value} {l:List UInt8} (h:AZ w v l):∃a cap,v=.slice a l.length cap∧l.length≤cap:=by
 obtain⟨a,cap,o,A,_⟩:=h;exact⟨a,cap,o,A⟩
theorem AZ.form2 {w:World} {v:Value} {l:List UInt8} (h:AZ w v l):∃a cap,v=.slice a l.length cap∧l.length≤cap∧(a=none→cap=0):=by
 obtain⟨a,cap,A,B,o,_⟩:=h;exact⟨a,cap,A,B,o⟩
theorem AZ.at {w:World} {a:Option Addr} {n cap:Nat} {l:List UInt8} (h:AZ w (.slice a n cap) l) {i:Nat} {x:UInt8} (hi:l[i]?=some x) :
  ∃b off,a=some ⟨b,off,none⟩∧b<w.heap.size∧w.cell? ⟨b,off+i,none⟩=some (.int .u8 x.toNat):=by
 obtain⟨E,o,A,_,_,C⟩:=h;obtain⟨b,off,e,B,D⟩:=C i x hi;simp only[Value.slice.injEq]at A;exact⟨b,off,by rw[A.1,e],B,D⟩
theorem AZ.keep {w w':World} {v:Value} {l:List UInt8} (h:AZ w v l) (hs:w.heap.size≤w'.heap.size) (hk:∀k,k<w.heap.size→w'.heap[k]?=w.heap[k]?):AZ w' v l:=by
 obtain⟨a,cap,C,D,E,B⟩:=h;refine⟨a,cap,C,D,E,λi x hi=>?_⟩;obtain⟨b,o,e,A,F⟩:=B i x hi;exact⟨b,o,e,Nat.lt_of_lt_of_le A hs,by rw[World.cell?_of_block (hk b A)];exact F⟩
theorem AZ.below {w w':World} {v:Value} {l:List UInt8} (h:AZ w v l) (hb:Below w.heap.size w w'):AZ w' v l:=h.keep hb.size hb.block
def CC (w:World) (v:Value) (ls:List (List UInt8)):Prop :=
 ∃a cap,v=.slice a ls.length cap∧ls.length≤cap∧∀(i:Nat) l,ls[i]?=some l→∃b off v',a=some ⟨b,off,none⟩∧b<w.heap.size∧w.cell? ⟨b,off+i,none⟩=some v'∧AZ w v' l
theorem CC.form {w:World} {v:Value} {l:List (List UInt8)} (h:CC w v l):∃a cap,v=.slice a l.length cap:=by
 obtain⟨a,cap,o,A,_⟩:=h;exact⟨a,cap,o⟩
theorem CC.at {w:World} {a:Option Addr} {n cap:Nat} {ls:List (List UInt8)} (h:CC w (.slice a n cap) ls) {i:Nat} {l:List UInt8} (hi:ls[i]?=some l) :
  ∃b off v',a=some ⟨b,off,none⟩∧b<w.heap.size∧w.cell? ⟨b,off+i,none⟩=some v'∧AZ w v' l:=by
 obtain⟨F,o,A,_,C⟩:=h;obtain⟨b,off,v',e,B,D,E⟩:=C i l hi;simp only[Value.slice.injEq]at A;exact⟨b,off,v',by rw[A.1,e],B,D,E⟩
theorem CC.keep {w w':World} {v:Value} {l:List (List UInt8)} (h:CC w v l) (hs:w.heap.size≤w'.heap.size) (hk:∀k,k<w.heap.size→w'.heap[k]?=w.heap[k]?):CC w' v l:=by
 obtain⟨a,cap,C,E,B⟩:=h;refine⟨a,cap,C,E,λi x hi=>?_⟩;obtain⟨b,o,F,e,A,G,D⟩:=B i x hi;exact⟨b,o,F,e,Nat.lt_of_lt_of_le A hs,by rw[World.cell?_of_block (hk b A)];exact G,D.keep hs hk⟩
theorem CC.below {w w':World} {v:Value} {l:List (List UInt8)} (h:CC w v l) (hb:Below w.heap.size w w'):CC w' v l:=h.keep hb.size hb.block
namespace Fr
def upd (c:Int) (x:UInt8):Int:=bits .xor .u32 (c / 256) (ent (bits .xor .u8 (c % 256) x.toNat))
def sum (l:List UInt8):Int:=bits .xor .u32 4294967295 (l.foldl upd 4294967295)
theorem tab_get (k:Nat) (hk:k<256):(Fr.tabCells 256)[k]?=some (.int .u32 (ent (k:Int))):=by
 simp[Fr.tabCells,hk]
end Fr
theorem KR (op:BinOp) (a b:Int):∃k:Nat,k<256∧bits op .u8 a b=(k:Int):=by
 have h:=wf_bits op .u8 a b;have A:IntKind.u8.min=0:=by decide
 have o:IntKind.u8.max=255:=by decide
 simp[Lit.wf,A,o]at h;exact⟨(bits op .u8 a b).toNat,by omega,by omega⟩
theorem I9 (op:BinOp) (a b:Int):0≤bits op .u32 a b∧bits op .u32 a b<4294967296:=by
 have h:=wf_bits op .u32 a b;have A:IntKind.u32.min=0:=by decide
 have o:IntKind.u32.max=4294967295:=by decide
 simp[Lit.wf,A,o]at h;omega
theorem Cb {α} (ls:List (List α)) (j:Nat) (l:List α) (h:ls[j]?=some l):(ls.take (j+1)).flatten=(ls.take j).flatten++l:=by
 rw[List.take_add_one,h];simp
theorem Hq (v:Value) (ls:List (List UInt8)) (w:World) (hV:CC w v ls) (hl:ls.length≤1000000000) (hs:∀l∈ls,l.length≤1000000000) :
  Calls Tryz.prog 96 #[v] w λe w'=>e=.returned (.int .u32 (Fr.sum ls.flatten))∧Below w.heap.size w w':=by
 obtain⟨va,vc,rfl⟩:=hV.form;have X:=QA hV;clear hV;go_enter Tryz.func96,Tryz.ntmps96;go_wp2_with fail;refine (Iw w).mono ?_;rintro e w1 ⟨rfl,hb1⟩;have A:∀j,(Fr.tabCells j).size=256:=λj=>by simp[Fr.tabCells]
 have S:(Tryz.zeroCells190).size=256:=by rw[← C6,A]
 have D:(Fr.tabCells 256).all (·.oneCell')=true:=by kernel_rfl
 have U:(Tryz.prog.info? 190).map (·.size)=some (Fr.tabCells 256).size:=by rw[A];kernel_rfl
 go_wp2_with (first
    | refine wpList_store_row rfl _ _ _ rfl w1.heap.size (Fr.tabCells 256) rfl rfl 190 Tryz.zeroCells190 (AK w1 _) U (by rw[A,S]) D ?_
    | fail)
 have K:((w1.alloc (.cells Tryz.zeroCells190 190)).setRow w1.heap.size (Fr.tabCells 256)).heap[w1.heap.size]?=some (.cells (Fr.tabCells 256) 190 (0,0)):=setRow_heap _ w1.heap.size _ _ _ _ (AK w1 _);have E:Below w.heap.size w ((w1.alloc (.cells Tryz.zeroCells190 190)).setRow w1.heap.size (Fr.tabCells 256)) :=
  (hb1.alloc hb1.size _).trans ⟨rfl,rfl,rfl,by simp,λk C=>setRow_other _ w1.heap.size k _ (by have:=hb1.size;omega)⟩
 generalize ((w1.alloc (.cells Tryz.zeroCells190 190)).setRow w1.heap.size (Fr.tabCells 256))=w2 at K E ⊢
 have HR:=QA K;have N:=QA (X.out.below E);clear A S D U K
 go_loopg [4,12] ls.length (λk s4 s12 wr=>∃j:Nat,∃c:Int,j≤ls.length∧k=ls.length-j∧s12=.int .i64 (j:Nat)∧s4=.int .u32 c∧c=(ls.take j).flatten.foldl Fr.upd 4294967295∧wr=w2)
 case atStart=>exact⟨0,_,ZS _,rfl,rfl,rfl,rfl,rfl⟩
 case round =>
  obtain⟨j,c,hj,C,rfl,rfl,I,rfl⟩:=hrel;have V:=QA C;have T:=QA I;clear C I;have ah:(0:Int)≤(j:Int):=Int.natCast_nonneg _;by_cases hjn:j<ls.length
  ·have H:(j:Int)<(ls.length:Int):=by omega
   obtain⟨l,B⟩:∃l,ls[j]?=some l:=⟨_,ZG hjn⟩
   have ag:=hs l (QZ B);obtain⟨g,o,lv,rfl,hg,Y,P⟩:=N.out.at B;obtain⟨la,lc,rfl,_⟩:=P.form;have W:=QA P;have Q:=QA (Cb ls j l B);clear P B;go_wp2
   go_loopg [4,18] l.length (λk s4 s18 wq=>∃a:Nat,∃F:Int,a≤l.length∧k=l.length-a∧s18=.int .i64 (a:Nat)∧s4=.int .u32 F∧F=(l.take a).foldl Fr.upd c∧wq=wr)
   case atStart=>exact⟨0,_,ZS _,rfl,rfl,rfl,rfl,rfl⟩
   case round =>
    obtain⟨a,F,ha,C,rfl,rfl,I,rfl⟩:=hrel;have R:=QA C;have G:=QA I;clear C I;have af:(0:Int)≤(a:Int):=Int.natCast_nonneg _;by_cases han:a<l.length
    ·have J:(a:Int)<(l.length:Int):=by omega
     obtain⟨x,O⟩:∃x,l[a]?=some x:=⟨_,ZG han⟩
     obtain⟨g2,o2,rfl,Z,ad⟩:=W.out.at O;obtain⟨k,C,M⟩:=KR .xor (F % 256) x.toNat;have ht:wr.cell? ⟨w1.heap.size,k,none⟩=some (.int .u32 (Fr.ent (k:Int))):=AA HR.out k _ (Fr.tab_get k C);have aa:(0:Int)≤(k:Int):=Int.natCast_nonneg _;have ae:(k:Int)<256:=by omega
     have HT:Hid ((l.take (a+1)).foldl Fr.upd c=Fr.upd F x):=by
      refine QA ?_;rw[List.take_add_one,O,G.out];simp
     have HX:Hid (Fr.upd F x=bits .xor .u32 (F / 256) (Fr.ent (k:Int))):=by
      refine QA ?_;unfold Fr.upd;rw[M]
     clear O;go_wp2;go_roundg (l.length-(a+1))
     case measure=>rw[R.out];omega
     case rel=>exact⟨a+1,_,by omega,rfl,by simp,rfl,by rw[HT.out,HX.out],rfl⟩
    ·have J:(l.length:Int)≤(a:Int):=by omega
     have L:Hid (l.take a=l):=QA (List.take_of_length_le (by omega));go_wp2;go_roundg (ls.length-(j+1))
     case measure=>rw[V.out];omega
     case rel=>exact⟨j+1,_,by omega,rfl,by simp,rfl,by rw[Q.out,List.foldl_append,← T.out,G.out,L.out],rfl⟩
  ·have H:(ls.length:Int)≤(j:Int):=by omega
   have L:Hid (ls.take j=ls):=QA (List.take_of_length_le (by omega));go_wp2;go_ret;exact⟨by rw[T.out,L.out];rfl,E⟩
open Go.Maps Go.WideMaps
namespace Fr
def byte (n:Int):UInt8:=UInt8.ofNat (n % 256).toNat
theorem byte_val (n:Int):((byte n).toNat:Int)=n % 256:=by
 unfold byte;rw[UInt8.toNat_ofNat_of_lt' (by show _<256;omega)];omega
def four (n:Int):List UInt8:=[byte n,byte (n / 256),byte (n / 65536),byte (n / 16777216)]
def num (l:List UInt8):Nat:=(l.getD 0 0).toNat+256*(l.getD 1 0).toNat+65536*(l.getD 2 0).toNat+16777216*(l.getD 3 0).toNat
theorem GI (n:Int) (h0:0≤n) (h1:n<4294967296) (r:List UInt8):(num (four n++r):Int)=n:=by
 have B:=byte_val n;have o:=byte_val (n / 256);have A:=byte_val (n / 65536);have C:=byte_val (n / 16777216);unfold num four;simp only[List.cons_append,List.getD_cons_zero,List.getD_cons_succ];omega
end Fr
theorem Kw (k a b:Nat) (hk:k≤32) (ha:a<2 ^ k) (hb:2 ^ k*b<4294967296):bits .or .u32 (a:Int) ((2 ^ k*b:Nat):Int)=((a+2 ^ k*b:Nat):Int):=by
 have o:2 ^ k≤2 ^ 32:=Nat.pow_le_pow_right (by omega) hk;rw[u32_or_nat a _ (by omega) hb,Nat.or_comm,← Nat.two_pow_add_eq_or_of_lt ha,Nat.add_comm]
theorem Ag.byts {w:World} {base:Nat} {v:Value} {l:List UInt8} (h:Ag w base v l):AZ w v l:=by
 have o:=λg hg=>World.ownsRow.cells (g:=g) h hg
 rcases h.2 with⟨h1,h2⟩|⟨g,cap,cur,h1,hg,hb,hc,hm,_,_⟩
 ·exact⟨none,0,by rw[h1,h2],by omega,λ_=>rfl,λi x hx=>by
   have:=(List.getElem?_eq_some_iff.1 hx).1;omega⟩
 ·refine⟨some ⟨g,0,none⟩,cap,h1,hc,(λe=>by cases e),λi x hx=>⟨g,0,rfl,AC hb,?_⟩⟩;have:=o g (by rw[h1];rfl) i (.int .u8 x.toNat) (by simp[AV,hx]);rw[addr_add]at this;rw[Nat.zero_add];exact this
theorem BF {ops:Array Oper} {rest:List Oper} {o:Oper} {a:Act} {w:World} {Q:Exit→Act→World→Prop} (hgd:o.guard=none) (s x:Operand)
  (ho:o.op=.call { callee:=.builtin .append,args:=#[s,x],argTypes:=#[41,41] })
  (base:Nat) (v:Value) (l:List UInt8) (hs:a.eval s=v) (hown:Ag w base v l) (xv:Value) (news:List UInt8) (hx:a.eval x=xv) (hB:AZ w xv news)
  (h63:l.length+news.length≤1000000000) (hbase:base≤w.heap.size)
  (h:∀v' w',Ag w' base v' (l++news)→w.grownBy w' v.ownBlock→(v'.ownBlock=v.ownBlock∨v'.ownBlock=some w.heap.size)→wpList Tryz.prog ops Q rest (a.put o.dst v') w') :
  wpList Tryz.prog ops Q (o::rest) a w:=by
 obtain⟨H,G,E,F,D⟩:=info_parts Ey;obtain⟨K,O,rfl,L,C⟩:=hB.form2;have A:AV (l++news)=AV l++AV news:=by simp[AV]
 cases K with
 | none =>
  have I:news.length=0:=by have:=C rfl;omega
  have B:=List.length_eq_zero_iff.1 I;subst B;rw[C rfl]at hx;refine wpList_append_own_none hgd s x _ ho base 5 H 1 Tryz.underlying41 G v _ _ hs hown hx ?_;exact h v w (by rw[List.append_nil];exact hown) ⟨rfl,rfl,rfl,QM _,λ_ _ _=>rfl⟩ (.inl rfl)
 | some ad =>
  refine wpList_append_own_at w hgd s x _ ho base 5 H (.int .u8 0) 1 1 Tryz.underlying41 G E F D rfl (by decide) v l.length (AV l) hs hown ad news.length O (AV news) hx (by rw[BP];omega) ?_ (BS news) (by unfold maxLen;omega) (by omega) hbase ?_
  ·intro j u hj;unfold AV at hj;rw[List.getElem?_map]at hj;cases hx2:news[j]? with
   | none=>rw[hx2]at hj;cases hj
   | some y =>
    rw[hx2]at hj;simp at hj;obtain⟨b,J,N,P,M⟩:=hB.at hx2;cases N;rw[DJ,← hj];exact M
  ·intro v' w' h1 h2 _ h4;exact h v' w' (by unfold Ag;rw[QS,A];exact h1) h2 h4
theorem GT (n:Int) (w:World) :
  Calls Tryz.prog 95 #[.int .u32 n] w λe w'=>∃v,e=.returned v∧Ag w' w.heap.size v (Fr.four n)∧Below w.heap.size w w':=by
 go_enter Tryz.func95,Tryz.ntmps95;go_wp2;go_ret;refine⟨_,rfl,?_,(Below.refl _ _).alloc (QM _) _⟩;have h:=World.ownsRow_lit (base:=w.heap.size) (e:=5) (size:=1) w #[.int .u8 (n % 256),.int .u8 (n / 256 % 256),.int .u8 (n / 65536 % 256),.int .u8 (n / 16777216 % 256)] 4 (QM _) (by unfold maxLen;omega) rfl;have o:AV (Fr.four n)=[.int .u8 (n % 256),.int .u8 (n / 256 % 256),.int .u8 (n / 65536 % 256),.int .u8 (n / 16777216 % 256)]:=by
  simp[AV,Fr.four,Fr.byte_val]
 unfold Ag;rw[o];exact h
theorem Cv (v:Value) (l:List UInt8) (w:World) (hV:AZ w v l) (hl:4≤l.length) (hl2:l.length≤1000000000) :
  Calls Tryz.prog 107 #[v] w λe w'=>e=.returned (.int .u32 (Fr.num l))∧∃n,w'=w.drewN n:=by
 obtain⟨P,W,rfl,V⟩:=hV.form;obtain⟨I,F⟩:∃x,l[0]?=some x:=⟨_,ZG (by omega)⟩
 obtain⟨D,E⟩:∃x,l[1]?=some x:=⟨_,ZG (by omega)⟩
 obtain⟨C,H⟩:∃x,l[2]?=some x:=⟨_,ZG (by omega)⟩
 obtain⟨B,G⟩:∃x,l[3]?=some x:=⟨_,ZG (by omega)⟩
 obtain⟨g,o,rfl,O,K⟩:=hV.at F;obtain⟨_,_,A,_,Q⟩:=hV.at E;cases A;obtain⟨_,_,A,_,S⟩:=hV.at H;cases A;obtain⟨_,_,A,_,T⟩:=hV.at G;cases A;have L:Hid (Fr.num l=I.toNat+256*D.toNat+65536*C.toNat+16777216*B.toNat):=by
  refine QA ?_;unfold Fr.num;simp only[List.getD_eq_getElem?_getD,F,E,H,G,Option.getD_some]
 have M:I.toNat<256:=UInt8.toNat_lt _;have N:D.toNat<256:=UInt8.toNat_lt _;have U:C.toNat<256:=UInt8.toNat_lt _;have R:B.toNat<256:=UInt8.toNat_lt _;clear F E H G hV;rw[Nat.add_zero]at K;have J:(4:Int)≤(l.length:Int):=by omega
 go_enter Tryz.func107,Tryz.ntmps107;go_wp2_with fail;refine Ai [] (by kernel_rfl) (by kernel_rfl) ?_;simp only[Bo,List.take_succ_cons,List.take_zero,List.drop_succ_cons,List.drop_zero,Nat.sub_zero,Nat.reduceSub,Nat.reduceAdd]
 repeat (go_big_quiet_step (fail))
 refine wpQuiet_nil ?_;rintro _ ⟨nq,rfl⟩;go_wp2_with fail;go_ret;refine⟨congrArg (λx=>Ending.returned (.int .u32 x)) ?_,nq,rfl⟩;rw[L.out,show (D.toNat:Int)*256=((2 ^ 8*D.toNat:Nat):Int) by omega,Kw 8 _ _ (by omega) (by omega) (by omega),show (C.toNat:Int)*65536=((2 ^ 16*C.toNat:Nat):Int) by omega,Kw 16 _ _ (by omega) (by omega) (by omega),show (B.toNat:Int)*16777216=((2 ^ 24*B.toNat:Nat):Int) by omega,Kw 24 _ _ (by omega) (by omega) (by omega)]
open Go.Maps Go.WideMaps
def DN:Go.Shelf.Ren:=⟨fun|4=>94|n=>n,fun|0=>0|3=>3|4=>4|9=>9|20=>20|22=>41|25=>5|n=>n,fun|n=>n⟩
theorem Ec:Go.Proofs.Lays8.n4 Tryz.prog DN:={
 mixed:=by kernel_rfl
 f4:=⟨Tryz.f94.name,by decide,Tryz.func94.trans (congrArg some (by kernel_rfl))⟩
 t0:=Tryz.underlying0
 a0:=Tryz.isAgg0
 z0:=Tryz.sizeOf0
 v0:=Tryz.zeroValue0
 t3:=Tryz.underlying3
 a3:=Tryz.isAgg3
 z3:=Tryz.sizeOf3
 v3:=Tryz.zeroValue3
 t4:=Tryz.underlying4
 a4:=Tryz.isAgg4
 z4:=Tryz.sizeOf4
 v4:=Tryz.zeroValue4
 t9:=Tryz.underlying9
 a9:=Tryz.isAgg9
 z9:=Tryz.sizeOf9
 v9:=Tryz.zeroValue9
 t20:=Tryz.underlying20
 a20:=Tryz.isAgg20
 z20:=Tryz.sizeOf20
 v20:=Tryz.zeroValue20
 t22:=Tryz.underlying41
 a22:=Tryz.isAgg41
 z22:=Tryz.sizeOf41
 v22:=Tryz.zeroValue41 }
theorem Js (n:Nat) (w:World) (hn:n≤1000000000) :
  Calls Tryz.prog 94 #[.slice none 0 0,.int .i64 n] w λe w'=>∃v,e=.returned v∧Ag w' w.heap.size v []∧Below w.heap.size w w':=by
 obtain⟨F,E,D,C,B⟩:=info_parts Ey;by_cases h0:n=0
 ·subst h0;refine (Any8.slices_Grow_room Ec none 0 0 0 w (by omega) (by omega) (by omega) (by omega)).mono ?_;rintro e w' ⟨rfl,rfl⟩;exact⟨_,rfl,World.ownsRow_nil _ _ _ _,Below.refl _ _⟩
 ·refine (Any8.slices_Grow_grow Ec F (.int .u8 0) E D (by rw[C];omega) none 0 0 n [] w (by omega) (by omega) (by rw[B];omega) (by omega) (by simp) (λ_=>rfl) (λa h=>by cases h)).mono ?_;rintro e w' ⟨rfl,rfl⟩;refine⟨_,rfl,?_,⟨rfl,rfl,rfl,by simp,λk hk=>Below.heap_alloc w.drew _ _ hk⟩⟩;have o:=grownCap_le_maxLen w (0+n) 0 (DN.t 25) (by unfold maxLen;omega);have A:=grownCap_ge w (0+n) 0 (DN.t 25);refine⟨rfl,.inr ⟨w.heap.size,_,_,rfl,QM _,AK w.drew _,ZS _,o,?_,?_⟩⟩
  ·rw[Nat.zero_add]at A;simp[Builtin.zeroCells,Value.cells];omega
  ·rfl
theorem below_grown {w wr w5:World} {base k n:Nat} {t:TypeId} {v:Value} {cs:List Value} (hb:Below base w wr) (hbase:base≤wr.heap.size) (ho:wr.ownsRow base t k v n cs) (hg:wr.grownBy w5 v.ownBlock):Below base w w5:=by
 refine⟨hg.os.trans hb.os,hg.tape.trans hb.tape,hg.output.trans hb.output,QQ hb.size hg.size,λj hj=>?_⟩;rw[← hb.block j hj];exact hg.block j (by omega) (λe=>by
  have:=(ho.lt j e.symm).1;omega)
theorem Cr (v:Value) (ls:List (List UInt8)) (w:World) (hV:CC w v ls) (hl:ls.length≤1000000000) (hs:ls.flatten.length≤1000000000) :
  Calls Tryz.prog 62 #[v] w λe w'=>∃v',e=.returned v'∧Ag w' w.heap.size v' ls.flatten∧Below w.heap.size w w':=by
 obtain⟨i0,hi,ao,am,al⟩:=info_parts Ey;obtain⟨va,vc,rfl⟩:=hV.form;have HV:=QA hV;clear hV;go_enter Tryz.func62,Tryz.ntmps62;go_wp2_with fail
 go_loopg [3,11] ls.length (λk s3 s11 wr=>∃j:Nat,j≤ls.length∧k=ls.length-j∧s11=.int .i64 (j:Nat)∧(∃M:Nat,s3=.int .i64 (M:Nat)∧M=(ls.take j).flatten.length)∧wr=w)
 case atStart=>exact⟨0,ZS _,rfl,rfl,⟨0,rfl,rfl⟩,rfl⟩
 case round =>
  obtain⟨j,hj,H,rfl,⟨M,rfl,hM⟩,ah⟩:=hrel;subst wr;have HK:=QA H;have P:=QA hM;clear H hM;have an:(0:Int)≤(j:Int):=Int.natCast_nonneg _;by_cases hjn:j<ls.length
  ·have K:(j:Int)<(ls.length:Int):=by omega
   obtain⟨l,F⟩:∃l,ls[j]?=some l:=⟨_,ZG hjn⟩
   obtain⟨g,o,lv,rfl,hg,D,O⟩:=HV.out.at F;obtain⟨la,lc,rfl,_⟩:=O.form;have J:(ls.take (j+1)).flatten.length=(ls.take j).flatten.length+l.length:=by rw[Cb ls j l F,QS]
   have B:(ls.take (j+1)).flatten.length≤ls.flatten.length:=by
    have:=congrArg (λx:List (List UInt8)=>x.flatten.length) (List.take_append_drop (j+1) ls);simp only[List.flatten_append,QS]at this;omega
   have S:(0:Int)≤(M:Int):=Int.natCast_nonneg _;have ab:(M:Int)+(l.length:Int)≤1000000000:=by rw[P.out];omega
   have V:(0:Int)≤(M:Int)+(l.length:Int):=by omega
   have C:=QA J;clear J B F;go_wp2_with fail;go_roundg (ls.length-(j+1))
   case measure=>rw[HK.out];omega
   case rel=>exact⟨j+1,by omega,rfl,by simp,⟨M+l.length,by simp,by rw[C.out,P.out]⟩,rfl⟩
  ·have K:(ls.length:Int)≤(j:Int):=by omega
   have HE:Hid (ls.take j=ls):=QA (List.take_of_length_le (by omega));have T:M≤1000000000:=by rw[P.out,HE.out];exact hs
   go_wp2_with fail;refine (Js M w T).mono ?_;rintro e w1 ⟨v1,rfl,ho1,hb1⟩;have Q:=QA ho1;clear ho1;go_wp2_with fail
   go_loopg [6,27] ls.length (λk s6 s27 wq=>∃i:Nat,i≤ls.length∧k=ls.length-i∧s27=.int .i64 (i:Nat)∧Ag wq w.heap.size s6 (ls.take i).flatten∧Below w.heap.size w wq)
   case atStart=>exact⟨0,ZS _,rfl,rfl,Q.out,hb1⟩
   case round =>
    obtain⟨i,ak,H,rfl,G,A⟩:=hrel;have X:=QA H;clear H;have aj:(0:Int)≤(i:Int):=Int.natCast_nonneg _;by_cases hin:i<ls.length
    ·have I:(i:Int)<(ls.length:Int):=by omega
     obtain⟨l,E⟩:∃l,ls[i]?=some l:=⟨_,ZG hin⟩
     obtain⟨g,o,lv,rfl,hg,D,O⟩:=HV.out.at E;have Z:wr.cell? ⟨g,o+i,none⟩=some lv:=by rw[World.cell?_of_block (A.block g hg)];exact D
     have HB:=QA (O.keep A.size A.block);have C:=QA (Cb ls i l E);have B:(ls.take i).flatten.length+l.length≤1000000000:=by
      have h1:=congrArg (λx:List (List UInt8)=>x.flatten.length) (List.take_append_drop (i+1) ls);simp only[List.flatten_append,QS,C.out]at h1;omega
     have U:=QA B;have N:=QA G;have Y:=A.size;clear O B G D E;go_wp2_with (first|(at_builtin;refine BF rfl _ _ rfl w.heap.size u6 _ rfl N.out lv l rfl HB.out U.out Y ?_;intro d' w5 hown5 hgrow5 hloc5;have L:=QA hown5;have R:=QA hgrow5;clear hown5 hgrow5 hloc5)|fail);go_roundg (ls.length-(i+1))
     case measure=>rw[X.out];omega
     case rel=>exact⟨i+1,by omega,rfl,by simp,by rw[C.out];exact L.out,below_grown A A.size N.out R.out⟩
    ·have I:(ls.length:Int)≤(i:Int):=by omega
     have W:Hid (ls.take i=ls):=QA (List.take_of_length_le (by omega));rw[W.out]at G;have N:=QA G;clear G;go_wp2_with fail;go_ret;exact⟨_,rfl,N.out,A⟩
open Go.Maps Go.WideMaps
namespace Fr
def inner (k:Int) (p:List UInt8):List UInt8:=byte k::p
def bytes (k:Int) (p:List UInt8):List UInt8:=four p.length++(inner k p++four (sum (inner k p)))
def encE (k:Int) (p:List UInt8):Int:=if k<1∨9<k then 1 else if 8192<p.length then 5 else 0
theorem I6 (n:Int):(four n).length=4:=rfl
theorem bytes_len (k:Int) (p:List UInt8):(bytes k p).length=p.length+9:=by
 unfold bytes inner;simp[I6];omega
end Fr
theorem Ag.keep {w w':World} {base:Nat} {v:Value} {l:List UInt8} (h:Ag w base v l) (hb:Below w.heap.size w w'):Ag w' base v l :=
 AN h (λg hg=>hb.block g (h.lt g hg).2)
theorem Ag.form3 {w:World} {base:Nat} {v:Value} {l:List UInt8} (h:Ag w base v l):∃a n c,v=.slice a n c∧Hid (n=l.length):=by
 obtain⟨a,c,e⟩:=BC h;exact⟨a,_,c,e,QA rfl⟩
theorem Ep {w:World} {v:Value} {l:List UInt8} (t:TypeId) (h:AZ w v l):CC (w.alloc (.cells #[v] t)) (.slice (some ⟨w.heap.size,0,none⟩) 1 1) [l]:=by
 refine⟨_,_,rfl,QM _,λi x hi=>⟨w.heap.size,0,v,rfl,by simp,?_,?_⟩⟩
 ·have o:i=0:=by have:=(List.getElem?_eq_some_iff.1 hi).1;simpa using this
  subst o;exact Ak w #[v] t 0 v rfl
 ·have o:i=0:=by have:=(List.getElem?_eq_some_iff.1 hi).1;simpa using this
  subst o;simp at hi;subst hi;exact h.below ((Below.refl _ _).alloc (QM _) _)
theorem E8 {w:World} {v0 v1 v2:Value} {l0 l1 l2:List UInt8} (t:TypeId) (h0:AZ w v0 l0) (h1:AZ w v1 l1) (h2:AZ w v2 l2):CC (w.alloc (.cells #[v0,v1,v2] t)) (.slice (some ⟨w.heap.size,0,none⟩) 3 3) [l0,l1,l2]:=by
 have A:Below w.heap.size w (w.alloc (.cells #[v0,v1,v2] t)):=(Below.refl _ _).alloc (QM _) _;refine⟨_,_,rfl,QM _,λi x hi=>?_⟩;have o:i<3:=by have:=(List.getElem?_eq_some_iff.1 hi).1;simpa using this
 match i,o,hi with
 | 0,_,hi =>
  simp at hi;subst hi;exact⟨w.heap.size,0,v0,rfl,by simp,Ak w _ t 0 v0 rfl,h0.below A⟩
 | 1,_,hi =>
  simp at hi;subst hi;exact⟨w.heap.size,0,v1,rfl,by simp,Ak w _ t 1 v1 rfl,h1.below A⟩
 | 2,_,hi =>
  simp at hi;subst hi;exact⟨w.heap.size,0,v2,rfl,by simp,Ak w _ t 2 v2 rfl,h2.below A⟩
 | n+3,h,_=>omega
def Kd (k:Int) (p:List UInt8) (w:World) (e:Ending) (w':World):Prop :=
 Below w.heap.size w w'∧((Fr.encE k p=0∧∃v,e=.returned (.tuple #[v,.int .i64 0])∧Ag w' w.heap.size v (Fr.bytes k p)) ∨
  (Fr.encE k p≠0∧e=.returned (.tuple #[.slice none 0 0,.int .i64 (Fr.encE k p)])))
theorem Ed (k:Int) (v:Value) (ls:List (List UInt8)) (w:World) (hV:CC w v ls) (hl:ls.length≤1000000000) (hs:∀l∈ls,l.length≤1000000000) :
  Calls Tryz.prog 63 #[.int .i64 k,v] w (Kd k ls.flatten w):=by
 obtain⟨va,vc,rfl⟩:=hV.form;have HV:=QA hV;clear hV;by_cases T:k<1∨9<k
 ·have F:Hid (Fr.encE k ls.flatten=1):=by unfold Fr.encE;rw[if_pos T];exact QA rfl
  rcases T with h|h
  ·go_enter Tryz.func63,Tryz.ntmps63;go_wp2_with fail;refine bodyPost_ret (v:=.tuple #[.slice none 0 0,.int .i64 1]) (by simp[results,Tryz.results63,go_sem]) rfl ?_;exact⟨Below.refl _ _,.inr ⟨by rw[F.out];decide,by rw[F.out]⟩⟩
  ·have h2:1≤k:=by omega
   go_enter Tryz.func63,Tryz.ntmps63;go_wp2_with fail;refine bodyPost_ret (v:=.tuple #[.slice none 0 0,.int .i64 1]) (by simp[results,Tryz.results63,go_sem]) rfl ?_;exact⟨Below.refl _ _,.inr ⟨by rw[F.out];decide,by rw[F.out]⟩⟩
 ·have aO:1≤k:=by omega
  have a2:k≤9:=by omega
  have Z:=QA T;clear T;go_enter Tryz.func63,Tryz.ntmps63;go_wp2_with fail
  go_loopg [6,18] ls.length (λk s6 s18 wr=>∃j:Nat,j≤ls.length∧k=ls.length-j∧s18=.int .i64 (j:Nat)∧(∃M:Nat,s6=.int .i64 (M:Nat)∧M=(ls.take j).flatten.length∧M≤8192)∧wr=w)
  case atStart=>exact⟨0,ZS _,rfl,rfl,⟨0,rfl,rfl,by omega⟩,rfl⟩
  case round =>
   obtain⟨j,hj,T,rfl,⟨M,rfl,hM,aS⟩,aW⟩:=hrel;subst wr;have HK:=QA T;have HM:=QA hM;clear T hM;have aV:(0:Int)≤(j:Int):=Int.natCast_nonneg _;have aU:(0:Int)≤(M:Int):=Int.natCast_nonneg _;by_cases hjn:j<ls.length
   ·have aj:(j:Int)<(ls.length:Int):=by omega
    obtain⟨l,E⟩:∃l,ls[j]?=some l:=⟨_,ZG hjn⟩
    have a4:=hs l (QZ E);obtain⟨g,o,lv,rfl,hg,a1,hB⟩:=HV.out.at E;obtain⟨la,lc,rfl,_⟩:=hB.form;have ae:Hid ((ls.take (j+1)).flatten.length=(ls.take j).flatten.length+l.length):=by rw[Cb ls j l E,QS];exact QA rfl
    have aa:(ls.take (j+1)).flatten.length≤ls.flatten.length:=by
     have:=congrArg (λx:List (List UInt8)=>x.flatten.length) (List.take_append_drop (j+1) ls);simp only[List.flatten_append,QS]at this;omega
    have aI:=QA aa;clear aa E;by_cases hlong:8192<M+l.length
    ·have h2:8192-(M:Int)<(l.length:Int):=by omega
     have F:Hid (Fr.encE k ls.flatten=5):=by
      unfold Fr.encE;have h1:=HM.out;have h2:=ae.out;have h3:=aI.out;rw[if_neg Z.out,if_pos (by omega)];exact QA rfl
     clear hlong;go_wp2_with fail;refine bodyPost_ret (v:=.tuple #[.slice none 0 0,.int .i64 5]) (by simp[results,Tryz.results63,go_sem]) rfl ?_;exact⟨Below.refl _ _,.inr ⟨by rw[F.out];decide,by rw[F.out]⟩⟩
    ·have h2:(l.length:Int)≤8192-(M:Int):=by omega
     have h3:(M:Int)+(l.length:Int)≤8192:=by omega
     go_wp2_with fail;go_roundg (ls.length-(j+1))
     case measure=>rw[HK.out];omega
     case rel=>exact⟨j+1,by omega,rfl,by simp,⟨M+l.length,by simp,by rw[ae.out,HM.out],by omega⟩,rfl⟩
   ·have aj:(ls.length:Int)≤(j:Int):=by omega
    have aG:Hid (ls.take j=ls):=QA (List.take_of_length_le (by omega));have B:Hid (M=ls.flatten.length):=by rw[← aG.out];exact HM
    have F:Hid (Fr.encE k ls.flatten=0):=by
     unfold Fr.encE;have h1:=B.out;rw[if_neg Z.out,if_neg (by omega)];exact QA rfl
    have S:Below w.heap.size w (w.alloc (.cells #[.int .u8 k] 5)):=(Below.refl _ _).alloc (QM _) _;have Y:Ag (w.alloc (.cells #[.int .u8 k] 5)) w.heap.size (.slice (some ⟨w.heap.size,0,none⟩) 1 1) [Fr.byte k]:=by
     have h:=World.ownsRow_lit (base:=w.heap.size) (e:=5) (size:=1) w #[.int .u8 k] 1 (QM _) (by unfold maxLen;omega) rfl;have hc:AV [Fr.byte k]=[.int .u8 k]:=by
      have:=Fr.byte_val k;simp[AV,this];omega
     unfold Ag;rw[hc];exact h
    have av:=QA Y;have ab:ls.flatten.length≤1000000000:=by have:=B.out;omega
    have aH:=QA ab;clear Y ab;go_wp2_with fail;refine (Cr _ ls _ (HV.out.below S) hl aH.out).mono ?_;rintro e w1 ⟨v1,rfl,ho1,hb1⟩;have ao:=QA ho1;have L:=QA (av.out.keep hb1);have C:=S.trans (hb1.mono S.size);have ad:=QA C;have ai:=C.size;have HS:Hid ([Fr.byte k].length+ls.flatten.length≤1000000000):=QA (by have:=B.out;simp only[List.length_singleton];omega);clear ho1 C;go_wp2_with (first|(at_builtin;refine BF rfl _ _ rfl w.heap.size (.slice (some ⟨w.heap.size,0,none⟩) 1 1) _ rfl L.out v1 ls.flatten rfl ao.out.byts HS.out ai ?_;intro d' w5 hown5 hgrow5 hloc5;have I:=QA hown5;have ap:=QA hgrow5;clear hown5 hgrow5 hloc5)|fail);obtain⟨Q,P,R,aF,aT⟩:=Ag.form3 I.out;subst aF;have N:=QA (below_grown ad.out ai L.out ap.out);have aw:Hid (Ag w5 w.heap.size (.slice Q P R) (Fr.inner k ls.flatten)):=I;have aE:=N.out.size;refine (GT M w5).mono ?_;rintro e w6 ⟨v2,rfl,ho2,hb2⟩;obtain⟨aD,ay,au,aL,aQ⟩:=Ag.form3 ho2;subst aL;have ax:=QA ho2;have W:=QA (aw.out.keep hb2);have O:=QA (N.out.trans (hb2.mono aE));have aB:=O.out.size;have aY:=QA hb2;clear ho2 hb2;have U:Below w6.heap.size w6 (w6.alloc (.cells #[.slice Q P R] 41)):=(Below.refl _ _).alloc (QM _) _;have ar:=QA (Ep 41 W.out.byts);have ag:(Fr.inner k ls.flatten).length≤1000000000:=by
     have:=B.out;unfold Fr.inner;simp only[List.length_cons];omega
    have aq:=QA ag;clear ag;go_wp2_with fail;refine (Hq _ [Fr.inner k ls.flatten] _ ar.out (by simp) (by simpa using aq.out)).mono ?_;rintro e w7 ⟨rfl,hb7⟩;have D:=U.trans (hb7.mono U.size);have ah:=QA D;have ac:=D.size;clear D U hb7;go_wp2_with fail;refine (GT _ w7).mono ?_;rintro e w8 ⟨v3,rfl,ho3,hb8⟩;obtain⟨az,aA,aJ,aC,a5⟩:=Ag.form3 ho3;subst aC;have aZ:=QA ho3;have A:=QA (ah.out.trans (hb8.mono ac));have aK:=QA (E8 41 (ax.out.keep A.out).byts (W.out.keep A.out).byts ho3.byts);have af:=A.out.size;have J:Below w8.heap.size w8 (w8.alloc (.cells #[.slice aD ay au,.slice Q P R,.slice az aA aJ] 41)):=(Below.refl _ _).alloc (QM _) _;have X:=QA (A.out.trans (J.mono af));clear ho3 hb8 J;have H:[Fr.four M,Fr.inner k ls.flatten,Fr.four (Fr.sum (Fr.inner k ls.flatten))].flatten=Fr.bytes k ls.flatten:=by
     rw[B.out];simp[Fr.bytes]
    have G:=QA H;have K:(Fr.bytes k ls.flatten).length≤1000000000:=by
     have:=B.out;rw[Fr.bytes_len];omega
    have V:=QA K;clear K H;go_wp2_with fail;refine (Cr _ [Fr.four M,Fr.inner k ls.flatten,Fr.four (Fr.sum (Fr.inner k ls.flatten))] _ aK.out (by simp) (by rw[G.out];exact V.out)).mono ?_;rintro e w9 ⟨v4,rfl,ho4,hb9⟩;rw[G.out]at ho4;have an:=QA ho4;clear ho4;go_wp2_with fail;refine bodyPost_ret (v:=.tuple #[v4,.int .i64 0]) (by simp[results,Tryz.results63,go_sem]) rfl ?_;refine⟨?_,.inl ⟨F.out,v4,rfl,an.out.mono (by simp;omega)⟩⟩;have h1:=X.out;have h2:=h1.trans (hb9.mono h1.size);exact O.out.trans (h2.mono aB)
end Go.Proofs.YtjldahcckmmenaaGreatDoor
