/-
  The file system: Remove and Rename, walked. The file system: what is planned stays small (plain). Frames: the table, walked. Frames: bytes that are read; the sum, walked. A frame's sum by its table is the sum bit by bit (plain). Frames: four bytes and their number, walked. Frames: slices.Grow and slices.Concat of bytes. Frames: Encode, walked.
-/
import Derived.Test.YtmlekglfdiacpaaGreatDoorZp5
import Derived.Shelf.Spec.SlicesGrow
import Derived.Laws.BitsAllLaws
import Derived.OpenShut
import Derived.Laws.AppendOwnNone
open Go.Lib renaming hid → QA
open List renaming length_append → QS, mem_of_getElem? → QZ, getElem?_eq_getElem → ZG
open Nat renaming le_refl → QM, le_trans → QQ, zero_le → ZS
namespace Go.Proofs.YtmlekglfdiacpaaGreatDoor
set_option maxRecDepth 100000
set_option maxHeartbeats 4000000
set_option linter.unusedSimpArgs false
set_option linter.unusedVariables false
open Go Go.RowKit
open Go.Maps Go.WideMaps
theorem Hx {w:World} {g:Nat} {s t:ByteArray} (hg:g<w.heap.size) (h0:w.cell? ⟨g,0,none⟩=some (.string s)) (h1:w.cell? ⟨g,1,none⟩=some (.string t)):Ca w (.slice (some ⟨g,0,none⟩) 2 2) [s,t] :=
 ⟨some ⟨g,0,none⟩,2,rfl,λi x hi=>by
  match i,hi with
  | 0,hi =>
   simp at hi;subst hi;exact⟨g,0,rfl,hg,h0⟩
  | 1,hi =>
   simp at hi;subst hi;exact⟨g,0,rfl,hg,h1⟩
  | i+2,hi=>simp at hi⟩
theorem Cl (base B:Nat) (st:Fs.St) (V:FsV) (own:Nat→Tag) (s:ByteArray) (w:World) (h:Ad base B st V own w) (hbase:base≤w.heap.size) (hs:s.size≤1000000) (hfl:st.files.length≤900000) (hcl:st.changes.length≤900000) (hdl:st.dir.length≤900000) :
  Calls Tryz.prog 30 #[.pointer (some ⟨B,0,none⟩),.string s] w λe w'=>e=.returned (.int .i64 (Fs.remove st s.data.toList).2)∧AV base B (Fs.remove st s.data.toList).1 own w w':=by
 have H:=QA h;clear h;go_enter Tryz.func30,Tryz.ntmps30;go_wp2_with fail;refine (Cz base B st V own s w H.out.at_ hs).mono ?_;rintro e w1 ⟨hb1,hres⟩;have L:=QA (H.out.kept (AL hb1));rcases hres with⟨h0,f,b,d,hf,hb,hd,rfl⟩|⟨h0,rfl⟩
 ·clear hf hb hd;go_wp2_with fail;refine (Ba base B st V own w1 L.out.at_).mono ?_;rintro e w2 ⟨pv,rfl,h2,hk2⟩;have o:Kept own (·≠.other) w w2:=(AL hb1).trans (hk2.mono (λt ht=>by rw[ht];simp));have A:Ad base B (Fs.step st).1 { V with pv:=pv } own w2:=⟨h2,λk hk=>L.out.fresh k (QQ hk2.size hk),L.out.old⟩
  have M:base≤w2.heap.size:=by have:=hk2.size;have:=hb1.size;omega
  by_cases hc:(Fs.step st).2.2=0
  ·have G:Hid (Fs.remove st s.data.toList=(Fs.turned (Fs.step st).1 [(s.data.toList,-1)],0)):=by
    unfold Fs.remove;rw[if_neg (by simp[h0]),if_neg (by simp[hc])];exact QA rfl
   have K:((Fs.step st).2.2 != 0)=false:=by rw[hc];rfl
   have C:=AH w2 (.cells #[.string s,.int .i64 (-1)] 116);have D:=A.kept ((Kept.refl own (·=.other) w2).alloc (.cells #[.string s,.int .i64 (-1)] 116));have J:=A.fresh w2.heap.size (QM _);have E:=QA (EL base B _ _ own w2.heap.size 1 _ [(s.data.toList,-1)] _ D C (by simp[AP]) J M (by simp;omega)
    (by
     intro p hp;simp at hp;subst hp;exact⟨hs,by omega,by simp only[];omega⟩)
    (by simp[Fs.step_files];omega) (by simp[Fs.step_dir];omega) (by simp[Fs.step_changes];omega))
   have O:=QA ((Kept.refl own (·≠.other) w2).alloc (.cells #[.string s,.int .i64 (-1)] 116));have I:=QA o;have F:Hid (w.heap.size≤w2.heap.size):=QA o.size;clear hc C D J h2 A hk2 o h0;go_wp2_with fail;refine E.out.mono ?_;rintro e w8 ⟨rfl,V',own',hok',ho',hk'⟩;go_wp2;go_ret;rw[G.out];refine⟨rfl,V',own',hok',λk hk=>ho' k (by have:=F.out;simp;omega) (by have:=F.out;omega),?_⟩;have N:=I.out.trans O.out;exact N.trans hk'
  ·have G:Hid (Fs.remove st s.data.toList=((Fs.step st).1,(Fs.step st).2.2)):=by
    unfold Fs.remove;rw[if_neg (by simp[h0]),if_pos hc];exact QA rfl
   have K:((Fs.step st).2.2 != 0)=true:=by rw[bne_iff_ne];exact hc
   clear hc;go_wp2;go_ret;rw[G.out];exact⟨rfl,_,own,A,λ_ _=>rfl,o⟩
 ·have G:Hid (Fs.remove st s.data.toList=(st,Fs.openE st s.data.toList)):=by unfold Fs.remove;rw[if_pos h0];exact QA rfl
  have K:(Fs.openE st s.data.toList != 0)=true:=by rw[bne_iff_ne];exact h0
  go_wp2;go_ret;rw[G.out];exact⟨rfl,V,own,L.out,λ_ _=>rfl,AL hb1⟩
theorem EY (base B:Nat) (st:Fs.St) (V:FsV) (own:Nat→Tag) (s t:ByteArray) (w:World) (h:Ad base B st V own w) (hbase:base≤w.heap.size) (hs:s.size≤1000000) (ht:t.size≤1000000) (hfl:st.files.length≤900000) (hcl:st.changes.length≤900000) (hdl:st.dir.length≤900000) :
  Calls Tryz.prog 28 #[.pointer (some ⟨B,0,none⟩),.string s,.string t] w λe w'=>e=.returned (.int .i64 (Fs.rename st s.data.toList t.data.toList).2)∧AV base B (Fs.rename st s.data.toList t.data.toList).1 own w w':=by
 have Y:w.cell? ⟨B,5,none⟩=some (.map (some V.md)):=AA h.at_.root 5 _ rfl;have G:Below w.heap.size w (w.alloc (.cells #[.string s,.string t] 9)):=(Below.refl _ _).alloc (QM _) _;have C:=keyOf_string_mk Tryz.underlying9 (s:=s) (show s.size≤maxLen by unfold maxLen;omega);have N:=QA (DY _ [s,t] (w.alloc (.cells #[.string s,.string t] 9)) (Hx (by simp) (A4 w _ _ 0 _ rfl) (A4 w _ _ 1 _ rfl)) (by simp) (by intro x hx;simp at hx;rcases hx with rfl|rfl<;>omega));have af:Bc [s,t]=(Fs.good s.data.toList&&Fs.good t.data.toList):=by simp[Bc]
 rw[af]at N;have O:=QA (h.at_.dir.heap (G.block _ h.at_.dir.lt));have ah:(w.alloc (.cells #[.string s,.string t] 9)).cell? ⟨B,5,none⟩=some (.map (some V.md)):=by rw[G.cell (AN Y)];exact Y
 have A:=QA (h.kept (AL G));have L:=QA (Fs.datum_has st.dir s.data.toList);have D:=QA (Fs.datum_get st.dir s.data.toList);have I:=QA G;have H:=QA h;clear h G Y;go_enter Tryz.func28,Tryz.ntmps28;cases hgd:Fs.good s.data.toList&&Fs.good t.data.toList
 ·have Q:Hid (Fs.rename st s.data.toList t.data.toList=(st,7)):=by unfold Fs.rename;rw[if_pos hgd];exact QA rfl
  rw[hgd]at N;clear hgd;go_wp2_with fail;refine N.out.mono ?_;rintro e w2 ⟨rfl,hw2⟩;obtain rfl:=hw2.symm;go_wp2;go_ret;rw[Q.out];exact⟨rfl,V,own,A.out,λ_ _=>rfl,AL I.out⟩
 ·rw[hgd]at N;cases hhas:Fs.mhas st.dir s.data.toList
  ·have ae:Hid (Maps.has (Fs.datum st.dir) (.string s.data.toList)=false):=by rw[L.out];exact QA hhas
   have Q:Hid (Fs.rename st s.data.toList t.data.toList=(st,3)):=by unfold Fs.rename;rw[if_neg (by rw[hgd];simp),if_pos hhas];exact QA rfl
   clear hgd hhas;go_wp2_with fail;refine N.out.mono ?_;rintro e w2 ⟨rfl,hw2⟩;obtain rfl:=hw2.symm;go_wp2_with (first|(at_lookup;refine wpList_lookup_own_ok_int _ rfl _ _ 66 rfl 9 3 .i64 Af Tryz.underlying66 Tryz.underlying3 (BH _) V.md _ _ rfl O.out _ _ rfl C ?_;intro c hat hwc;rw[ae.out];have J:Hid (c=Fs.mget st.dir s.data.toList):=(by have:=hat.symm.trans D.out;simp only[DataW.lit.injEq,Lit.int.injEq,true_and]at this;exact QA this);clear hat hwc)|fail);go_ret;rw[Q.out];exact⟨rfl,V,own,A.out,λ_ _=>rfl,AL I.out⟩
  ·have S:Hid (Maps.has (Fs.datum st.dir) (.string s.data.toList)=true):=by rw[L.out];exact QA hhas
   obtain⟨p,T,aa,W⟩:=Fs.mget_mem hhas;have E:=H.out.at_.known p T;rw[W]at E;have ab:=QA E;clear T aa W E;by_cases hc:(Fs.step st).2.2=0
   ·have Q:Hid (Fs.rename st s.data.toList t.data.toList=(Fs.turned (Fs.step st).1 [(s.data.toList,-1),(t.data.toList,Fs.mget st.dir s.data.toList)],0)):=by
     unfold Fs.rename;rw[if_neg (by rw[hgd];simp),if_neg (by rw[hhas];simp),if_neg (by simp[hc])];exact QA rfl
    have Z:((Fs.step st).2.2 != 0)=false:=by rw[hc];rfl
    clear hgd hhas hc;go_wp2_with fail;refine N.out.mono ?_;rintro e w2 ⟨rfl,hw2⟩;obtain rfl:=hw2.symm;go_wp2_with (first|(at_lookup;refine wpList_lookup_own_ok_int _ rfl _ _ 66 rfl 9 3 .i64 Af Tryz.underlying66 Tryz.underlying3 (BH _) V.md _ _ rfl O.out _ _ rfl C ?_;intro c hat hwc;rw[S.out];have J:Hid (c=Fs.mget st.dir s.data.toList):=(by have:=hat.symm.trans D.out;simp only[DataW.lit.injEq,Lit.int.injEq,true_and]at this;exact QA this);clear hat hwc)|fail);refine (Ba base B st V own _ A.out.at_).mono ?_;rintro e w2 ⟨pv,rfl,h2,hk2⟩;have o:Kept own (·≠.other) w w2:=(AL I.out).trans (hk2.mono (λt ht=>by rw[ht];simp));have F:Ad base B (Fs.step st).1 { V with pv:=pv } own w2:=⟨h2,λk hk=>A.out.fresh k (QQ hk2.size hk),H.out.old⟩
    have ad:base≤w2.heap.size:=by have:=o.size;omega
    have K:=AH w2 (.cells #[.string s,.int .i64 (-1),.string t,.int .i64 c] 116);have M:=F.kept ((Kept.refl own (·=.other) w2).alloc (.cells #[.string s,.int .i64 (-1),.string t,.int .i64 c] 116));have X:=F.fresh w2.heap.size (QM _);have P:=QA (EL base B _ _ own w2.heap.size 2 _ [(s.data.toList,-1),(t.data.toList,c)] _ M K (by simp[AP]) X ad (by simp;omega)
     (by
      intro p T;simp at T;have E:=ab.out;rw[← J.out]at E;rcases T with rfl|rfl
      ·exact⟨hs,by omega,by simp only[];omega⟩
      ·exact⟨ht,by simp only[];omega,by simp only[Fs.step_files];omega⟩)
     (by simp[Fs.step_files];omega) (by simp[Fs.step_dir];omega) (by simp[Fs.step_changes];omega))
    have ac:=QA ((Kept.refl own (·≠.other) w2).alloc (.cells #[.string s,.int .i64 (-1),.string t,.int .i64 c] 116));have U:=QA o;have R:Hid (w.heap.size≤w2.heap.size):=QA o.size;clear K M X h2 F hk2 o;go_wp2_with fail;refine P.out.mono ?_;rintro e w8 ⟨rfl,V',own',hok',ho',hk'⟩;go_wp2;go_ret;rw[Q.out];rw[J.out]at hok';refine⟨rfl,V',own',hok',λk hk=>ho' k (by have:=R.out;simp;omega) (by have:=R.out;omega),?_⟩;have ag:=U.out.trans ac.out;exact ag.trans hk'
   ·have Q:Hid (Fs.rename st s.data.toList t.data.toList=((Fs.step st).1,(Fs.step st).2.2)):=by
     unfold Fs.rename;rw[if_neg (by rw[hgd];simp),if_neg (by rw[hhas];simp),if_pos hc];exact QA rfl
    have Z:((Fs.step st).2.2 != 0)=true:=by rw[bne_iff_ne];exact hc
    clear hgd hhas hc;go_wp2_with fail;refine N.out.mono ?_;rintro e w2 ⟨rfl,hw2⟩;obtain rfl:=hw2.symm;go_wp2_with (first|(at_lookup;refine wpList_lookup_own_ok_int _ rfl _ _ 66 rfl 9 3 .i64 Af Tryz.underlying66 Tryz.underlying3 (BH _) V.md _ _ rfl O.out _ _ rfl C ?_;intro c hat hwc;rw[S.out];have J:Hid (c=Fs.mget st.dir s.data.toList):=(by have:=hat.symm.trans D.out;simp only[DataW.lit.injEq,Lit.int.injEq,true_and]at this;exact QA this);clear hat hwc)|fail);refine (Ba base B st V own _ A.out.at_).mono ?_;rintro e w2 ⟨pv,rfl,h2,hk2⟩;have o:Kept own (·≠.other) w w2:=(AL I.out).trans (hk2.mono (λt ht=>by rw[ht];simp));go_wp2;go_ret;rw[Q.out];exact⟨rfl,_,own,⟨h2,λk hk=>A.out.fresh k (QQ hk2.size hk),H.out.old⟩,λ_ _=>rfl,o⟩
open Go.Maps Go.WideMaps
namespace Fs
def PlanOK (st:St):Prop:=∀z∈st.plan,z≤9223372036854775807
section
variable {st : St} (h : PlanOK st)
include h
theorem PlanOK.of {st':St} (e:st'.plan=st.plan∨st'.plan=st.plan.tail):PlanOK st':=λz hz=>by
 rcases e with e|e
 ·rw[e]at hz;exact h z hz
 ·rw[e]at hz;exact h z (List.mem_of_mem_tail hz)
theorem PlanOK.how:(step st).2.1≤9223372036854775807:=by
 unfold step;split
 ·show (0:Int)≤_;omega
 ·show st.plan.headD 0≤_;cases hp:st.plan with
  | nil=>show (0:Int)≤_;omega
  | cons z r=>exact h z (by rw[hp];exact List.mem_cons_self)
end
theorem Ao (st:St):(step st).1.plan=st.plan∨(step st).1.plan=st.plan.tail:=by
 unfold step;split
 ·exact .inl rfl
 ·exact .inr rfl
theorem plan_create (st:St) (n:List UInt8):(create st n).1.plan=st.plan∨(create st n).1.plan=st.plan.tail:=by
 unfold create;split
 ·exact .inl rfl
 split
 ·exact .inl rfl
 split
 ·exact .inl rfl
 split
 ·exact Ao st
 ·exact Ao st
theorem plan_append (st:St) (n b:List UInt8):(append st n b).1.plan=st.plan∨(append st n b).1.plan=st.plan.tail:=by
 unfold append;split
 ·exact .inl rfl
 split
 ·exact .inl rfl
 split
 ·split
  ·exact Ao st
  ·exact Ao st
 split
 ·exact Ao st
 ·exact Ao st
theorem plan_sync (st:St) (n:List UInt8):(sync st n).1.plan=st.plan∨(sync st n).1.plan=st.plan.tail:=by
 unfold sync;split
 ·exact .inl rfl
 split
 ·exact Ao st
 ·exact Ao st
theorem plan_syncDir (st:St):(syncDir st).1.plan=st.plan∨(syncDir st).1.plan=st.plan.tail:=by
 unfold syncDir;split
 ·exact Ao st
 ·exact Ao st
theorem plan_remove (st:St) (n:List UInt8):(remove st n).1.plan=st.plan∨(remove st n).1.plan=st.plan.tail:=by
 unfold remove;split
 ·exact .inl rfl
 split
 ·exact Ao st
 ·exact Ao st
theorem plan_rename (st:St) (a b:List UInt8):(rename st a b).1.plan=st.plan∨(rename st a b).1.plan=st.plan.tail:=by
 unfold rename;split
 ·exact .inl rfl
 split
 ·exact .inl rfl
 split
 ·exact Ao st
 ·exact Ao st
end Fs
open Go.Maps Go.WideMaps
namespace Fr
def stp (c:Int):Int:=bits .xor .u32 (c / 2) (bits .and .u32 c 1*2197175160 % 4294967296)
def iter:Nat→Int→Int
 | 0,c=>c
 | n+1,c=>stp (iter n c)
def ent (i:Int):Int:=iter 8 i
def tabCells (j:Nat):Array Value:=((List.range 256).map λi=>Value.int .u32 (if i<j then ent i else 0)).toArray
end Fr
theorem Fr.tab_at (j k:Nat) (hk:k<256) (hjk:j≤k):(Fr.tabCells j)[k]?=some (.int .u32 0):=by
 simp[Fr.tabCells,hk,show ¬k<j by omega]
theorem Fr.tab_set (j:Nat) (hj:j<256):(Fr.tabCells j).setIfInBounds j (.int .u32 (Fr.iter 8 j))=Fr.tabCells (j+1):=by
 apply Array.ext
 ·simp[Fr.tabCells]
 ·intro i h1 h2;simp only[Fr.tabCells,List.size_toArray,List.length_map,List.length_range]at h2;rw[Array.getElem_setIfInBounds];simp only[Fr.tabCells,List.getElem_toArray,List.getElem_map,List.getElem_range];by_cases h:j=i
  ·subst h;simp[Fr.ent]
  ·by_cases h3:i<j
   ·simp[h,h3,show i<j+1 by omega]
   ·simp[h,h3,show ¬i<j+1 by omega]
  ·simpa [Fr.tabCells] using h2
theorem C6:Fr.tabCells 0=Tryz.zeroCells178:=by kernel_rfl
theorem G6 (w:World):Calls Tryz.prog 112 #[] w λe w'=>e=.returned (.agg (Fr.tabCells 256))∧Below w.heap.size w w':=by
 have I:((w.alloc (.cells (Fr.tabCells 0) 178)).alloc (.cells (Fr.tabCells 0) 178)).heap[w.heap.size]?=some (.cells (Fr.tabCells 0) 178 (0,0)):=by
  rw[show ((w.alloc (.cells (Fr.tabCells 0) 178)).alloc (.cells (Fr.tabCells 0) 178)).heap[w.heap.size]?=(w.alloc (.cells (Fr.tabCells 0) 178)).heap[w.heap.size]? from Below.heap_alloc _ _ _ (by simp)];exact AH _ _
 have H:((w.alloc (.cells (Fr.tabCells 0) 178)).alloc (.cells (Fr.tabCells 0) 178)).heap[w.heap.size+1]?=some (.cells (Fr.tabCells 0) 178 (0,0)):=by
  have:=AH (w.alloc (.cells (Fr.tabCells 0) 178)) (.cells (Fr.tabCells 0) 178);rw[show (w.alloc (.cells (Fr.tabCells 0) 178)).heap.size=w.heap.size+1 by simp]at this;exact this
 rw[C6]at I H;have hb:Below w.heap.size w ((w.alloc (.cells Tryz.zeroCells178 178)).alloc (.cells Tryz.zeroCells178 178)):=((Below.refl _ _).alloc (QM _) _).alloc (by simp) _;have Q:=QA I;have R:=QA H;clear I H;go_enter Tryz.func112,Tryz.ntmps112;go_wp2
 go_loopg [4] 256 (λk s4 wr=>∃j:Nat,j≤256∧k=256-j∧s4=.int .i64 (j:Nat)∧wr.heap[w.heap.size]?=some (.cells (Fr.tabCells 0) 178 (0,0))∧wr.heap[w.heap.size+1]?=some (.cells (Fr.tabCells j) 178 (0,0))∧Below w.heap.size w wr)
 case atStart=>exact⟨0,by omega,rfl,rfl,by rw[C6];exact Q.out,by rw[C6];exact R.out,hb⟩
 case round =>
  obtain⟨j,U,A,rfl,h0,L,N⟩:=hrel;have O:=QA A;have F:=QA h0;have E:=QA L;clear A h0 L hb;have S:(0:Int)≤(j:Int):=Int.natCast_nonneg _;by_cases hjn:j<256
  ·have B:(j:Int)<256:=by omega
   have c0:wr.cell? ⟨w.heap.size+1,j,none⟩=some (.int .u32 0):=AA E.out j _ (Fr.tab_at j j hjn (QM _));have c1:=AC E.out j;go_wp2
   go_loopg [3,9] 8 (λk s3 s9 wq=>∃(a:Nat) (c:Int),a≤8∧k=8-a∧s9=.int .i64 (a:Nat)∧s3=.int .u32 c∧c=Fr.iter a j∧wq=wr)
   case atStart=>exact⟨0,_,by omega,rfl,rfl,rfl,rfl,rfl⟩
   case round =>
    obtain⟨a,c,V,A,rfl,rfl,K,rfl⟩:=hrel;have M:=QA K;clear K;have J:=QA A;clear A;have P:(0:Int)≤(a:Int):=Int.natCast_nonneg _;by_cases han:a<8
    ·have C:(a:Int)<8:=by omega
     go_wp2;go_roundg (8-(a+1))
     case measure=>rw[J.out];omega
     case rel => 
      exact⟨a+1,_,by omega,rfl,by simp,rfl,by rw[M.out];rfl,rfl⟩
    ·have C:(8:Int)≤(a:Int):=by omega
     obtain rfl:a=8:=by omega
     go_wp2;go_roundg (256-(j+1))
     case measure=>rw[O.out];omega
     case rel =>
      refine⟨j+1,by omega,rfl,by simp,?_,?_,N.setCell (p:=⟨w.heap.size+1,j,none⟩) (Nat.le_succ _) _⟩
      ·rw[Below.heap_setCell _ _ _ _ (by show w.heap.size≠w.heap.size+1;omega)];exact F.out
      ·rw[← Fr.tab_set j hjn,← M.out];exact heap_set E.out _
  ·have B:(256:Int)≤(j:Int):=by omega
   obtain rfl:j=256:=by omega
   have o:∀j,(Fr.tabCells j).size=256:=λj=>by simp[Fr.tabCells]
   have D:(Fr.tabCells 256).all (·.oneCell')=true:=by kernel_rfl
   have G:(Tryz.prog.info? 178).map (·.size)=some (Fr.tabCells 256).size:=by rw[o];kernel_rfl
   go_wp2_with (first
    | refine wpList_load_row rfl _ _ rfl (w.heap.size+1) rfl 178 (Fr.tabCells 256) (0,0) _ E.out Tryz.underlying178 rfl G ?_
    | refine wpList_store_row rfl _ _ _ rfl w.heap.size (Fr.tabCells 256) rfl rfl 178 (Fr.tabCells 0) F.out G (by rw[o,o]) D ?_
    | fail)
   have T:(wr.setRow w.heap.size (Fr.tabCells 256)).heap[w.heap.size]?=some (.cells (Fr.tabCells 256) 178 (0,0)):=setRow_heap wr w.heap.size (Fr.tabCells 0) _ _ _ F.out;refine bodyPost_ret (v:=.agg (Fr.tabCells 256)) (results_cell_row Tryz.results112 _ _ w.heap.size 178 (Fr.tabCells 256) (0,0) _ rfl T Tryz.underlying178 rfl G) rfl ?_;exact⟨rfl,N.trans ⟨rfl,rfl,rfl,by simp,λk A=>setRow_other wr w.heap.size k _ (by omega)⟩⟩
open Go.Maps Go.WideMaps
def Al (w:World) (v:Value) (l:List UInt8):Prop :=
 ∃a cap,v=.slice a l.length cap∧l.length≤cap∧(a=none→cap=0)∧∀(i:Nat) x,l[i]?=some x→∃b off,a=some ⟨b,off,none⟩∧b<w.heap.size∧w.cell? ⟨b,off+i,none⟩=some (.int .u8 x.toNat)
theorem Al.form {w:World} {v:Value} {l:List UInt8} (h:Al w v l):∃a cap,v=.slice a l.length cap∧l.length≤cap:=by
 obtain⟨a,cap,o,A,_⟩:=h;exact⟨a,cap,o,A⟩
theorem Al.form2 {w:World} {v:Value} {l:List UInt8} (h:Al w v l):∃a cap,v=.slice a l.length cap∧l.length≤cap∧(a=none→cap=0):=by
 obtain⟨a,cap,o,B,A,_⟩:=h;exact⟨a,cap,o,B,A⟩
theorem Al.at {w:World} {a:Option Addr} {n cap:Nat} {l:List UInt8} (h:Al w (.slice a n cap) l) {i:Nat} {x:UInt8} (hi:l[i]?=some x) :
  ∃b off,a=some ⟨b,off,none⟩∧b<w.heap.size∧w.cell? ⟨b,off+i,none⟩=some (.int .u8 x.toNat):=by
 obtain⟨E,A,o,_,_,D⟩:=h;obtain⟨b,off,e,B,C⟩:=D i x hi;simp only[Value.slice.injEq]at o;exact⟨b,off,by rw[o.1,e],B,C⟩
theorem Al.keep {w w':World} {v:Value} {l:List UInt8} (h:Al w v l) (hs:w.heap.size≤w'.heap.size) (hk:∀k,k<w.heap.size→w'.heap[k]?=w.heap[k]?):Al w' v l:=by
 obtain⟨a,cap,B,F,E,C⟩:=h;refine⟨a,cap,B,F,E,λi x hi=>?_⟩;obtain⟨b,o,e,A,D⟩:=C i x hi;exact⟨b,o,e,Nat.lt_of_lt_of_le A hs,by rw[World.cell?_of_block (hk b A)];exact D⟩
theorem Al.below {w w':World} {v:Value} {l:List UInt8} (h:Al w v l) (hb:Below w.heap.size w w'):Al w' v l:=h.keep hb.size hb.block
def CM (w:World) (v:Value) (ls:List (List UInt8)):Prop :=
 ∃a cap,v=.slice a ls.length cap∧ls.length≤cap∧∀(i:Nat) l,ls[i]?=some l→∃b off v',a=some ⟨b,off,none⟩∧b<w.heap.size∧w.cell? ⟨b,off+i,none⟩=some v'∧Al w v' l
theorem CM.form {w:World} {v:Value} {l:List (List UInt8)} (h:CM w v l):∃a cap,v=.slice a l.length cap:=by
 obtain⟨a,cap,o,A,_⟩:=h;exact⟨a,cap,o⟩
theorem CM.at {w:World} {a:Option Addr} {n cap:Nat} {ls:List (List UInt8)} (h:CM w (.slice a n cap) ls) {i:Nat} {l:List UInt8} (hi:ls[i]?=some l) :
  ∃b off v',a=some ⟨b,off,none⟩∧b<w.heap.size∧w.cell? ⟨b,off+i,none⟩=some v'∧Al w v' l:=by
 obtain⟨F,A,o,_,E⟩:=h;obtain⟨b,off,v',e,B,C,D⟩:=E i l hi;simp only[Value.slice.injEq]at o;exact⟨b,off,v',by rw[o.1,e],B,C,D⟩
theorem CM.keep {w w':World} {v:Value} {l:List (List UInt8)} (h:CM w v l) (hs:w.heap.size≤w'.heap.size) (hk:∀k,k<w.heap.size→w'.heap[k]?=w.heap[k]?):CM w' v l:=by
 obtain⟨a,cap,B,E,C⟩:=h;refine⟨a,cap,B,E,λi x hi=>?_⟩;obtain⟨b,o,F,e,A,D,G⟩:=C i x hi;exact⟨b,o,F,e,Nat.lt_of_lt_of_le A hs,by rw[World.cell?_of_block (hk b A)];exact D,G.keep hs hk⟩
theorem CM.below {w w':World} {v:Value} {l:List (List UInt8)} (h:CM w v l) (hb:Below w.heap.size w w'):CM w' v l:=h.keep hb.size hb.block
namespace Fr
def upd (c:Int) (x:UInt8):Int:=bits .xor .u32 (c / 256) (ent (bits .xor .u8 (c % 256) x.toNat))
def sum (l:List UInt8):Int:=bits .xor .u32 4294967295 (l.foldl upd 4294967295)
theorem tab_get (k:Nat) (hk:k<256):(Fr.tabCells 256)[k]?=some (.int .u32 (ent (k:Int))):=by
 simp[Fr.tabCells,hk]
end Fr
theorem Iw (op:BinOp) (a b:Int):∃k:Nat,k<256∧bits op .u8 a b=(k:Int):=by
 have h:=wf_bits op .u8 a b;have A:IntKind.u8.min=0:=by decide
 have o:IntKind.u8.max=255:=by decide
 simp[Lit.wf,A,o]at h;exact⟨(bits op .u8 a b).toNat,by omega,by omega⟩
theorem ES (op:BinOp) (a b:Int):0≤bits op .u32 a b∧bits op .u32 a b<4294967296:=by
 have h:=wf_bits op .u32 a b;have A:IntKind.u32.min=0:=by decide
 have o:IntKind.u32.max=4294967295:=by decide
 simp[Lit.wf,A,o]at h;omega
theorem CR {α} (ls:List (List α)) (j:Nat) (l:List α) (h:ls[j]?=some l):(ls.take (j+1)).flatten=(ls.take j).flatten++l:=by
 rw[List.take_add_one,h];simp
theorem GU (v:Value) (ls:List (List UInt8)) (w:World) (hV:CM w v ls) (hl:ls.length≤1000000000) (hs:∀l∈ls,l.length≤1000000000) :
  Calls Tryz.prog 97 #[v] w λe w'=>e=.returned (.int .u32 (Fr.sum ls.flatten))∧Below w.heap.size w w':=by
 obtain⟨va,vc,rfl⟩:=hV.form;have V:=QA hV;clear hV;go_enter Tryz.func97,Tryz.ntmps97;go_wp2_with fail;refine (G6 w).mono ?_;rintro e w1 ⟨rfl,hb1⟩;have B:∀j,(Fr.tabCells j).size=256:=λj=>by simp[Fr.tabCells]
 have S:(Tryz.zeroCells178).size=256:=by rw[← C6,B]
 have D:(Fr.tabCells 256).all (·.oneCell')=true:=by kernel_rfl
 have T:(Tryz.prog.info? 178).map (·.size)=some (Fr.tabCells 256).size:=by rw[B];kernel_rfl
 go_wp2_with (first
    | refine wpList_store_row rfl _ _ _ rfl w1.heap.size (Fr.tabCells 256) rfl rfl 178 Tryz.zeroCells178 (AH w1 _) T (by rw[B,S]) D ?_
    | fail)
 have R:((w1.alloc (.cells Tryz.zeroCells178 178)).setRow w1.heap.size (Fr.tabCells 256)).heap[w1.heap.size]?=some (.cells (Fr.tabCells 256) 178 (0,0)):=setRow_heap _ w1.heap.size _ _ _ _ (AH w1 _);have E:Below w.heap.size w ((w1.alloc (.cells Tryz.zeroCells178 178)).setRow w1.heap.size (Fr.tabCells 256)) :=
  (hb1.alloc hb1.size _).trans ⟨rfl,rfl,rfl,by simp,λk C=>setRow_other _ w1.heap.size k _ (by have:=hb1.size;omega)⟩
 generalize ((w1.alloc (.cells Tryz.zeroCells178 178)).setRow w1.heap.size (Fr.tabCells 256))=w2 at R E ⊢
 have W:=QA R;have K:=QA (V.out.below E);clear B S D T R
 go_loopg [4,12] ls.length (λk s4 s12 wr=>∃j:Nat,∃c:Int,j≤ls.length∧k=ls.length-j∧s12=.int .i64 (j:Nat)∧s4=.int .u32 c∧c=(ls.take j).flatten.foldl Fr.upd 4294967295∧wr=w2)
 case atStart=>exact⟨0,_,ZS _,rfl,rfl,rfl,rfl,rfl⟩
 case round =>
  obtain⟨j,c,hj,C,rfl,rfl,H,rfl⟩:=hrel;have X:=QA C;have U:=QA H;clear C H;have ad:(0:Int)≤(j:Int):=Int.natCast_nonneg _;by_cases hjn:j<ls.length
  ·have G:(j:Int)<(ls.length:Int):=by omega
   obtain⟨l,A⟩:∃l,ls[j]?=some l:=⟨_,ZG hjn⟩
   have ah:=hs l (QZ A);obtain⟨g,o,lv,rfl,hg,ag,Q⟩:=K.out.at A;obtain⟨la,lc,rfl,_⟩:=Q.form;have Y:=QA Q;have L:=QA (CR ls j l A);clear Q A;go_wp2
   go_loopg [4,18] l.length (λk s4 s18 wq=>∃a:Nat,∃F:Int,a≤l.length∧k=l.length-a∧s18=.int .i64 (a:Nat)∧s4=.int .u32 F∧F=(l.take a).foldl Fr.upd c∧wq=wr)
   case atStart=>exact⟨0,_,ZS _,rfl,rfl,rfl,rfl,rfl⟩
   case round =>
    obtain⟨a,F,ha,C,rfl,rfl,H,rfl⟩:=hrel;have P:=QA C;have J:=QA H;clear C H;have aa:(0:Int)≤(a:Int):=Int.natCast_nonneg _;by_cases han:a<l.length
    ·have I:(a:Int)<(l.length:Int):=by omega
     obtain⟨x,O⟩:∃x,l[a]?=some x:=⟨_,ZG han⟩
     obtain⟨g2,o2,rfl,ai,af⟩:=Y.out.at O;obtain⟨k,C,N⟩:=Iw .xor (F % 256) x.toNat;have ht:wr.cell? ⟨w1.heap.size,k,none⟩=some (.int .u32 (Fr.ent (k:Int))):=AA W.out k _ (Fr.tab_get k C);have Z:(0:Int)≤(k:Int):=Int.natCast_nonneg _;have ac:(k:Int)<256:=by omega
     have HT:Hid ((l.take (a+1)).foldl Fr.upd c=Fr.upd F x):=by
      refine QA ?_;rw[List.take_add_one,O,J.out];simp
     have HX:Hid (Fr.upd F x=bits .xor .u32 (F / 256) (Fr.ent (k:Int))):=by
      refine QA ?_;unfold Fr.upd;rw[N]
     clear O;go_wp2;go_roundg (l.length-(a+1))
     case measure=>rw[P.out];omega
     case rel=>exact⟨a+1,_,by omega,rfl,by simp,rfl,by rw[HT.out,HX.out],rfl⟩
    ·have I:(l.length:Int)≤(a:Int):=by omega
     have M:Hid (l.take a=l):=QA (List.take_of_length_le (by omega));go_wp2;go_roundg (ls.length-(j+1))
     case measure=>rw[X.out];omega
     case rel=>exact⟨j+1,_,by omega,rfl,by simp,rfl,by rw[L.out,List.foldl_append,← U.out,J.out,M.out],rfl⟩
  ·have G:(ls.length:Int)≤(j:Int):=by omega
   have M:Hid (ls.take j=ls):=QA (List.take_of_length_le (by omega));go_wp2;go_ret;exact⟨by rw[U.out,M.out];rfl,E⟩
namespace Fr
def st (n:Nat):Nat:=(n / 2) ^^^ (if n % 2=1 then 2197175160 else 0)
def its:Nat→Nat→Nat
 | 0,n=>n
 | k+1,n=>st (its k n)
theorem st_lt {n:Nat} (h:n<4294967296):st n<4294967296:=by
 unfold st;exact Nat.xor_lt_two_pow (n:=32) (by omega) (by split<;>omega)
theorem D8 {n:Nat} (h:n<4294967296):∀k,its k n<4294967296
 | 0=>h
 | k+1=>st_lt (D8 h k)
theorem Jl {n:Nat} (h:n<4294967296):stp (n:Int)=(st n:Nat):=by
 unfold stp st;have e:bits .and .u32 (n:Int) 1=((n % 2:Nat):Int):=by
  rw[show (1:Int)=((1:Nat):Int) from rfl,u32_and_nat n 1 h (by omega),nat_mask1]
 rw[e];have o:((n % 2:Nat):Int)*2197175160 % 4294967296=(((if n % 2=1 then 2197175160 else 0:Nat)):Int):=by
  split<;>omega
 rw[o,show (n:Int) / 2=((n / 2:Nat):Int) by omega,u32_xor_nat _ _ (by omega) (by split<;>omega)]
theorem FV {n:Nat} (h:n<4294967296):∀k,iter k (n:Int)=(its k n:Nat)
 | 0=>rfl
 | k+1=>by rw[iter,FV h k,Jl (D8 h k)];rfl
theorem Jj (a b:Nat):st (a ^^^ b)=st a ^^^ st b:=by
 unfold st;rw[Nat.xor_div_two];have o:=Nat.mod_two_eq_zero_or_one a;have hb:=Nat.mod_two_eq_zero_or_one b;have A:(if (a ^^^ b) % 2=1 then (2197175160:Nat) else 0)=(if a % 2=1 then 2197175160 else 0) ^^^ (if b % 2=1 then 2197175160 else 0):=by
  by_cases h:(a ^^^ b) % 2=1
  ·rw[if_pos h];rw[Nat.xor_mod_two_eq_one]at h;rcases o with h1|h1<;>rcases hb with h2|h2<;>rw[h1,h2]at h ⊢<;>simp at h ⊢
  ·rw[if_neg h];rw[Nat.xor_mod_two_eq_one]at h;rcases o with h1|h1<;>rcases hb with h2|h2<;>rw[h1,h2]at h ⊢<;>simp at h ⊢
 rw[A,Nat.xor_assoc,Nat.xor_assoc]
 congr 1
 rw[← Nat.xor_assoc,← Nat.xor_assoc,Nat.xor_comm (b / 2)]
theorem GY:∀(k a b:Nat),its k (a ^^^ b)=its k a ^^^ its k b
 | 0,_,_=>rfl
 | k+1,a,b=>by rw[its,GY k a b,Jj];rfl
theorem Ji (n:Nat):st (2*n)=n:=by
 unfold st;rw[if_neg (by omega),Nat.xor_zero];omega
theorem Gb:∀(k n:Nat),its k (2 ^ k*n)=n
 | 0,n=>by show 2 ^ 0*n=n;omega
 | k+1,n=>by rw[its,show 2 ^ (k+1)*n=2 ^ k*(2*n) by rw[Nat.pow_succ,Nat.mul_assoc],Gb k (2*n),Ji]
theorem JX (c:Nat):c=256*(c / 256) ^^^ (c % 256):=by
 have h:256*(c / 256) ||| (c % 256)=c:=by rw[nat_join 8 (256*(c / 256)) (c % 256) (by omega) (by omega)];omega
 apply Nat.eq_of_testBit_eq;intro i;have e:=congrArg (λz=>Nat.testBit z i) h;simp only[Nat.testBit_or]at e;rw[Nat.testBit_xor,← e];by_cases hi:i<8
 ·have:Nat.testBit (256*(c / 256)) i=false:=by
   rw[show (256:Nat)=2 ^ 8 from rfl,Nat.testBit_two_pow_mul];simp;omega
  rw[this];simp
 ·have:Nat.testBit (c % 256) i=false:=by
   rw[show (256:Nat)=2 ^ 8 from rfl,Nat.testBit_mod_two_pow];simp;omega
  rw[this];simp
theorem JZ {c:Nat} (hc:c<4294967296) (x:UInt8):upd (c:Int) x=(its 8 (c ^^^ x.toNat):Nat):=by
 have o:x.toNat<256:=x.toNat_lt;unfold upd ent;rw[show (c:Int) % 256=((c % 256:Nat):Int) by omega,u8_xor_nat _ _ (by omega) o,FV (Nat.lt_trans (Nat.xor_lt_two_pow (n:=8) (by omega) o) (by omega)),show (c:Int) / 256=((c / 256:Nat):Int) by omega,u32_xor_nat _ _ (by omega) (D8 (Nat.lt_trans (Nat.xor_lt_two_pow (n:=8) (by omega) o) (by omega)) 8)]
 congr 1
 have e:c ^^^ x.toNat=(2 ^ 8*(c / 256)) ^^^ ((c % 256) ^^^ x.toNat):=by
  rw[← Nat.xor_assoc]
  congr 1
  exact JX c
 rw[e,GY 8 (2 ^ 8*(c / 256)),Gb 8 (c / 256)]
def refC (l:List UInt8):Nat:=l.foldl (λc x=>its 8 (c ^^^ x.toNat)) 4294967295
theorem xor_byte {c:Nat} (h:c<4294967296) (x:UInt8):c ^^^ x.toNat<4294967296:=Nat.xor_lt_two_pow (n:=32) h (by have:=x.toNat_lt;omega)
theorem Ga:∀(l:List UInt8) (c:Nat),c<4294967296→l.foldl (λc x=>its 8 (c ^^^ x.toNat)) c<4294967296
 | [],c,h=>h
 | x::r,c,h=>by rw[List.foldl_cons];exact Ga r _ (D8 (xor_byte h x) 8)
theorem Fo:∀(l:List UInt8) (c:Nat),c<4294967296→l.foldl upd (c:Int)=((l.foldl (λc x=>its 8 (c ^^^ x.toNat)) c:Nat):Int)
 | [],c,_=>rfl
 | x::r,c,h=>by rw[List.foldl_cons,List.foldl_cons,JZ h,Fo r _ (D8 (xor_byte h x) 8)]
theorem Iz (l:List UInt8):refC l<4294967296:=Ga l _ (by decide)
theorem sum_ref (l:List UInt8):sum l=((refC l ^^^ 4294967295:Nat):Int):=by
 unfold sum;have h:=Fo l 4294967295 (by decide);rw[show ((4294967295:Nat):Int)=4294967295 from rfl]at h;rw[h,show (4294967295:Int)=((4294967295:Nat):Int) from rfl];have e:=u32_xor_nat 4294967295 (refC l) (by decide) (Iz l);rw[Nat.xor_comm]at e;exact e
end Fr
open Go.Maps Go.WideMaps
namespace Fr
def byte (n:Int):UInt8:=UInt8.ofNat (n % 256).toNat
theorem byte_val (n:Int):((byte n).toNat:Int)=n % 256:=by
 unfold byte;rw[UInt8.toNat_ofNat_of_lt' (by show _<256;omega)];omega
def four (n:Int):List UInt8:=[byte n,byte (n / 256),byte (n / 65536),byte (n / 16777216)]
def num (l:List UInt8):Nat:=(l.getD 0 0).toNat+256*(l.getD 1 0).toNat+65536*(l.getD 2 0).toNat+16777216*(l.getD 3 0).toNat
theorem num_four (n:Int) (h0:0≤n) (h1:n<4294967296) (r:List UInt8):(num (four n++r):Int)=n:=by
 have A:=byte_val n;have C:=byte_val (n / 256);have o:=byte_val (n / 65536);have B:=byte_val (n / 16777216);unfold num four;simp only[List.cons_append,List.getD_cons_zero,List.getD_cons_succ];omega
end Fr
theorem Jh (k a b:Nat) (hk:k≤32) (ha:a<2 ^ k) (hb:2 ^ k*b<4294967296):bits .or .u32 (a:Int) ((2 ^ k*b:Nat):Int)=((a+2 ^ k*b:Nat):Int):=by
 have o:2 ^ k≤2 ^ 32:=Nat.pow_le_pow_right (by omega) hk;rw[u32_or_nat a _ (by omega) hb,Nat.or_comm,← Nat.two_pow_add_eq_or_of_lt ha,Nat.add_comm]
theorem Au.byts {w:World} {base:Nat} {v:Value} {l:List UInt8} (h:Au w base v l):Al w v l:=by
 have o:=λg hg=>World.ownsRow.cells (g:=g) h hg
 rcases h.2 with⟨h1,h2⟩|⟨g,cap,cur,h1,hg,hb,hc,hm,_,_⟩
 ·exact⟨none,0,by rw[h1,h2],by omega,λ_=>rfl,λi x hx=>by
   have:=(List.getElem?_eq_some_iff.1 hx).1;omega⟩
 ·refine⟨some ⟨g,0,none⟩,cap,h1,hc,(λe=>by cases e),λi x hx=>⟨g,0,rfl,AE hb,?_⟩⟩;have:=o g (by rw[h1];rfl) i (.int .u8 x.toNat) (by simp[AR,hx]);rw[addr_add]at this;rw[Nat.zero_add];exact this
theorem BJ {ops:Array Oper} {rest:List Oper} {o:Oper} {a:Act} {w:World} {Q:Exit→Act→World→Prop} (hgd:o.guard=none) (s x:Operand)
  (ho:o.op=.call { callee:=.builtin .append,args:=#[s,x],argTypes:=#[38,38] })
  (base:Nat) (v:Value) (l:List UInt8) (hs:a.eval s=v) (hown:Au w base v l) (xv:Value) (news:List UInt8) (hx:a.eval x=xv) (hB:Al w xv news)
  (h63:l.length+news.length≤1000000000) (hbase:base≤w.heap.size)
  (h:∀v' w',Au w' base v' (l++news)→w.grownBy w' v.ownBlock→(v'.ownBlock=v.ownBlock∨v'.ownBlock=some w.heap.size)→wpList Tryz.prog ops Q rest (a.put o.dst v') w') :
  wpList Tryz.prog ops Q (o::rest) a w:=by
 obtain⟨G,H,E,D,F⟩:=info_parts EC;obtain⟨M,L,rfl,I,C⟩:=hB.form2;have A:AR (l++news)=AR l++AR news:=by simp[AR]
 cases M with
 | none =>
  have h0:news.length=0:=by have:=C rfl;omega
  have B:=List.length_eq_zero_iff.1 h0;subst B;rw[C rfl]at hx;refine wpList_append_own_none hgd s x _ ho base 5 G 1 Tryz.underlying38 H v _ _ hs hown hx ?_;exact h v w (by rw[List.append_nil];exact hown) ⟨rfl,rfl,rfl,QM _,λ_ _ _=>rfl⟩ (.inl rfl)
 | some ad =>
  refine wpList_append_own_at w hgd s x _ ho base 5 G (.int .u8 0) 1 1 Tryz.underlying38 H E D F rfl (by decide) v l.length (AR l) hs hown ad news.length L (AR news) hx (by rw[BL];omega) ?_ (BK news) (by unfold maxLen;omega) (by omega) hbase ?_
  ·intro j u hj;unfold AR at hj;rw[List.getElem?_map]at hj;cases hx2:news[j]? with
   | none=>rw[hx2]at hj;cases hj
   | some y =>
    rw[hx2]at hj;simp at hj;obtain⟨b,K,N,O,J⟩:=hB.at hx2;cases N;rw[Bd,← hj];exact J
  ·intro v' w' h1 h2 _ h4;exact h v' w' (by unfold Au;rw[QS,A];exact h1) h2 h4
theorem FZ (n:Int) (w:World) :
  Calls Tryz.prog 96 #[.int .u32 n] w λe w'=>∃v,e=.returned v∧Au w' w.heap.size v (Fr.four n)∧Below w.heap.size w w':=by
 go_enter Tryz.func96,Tryz.ntmps96;go_wp2;go_ret;refine⟨_,rfl,?_,(Below.refl _ _).alloc (QM _) _⟩;have h:=World.ownsRow_lit (base:=w.heap.size) (e:=5) (size:=1) w #[.int .u8 (n % 256),.int .u8 (n / 256 % 256),.int .u8 (n / 65536 % 256),.int .u8 (n / 16777216 % 256)] 4 (QM _) (by unfold maxLen;omega) rfl;have o:AR (Fr.four n)=[.int .u8 (n % 256),.int .u8 (n / 256 % 256),.int .u8 (n / 65536 % 256),.int .u8 (n / 16777216 % 256)]:=by
  simp[AR,Fr.four,Fr.byte_val]
 unfold Au;rw[o];exact h
theorem EG (v:Value) (l:List UInt8) (w:World) (hV:Al w v l) (hl:4≤l.length) (hl2:l.length≤1000000000) :
  Calls Tryz.prog 103 #[v] w λe w'=>e=.returned (.int .u32 (Fr.num l))∧∃n,w'=w.drewN n:=by
 obtain⟨L,P,rfl,K⟩:=hV.form;obtain⟨H,h0⟩:∃x,l[0]?=some x:=⟨_,ZG (by omega)⟩
 obtain⟨B,F⟩:∃x,l[1]?=some x:=⟨_,ZG (by omega)⟩
 obtain⟨C,E⟩:∃x,l[2]?=some x:=⟨_,ZG (by omega)⟩
 obtain⟨D,G⟩:∃x,l[3]?=some x:=⟨_,ZG (by omega)⟩
 obtain⟨g,o,rfl,hg,c0⟩:=hV.at h0;obtain⟨_,_,A,_,c1⟩:=hV.at F;cases A;obtain⟨_,_,A,_,O⟩:=hV.at E;cases A;obtain⟨_,_,A,_,R⟩:=hV.at G;cases A;have I:Hid (Fr.num l=H.toNat+256*B.toNat+65536*C.toNat+16777216*D.toNat):=by
  refine QA ?_;unfold Fr.num;simp only[List.getD_eq_getElem?_getD,h0,F,E,G,Option.getD_some]
 have b0:H.toNat<256:=UInt8.toNat_lt _;have N:B.toNat<256:=UInt8.toNat_lt _;have Q:C.toNat<256:=UInt8.toNat_lt _;have M:D.toNat<256:=UInt8.toNat_lt _;clear h0 F E G hV;rw[Nat.add_zero]at c0;have J:(4:Int)≤(l.length:Int):=by omega
 go_enter Tryz.func103,Tryz.ntmps103;go_wp2_with fail;refine AO [] (by kernel_rfl) (by kernel_rfl) ?_;simp only[Ap,List.take_succ_cons,List.take_zero,List.drop_succ_cons,List.drop_zero,Nat.sub_zero,Nat.reduceSub,Nat.reduceAdd]
 repeat (go_big_quiet_step (fail))
 refine wpQuiet_nil ?_;rintro _ ⟨nq,rfl⟩;go_wp2_with fail;go_ret;refine⟨congrArg (λx=>Ending.returned (.int .u32 x)) ?_,nq,rfl⟩;rw[I.out,show (B.toNat:Int)*256=((2 ^ 8*B.toNat:Nat):Int) by omega,Jh 8 _ _ (by omega) (by omega) (by omega),show (C.toNat:Int)*65536=((2 ^ 16*C.toNat:Nat):Int) by omega,Jh 16 _ _ (by omega) (by omega) (by omega),show (D.toNat:Int)*16777216=((2 ^ 24*D.toNat:Nat):Int) by omega,Jh 24 _ _ (by omega) (by omega) (by omega)]
open Go.Maps Go.WideMaps
def DG:Go.Shelf.Ren:=⟨fun|4=>111|n=>n,fun|0=>0|3=>3|4=>4|9=>9|20=>20|22=>38|25=>5|n=>n,fun|n=>n⟩
theorem EA:Go.Proofs.Lays8.n4 Tryz.prog DG:={
 mixed:=by kernel_rfl
 f4:=⟨Tryz.f111.name,by decide,Tryz.func111.trans (congrArg some (by kernel_rfl))⟩
 t0:=Tryz.underlying0
 a0:=Tryz.isAgg0
 z0:=Tryz.sizeOf0
 v0:=Tryz.zeroValue0
 t3:=Tryz.underlying3
 a3:=Tryz.isAgg3
 z3:=Tryz.sizeOf3
 v3:=Tryz.zeroValue3
 t4:=Tryz.underlying4
 a4:=Tryz.isAgg4
 z4:=Tryz.sizeOf4
 v4:=Tryz.zeroValue4
 t9:=Tryz.underlying9
 a9:=Tryz.isAgg9
 z9:=Tryz.sizeOf9
 v9:=Tryz.zeroValue9
 t20:=Tryz.underlying20
 a20:=Tryz.isAgg20
 z20:=Tryz.sizeOf20
 v20:=Tryz.zeroValue20
 t22:=Tryz.underlying38
 a22:=Tryz.isAgg38
 z22:=Tryz.sizeOf38
 v22:=Tryz.zeroValue38 }
theorem IX (n:Nat) (w:World) (hn:n≤1000000000) :
  Calls Tryz.prog 111 #[.slice none 0 0,.int .i64 n] w λe w'=>∃v,e=.returned v∧Au w' w.heap.size v []∧Below w.heap.size w w':=by
 obtain⟨F,E,C,A,D⟩:=info_parts EC;by_cases h0:n=0
 ·subst h0;refine (Any8.slices_Grow_room EA none 0 0 0 w (by omega) (by omega) (by omega) (by omega)).mono ?_;rintro e w' ⟨rfl,rfl⟩;exact⟨_,rfl,World.ownsRow_nil _ _ _ _,Below.refl _ _⟩
 ·refine (Any8.slices_Grow_grow EA F (.int .u8 0) E C (by rw[A];omega) none 0 0 n [] w (by omega) (by omega) (by rw[D];omega) (by omega) (by simp) (λ_=>rfl) (λa h=>by cases h)).mono ?_;rintro e w' ⟨rfl,rfl⟩;refine⟨_,rfl,?_,⟨rfl,rfl,rfl,by simp,λk hk=>Below.heap_alloc w.drew _ _ hk⟩⟩;have o:=grownCap_le_maxLen w (0+n) 0 (DG.t 25) (by unfold maxLen;omega);have B:=grownCap_ge w (0+n) 0 (DG.t 25);refine⟨rfl,.inr ⟨w.heap.size,_,_,rfl,QM _,AH w.drew _,ZS _,o,?_,?_⟩⟩
  ·rw[Nat.zero_add]at B;simp[Builtin.zeroCells,Value.cells];omega
  ·rfl
theorem below_grown {w wr w5:World} {base k n:Nat} {t:TypeId} {v:Value} {cs:List Value} (hb:Below base w wr) (hbase:base≤wr.heap.size) (ho:wr.ownsRow base t k v n cs) (hg:wr.grownBy w5 v.ownBlock):Below base w w5:=by
 refine⟨hg.os.trans hb.os,hg.tape.trans hb.tape,hg.output.trans hb.output,QQ hb.size hg.size,λj hj=>?_⟩;rw[← hb.block j hj];exact hg.block j (by omega) (λe=>by
  have:=(ho.lt j e.symm).1;omega)
theorem D7 (v:Value) (ls:List (List UInt8)) (w:World) (hV:CM w v ls) (hl:ls.length≤1000000000) (hs:ls.flatten.length≤1000000000) :
  Calls Tryz.prog 95 #[v] w λe w'=>∃v',e=.returned v'∧Au w' w.heap.size v' ls.flatten∧Below w.heap.size w w':=by
 obtain⟨i0,hi,an,ad,al⟩:=info_parts EC;obtain⟨va,vc,rfl⟩:=hV.form;have HV:=QA hV;clear hV;go_enter Tryz.func95,Tryz.ntmps95;go_wp2_with fail
 go_loopg [3,11] ls.length (λk s3 s11 wr=>∃j:Nat,j≤ls.length∧k=ls.length-j∧s11=.int .i64 (j:Nat)∧(∃M:Nat,s3=.int .i64 (M:Nat)∧M=(ls.take j).flatten.length)∧wr=w)
 case atStart=>exact⟨0,ZS _,rfl,rfl,⟨0,rfl,rfl⟩,rfl⟩
 case round =>
  obtain⟨j,hj,L,rfl,⟨M,rfl,hM⟩,am⟩:=hrel;subst wr;have HK:=QA L;have R:=QA hM;clear L hM;have ak:(0:Int)≤(j:Int):=Int.natCast_nonneg _;by_cases hjn:j<ls.length
  ·have I:(j:Int)<(ls.length:Int):=by omega
   obtain⟨l,E⟩:∃l,ls[j]?=some l:=⟨_,ZG hjn⟩
   obtain⟨g,o,U,rfl,hg,F,N⟩:=HV.out.at E;obtain⟨la,lc,rfl,_⟩:=N.form;have J:(ls.take (j+1)).flatten.length=(ls.take j).flatten.length+l.length:=by rw[CR ls j l E,QS]
   have C:(ls.take (j+1)).flatten.length≤ls.flatten.length:=by
    have:=congrArg (λx:List (List UInt8)=>x.flatten.length) (List.take_append_drop (j+1) ls);simp only[List.flatten_append,QS]at this;omega
   have V:(0:Int)≤(M:Int):=Int.natCast_nonneg _;have ab:(M:Int)+(l.length:Int)≤1000000000:=by rw[R.out];omega
   have S:(0:Int)≤(M:Int)+(l.length:Int):=by omega
   have B:=QA J;clear J C E;go_wp2_with fail;go_roundg (ls.length-(j+1))
   case measure=>rw[HK.out];omega
   case rel=>exact⟨j+1,by omega,rfl,by simp,⟨M+l.length,by simp,by rw[B.out,R.out]⟩,rfl⟩
  ·have I:(ls.length:Int)≤(j:Int):=by omega
   have HE:Hid (ls.take j=ls):=QA (List.take_of_length_le (by omega));have Y:M≤1000000000:=by rw[R.out,HE.out];exact hs
   go_wp2_with fail;refine (IX M w Y).mono ?_;rintro e w1 ⟨v1,rfl,ho1,hb1⟩;have P:=QA ho1;clear ho1;go_wp2_with fail
   go_loopg [6,27] ls.length (λk s6 s27 wq=>∃i:Nat,i≤ls.length∧k=ls.length-i∧s27=.int .i64 (i:Nat)∧Au wq w.heap.size s6 (ls.take i).flatten∧Below w.heap.size w wq)
   case atStart=>exact⟨0,ZS _,rfl,rfl,P.out,hb1⟩
   case round =>
    obtain⟨i,ah,L,rfl,K,A⟩:=hrel;have Z:=QA L;clear L;have af:(0:Int)≤(i:Int):=Int.natCast_nonneg _;by_cases hin:i<ls.length
    ·have H:(i:Int)<(ls.length:Int):=by omega
     obtain⟨l,D⟩:∃l,ls[i]?=some l:=⟨_,ZG hin⟩
     obtain⟨g,o,U,rfl,hg,F,N⟩:=HV.out.at D;have ac:wr.cell? ⟨g,o+i,none⟩=some U:=by rw[World.cell?_of_block (A.block g hg)];exact F
     have HB:=QA (N.keep A.size A.block);have B:=QA (CR ls i l D);have C:(ls.take i).flatten.length+l.length≤1000000000:=by
      have h1:=congrArg (λx:List (List UInt8)=>x.flatten.length) (List.take_append_drop (i+1) ls);simp only[List.flatten_append,QS,B.out]at h1;omega
     have X:=QA C;have O:=QA K;have Q:=A.size;clear N C K F D;go_wp2_with (first|(at_builtin;refine BJ rfl _ _ rfl w.heap.size u6 _ rfl O.out U l rfl HB.out X.out Q ?_;intro d' w5 hown5 hgrow5 hloc5;have G:=QA hown5;have T:=QA hgrow5;clear hown5 hgrow5 hloc5)|fail);go_roundg (ls.length-(i+1))
     case measure=>rw[Z.out];omega
     case rel=>exact⟨i+1,by omega,rfl,by simp,by rw[B.out];exact G.out,below_grown A A.size O.out T.out⟩
    ·have H:(ls.length:Int)≤(i:Int):=by omega
     have W:Hid (ls.take i=ls):=QA (List.take_of_length_le (by omega));rw[W.out]at K;have O:=QA K;clear K;go_wp2_with fail;go_ret;exact⟨_,rfl,O.out,A⟩
open Go.Maps Go.WideMaps
namespace Fr
def inner (k:Int) (p:List UInt8):List UInt8:=byte k::p
def bytes (k:Int) (p:List UInt8):List UInt8:=four p.length++(inner k p++four (sum (inner k p)))
def encE (k:Int) (p:List UInt8):Int:=if k<1∨9<k then 1 else if 8192<p.length then 5 else 0
theorem Ht (n:Int):(four n).length=4:=rfl
theorem bytes_len (k:Int) (p:List UInt8):(bytes k p).length=p.length+9:=by
 unfold bytes inner;simp[Ht];omega
end Fr
theorem Au.keep {w w':World} {base:Nat} {v:Value} {l:List UInt8} (h:Au w base v l) (hb:Below w.heap.size w w'):Au w' base v l :=
 AQ h (λg hg=>hb.block g (h.lt g hg).2)
theorem Au.form3 {w:World} {base:Nat} {v:Value} {l:List UInt8} (h:Au w base v l):∃a n c,v=.slice a n c∧Hid (n=l.length):=by
 obtain⟨a,c,e⟩:=BV h;exact⟨a,_,c,e,QA rfl⟩
theorem En {w:World} {v:Value} {l:List UInt8} (t:TypeId) (h:Al w v l):CM (w.alloc (.cells #[v] t)) (.slice (some ⟨w.heap.size,0,none⟩) 1 1) [l]:=by
 refine⟨_,_,rfl,QM _,λi x hi=>⟨w.heap.size,0,v,rfl,by simp,?_,?_⟩⟩
 ·have h0:i=0:=by have:=(List.getElem?_eq_some_iff.1 hi).1;simpa using this
  subst h0;exact A4 w #[v] t 0 v rfl
 ·have h0:i=0:=by have:=(List.getElem?_eq_some_iff.1 hi).1;simpa using this
  subst h0;simp at hi;subst hi;exact h.below ((Below.refl _ _).alloc (QM _) _)
theorem HH {w:World} {v0 v1 v2:Value} {l0 l1 l2:List UInt8} (t:TypeId) (h0:Al w v0 l0) (h1:Al w v1 l1) (h2:Al w v2 l2):CM (w.alloc (.cells #[v0,v1,v2] t)) (.slice (some ⟨w.heap.size,0,none⟩) 3 3) [l0,l1,l2]:=by
 have hb:Below w.heap.size w (w.alloc (.cells #[v0,v1,v2] t)):=(Below.refl _ _).alloc (QM _) _;refine⟨_,_,rfl,QM _,λi x hi=>?_⟩;have o:i<3:=by have:=(List.getElem?_eq_some_iff.1 hi).1;simpa using this
 match i,o,hi with
 | 0,_,hi =>
  simp at hi;subst hi;exact⟨w.heap.size,0,v0,rfl,by simp,A4 w _ t 0 v0 rfl,h0.below hb⟩
 | 1,_,hi =>
  simp at hi;subst hi;exact⟨w.heap.size,0,v1,rfl,by simp,A4 w _ t 1 v1 rfl,h1.below hb⟩
 | 2,_,hi =>
  simp at hi;subst hi;exact⟨w.heap.size,0,v2,rfl,by simp,A4 w _ t 2 v2 rfl,h2.below hb⟩
 | n+3,h,_=>omega
def JA (k:Int) (p:List UInt8) (w:World) (e:Ending) (w':World):Prop :=
 Below w.heap.size w w'∧((Fr.encE k p=0∧∃v,e=.returned (.tuple #[v,.int .i64 0])∧Au w' w.heap.size v (Fr.bytes k p)) ∨
  (Fr.encE k p≠0∧e=.returned (.tuple #[.slice none 0 0,.int .i64 (Fr.encE k p)])))
theorem GP (k:Int) (v:Value) (ls:List (List UInt8)) (w:World) (hV:CM w v ls) (hl:ls.length≤1000000000) (hs:∀l∈ls,l.length≤1000000000) :
  Calls Tryz.prog 77 #[.int .i64 k,v] w (JA k ls.flatten w):=by
 obtain⟨va,vc,rfl⟩:=hV.form;have HV:=QA hV;clear hV;by_cases T:k<1∨9<k
 ·have F:Hid (Fr.encE k ls.flatten=1):=by unfold Fr.encE;rw[if_pos T];exact QA rfl
  rcases T with h|h
  ·go_enter Tryz.func77,Tryz.ntmps77;go_wp2_with fail;refine bodyPost_ret (v:=.tuple #[.slice none 0 0,.int .i64 1]) (by simp[results,Tryz.results77,go_sem]) rfl ?_;exact⟨Below.refl _ _,.inr ⟨by rw[F.out];decide,by rw[F.out]⟩⟩
  ·have h2:1≤k:=by omega
   go_enter Tryz.func77,Tryz.ntmps77;go_wp2_with fail;refine bodyPost_ret (v:=.tuple #[.slice none 0 0,.int .i64 1]) (by simp[results,Tryz.results77,go_sem]) rfl ?_;exact⟨Below.refl _ _,.inr ⟨by rw[F.out];decide,by rw[F.out]⟩⟩
 ·have a2:1≤k:=by omega
  have a1:k≤9:=by omega
  have ag:=QA T;clear T;go_enter Tryz.func77,Tryz.ntmps77;go_wp2_with fail
  go_loopg [6,18] ls.length (λk s6 s18 wr=>∃j:Nat,j≤ls.length∧k=ls.length-j∧s18=.int .i64 (j:Nat)∧(∃M:Nat,s6=.int .i64 (M:Nat)∧M=(ls.take j).flatten.length∧M≤8192)∧wr=w)
  case atStart=>exact⟨0,ZS _,rfl,rfl,⟨0,rfl,rfl,by omega⟩,rfl⟩
  case round =>
   obtain⟨j,hj,T,rfl,⟨M,rfl,hM,aO⟩,aZ⟩:=hrel;subst wr;have HK:=QA T;have HM:=QA hM;clear T hM;have a3:(0:Int)≤(j:Int):=Int.natCast_nonneg _;have aN:(0:Int)≤(M:Int):=Int.natCast_nonneg _;by_cases hjn:j<ls.length
   ·have Y:(j:Int)<(ls.length:Int):=by omega
    obtain⟨l,E⟩:∃l,ls[j]?=some l:=⟨_,ZG hjn⟩
    have aQ:=hs l (QZ E);obtain⟨g,o,lv,rfl,hg,aV,hB⟩:=HV.out.at E;obtain⟨la,lc,rfl,_⟩:=hB.form;have Z:Hid ((ls.take (j+1)).flatten.length=(ls.take j).flatten.length+l.length):=by rw[CR ls j l E,QS];exact QA rfl
    have X:(ls.take (j+1)).flatten.length≤ls.flatten.length:=by
     have:=congrArg (λx:List (List UInt8)=>x.flatten.length) (List.take_append_drop (j+1) ls);simp only[List.flatten_append,QS]at this;omega
    have aB:=QA X;clear X E;by_cases hlong:8192<M+l.length
    ·have h2:8192-(M:Int)<(l.length:Int):=by omega
     have F:Hid (Fr.encE k ls.flatten=5):=by
      unfold Fr.encE;have h1:=HM.out;have h2:=Z.out;have h3:=aB.out;rw[if_neg ag.out,if_pos (by omega)];exact QA rfl
     clear hlong;go_wp2_with fail;refine bodyPost_ret (v:=.tuple #[.slice none 0 0,.int .i64 5]) (by simp[results,Tryz.results77,go_sem]) rfl ?_;exact⟨Below.refl _ _,.inr ⟨by rw[F.out];decide,by rw[F.out]⟩⟩
    ·have h2:(l.length:Int)≤8192-(M:Int):=by omega
     have h3:(M:Int)+(l.length:Int)≤8192:=by omega
     go_wp2_with fail;go_roundg (ls.length-(j+1))
     case measure=>rw[HK.out];omega
     case rel=>exact⟨j+1,by omega,rfl,by simp,⟨M+l.length,by simp,by rw[Z.out,HM.out],by omega⟩,rfl⟩
   ·have Y:(ls.length:Int)≤(j:Int):=by omega
    have aq:Hid (ls.take j=ls):=QA (List.take_of_length_le (by omega));have B:Hid (M=ls.flatten.length):=by rw[← aq.out];exact HM
    have F:Hid (Fr.encE k ls.flatten=0):=by
     unfold Fr.encE;have h1:=B.out;rw[if_neg ag.out,if_neg (by omega)];exact QA rfl
    have P:Below w.heap.size w (w.alloc (.cells #[.int .u8 k] 5)):=(Below.refl _ _).alloc (QM _) _;have ae:Au (w.alloc (.cells #[.int .u8 k] 5)) w.heap.size (.slice (some ⟨w.heap.size,0,none⟩) 1 1) [Fr.byte k]:=by
     have h:=World.ownsRow_lit (base:=w.heap.size) (e:=5) (size:=1) w #[.int .u8 k] 1 (QM _) (by unfold maxLen;omega) rfl;have hc:AR [Fr.byte k]=[.int .u8 k]:=by
      have:=Fr.byte_val k;simp[AR,this];omega
     unfold Au;rw[hc];exact h
    have ap:=QA ae;have ac:ls.flatten.length≤1000000000:=by have:=B.out;omega
    have av:=QA ac;clear ae ac;go_wp2_with fail;refine (D7 _ ls _ (HV.out.below P) hl av.out).mono ?_;rintro e w1 ⟨v1,rfl,ho1,hb1⟩;have aE:=QA ho1;have L:=QA (ap.out.keep hb1);have D:=P.trans (hb1.mono P.size);have ab:=QA D;have V:=D.size;have HS:Hid ([Fr.byte k].length+ls.flatten.length≤1000000000):=QA (by have:=B.out;simp only[List.length_singleton];omega);clear ho1 D;go_wp2_with (first|(at_builtin;refine BJ rfl _ _ rfl w.heap.size (.slice (some ⟨w.heap.size,0,none⟩) 1 1) _ rfl L.out v1 ls.flatten rfl aE.out.byts HS.out V ?_;intro d' w5 hown5 hgrow5 hloc5;have H:=QA hown5;have ay:=QA hgrow5;clear hown5 hgrow5 hloc5)|fail);obtain⟨U,R,S,aI,a0⟩:=Au.form3 H.out;subst aI;have N:=QA (below_grown ab.out V L.out ay.out);have az:Hid (Au w5 w.heap.size (.slice U R S) (Fr.inner k ls.flatten)):=H;have aK:=N.out.size;refine (FZ M w5).mono ?_;rintro e w6 ⟨v2,rfl,ho2,hb2⟩;obtain⟨aC,aD,aA,aG,aT⟩:=Au.form3 ho2;subst aG;have am:=QA ho2;have ah:=QA (az.out.keep hb2);have I:=QA (N.out.trans (hb2.mono aK));have aJ:=I.out.size;have aU:=QA hb2;clear ho2 hb2;have Q:Below w6.heap.size w6 (w6.alloc (.cells #[.slice U R S] 38)):=(Below.refl _ _).alloc (QM _) _;have ar:=QA (En 38 ah.out.byts);have ai:(Fr.inner k ls.flatten).length≤1000000000:=by
     have:=B.out;unfold Fr.inner;simp only[List.length_cons];omega
    have ao:=QA ai;clear ai;go_wp2_with fail;refine (GU _ [Fr.inner k ls.flatten] _ ar.out (by simp) (by simpa using ao.out)).mono ?_;rintro e w7 ⟨rfl,hb7⟩;have C:=Q.trans (hb7.mono Q.size);have ad:=QA C;have aa:=C.size;clear C Q hb7;go_wp2_with fail;refine (FZ _ w7).mono ?_;rintro e w8 ⟨v3,rfl,ho3,hb8⟩;obtain⟨aL,aF,aH,au,aS⟩:=Au.form3 ho3;subst au;have aY:=QA ho3;have A:=QA (ad.out.trans (hb8.mono aa));have aw:=QA (HH 38 (am.out.keep A.out).byts (ah.out.keep A.out).byts ho3.byts);have af:=A.out.size;have J:Below w8.heap.size w8 (w8.alloc (.cells #[.slice aC aD aA,.slice U R S,.slice aL aF aH] 38)):=(Below.refl _ _).alloc (QM _) _;have W:=QA (A.out.trans (J.mono af));clear ho3 hb8 J;have K:[Fr.four M,Fr.inner k ls.flatten,Fr.four (Fr.sum (Fr.inner k ls.flatten))].flatten=Fr.bytes k ls.flatten:=by
     rw[B.out];simp[Fr.bytes]
    have O:=QA K;have G:(Fr.bytes k ls.flatten).length≤1000000000:=by
     have:=B.out;rw[Fr.bytes_len];omega
    have ak:=QA G;clear G K;go_wp2_with fail;refine (D7 _ [Fr.four M,Fr.inner k ls.flatten,Fr.four (Fr.sum (Fr.inner k ls.flatten))] _ aw.out (by simp) (by rw[O.out];exact ak.out)).mono ?_;rintro e w9 ⟨v4,rfl,ho4,hb9⟩;rw[O.out]at ho4;have an:=QA ho4;clear ho4;go_wp2_with fail;refine bodyPost_ret (v:=.tuple #[v4,.int .i64 0]) (by simp[results,Tryz.results77,go_sem]) rfl ?_;refine⟨?_,.inl ⟨F.out,v4,rfl,an.out.mono (by simp;omega)⟩⟩;have h1:=W.out;have h2:=h1.trans (hb9.mono h1.size);exact I.out.trans (h2.mono aJ)
end Go.Proofs.YtmlekglfdiacpaaGreatDoor
