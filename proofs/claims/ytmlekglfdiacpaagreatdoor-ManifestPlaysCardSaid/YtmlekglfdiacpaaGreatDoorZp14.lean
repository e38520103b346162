/-
  The file system: Crash, walked.
-/
import Derived.Test.YtmlekglfdiacpaaGreatDoorZp12
import Derived.Test.YtmlekglfdiacpaaGreatDoorZp13
import Derived.Test.YtmlekglfdiacpaaGreatDoorZp11
open Array renaming getInternal_eq_getElem → QD
open Go.Lib renaming hid → QA
open List renaming setIfInBounds_toArray → QC, drop_succ_cons → QE, take_succ_cons → QF, set_cons_succ → QG, set_cons_zero → QH, getElem_cons_zero → QI, getElem_cons_succ → QJ, getElem_toArray → QK, drop_zero → QL, take_zero → QN, mem_of_getElem? → QZ, getElem?_eq_getElem → ZG
open Nat renaming le_refl → QM
namespace Go.Proofs.YtmlekglfdiacpaaGreatDoor
set_option maxRecDepth 100000
set_option maxHeartbeats 4000000
set_option linter.unusedSimpArgs false
set_option linter.unusedVariables false
open Go Go.RowKit
open Go.Maps Go.WideMaps
theorem JD (md:Nat) (d l:Fs.Names) (v:Value) (w:World) (hM:Ah w md d) (hC:Cu w v l) (hne:∀b n c,v=.slice (some b) n c→b.block≠md) (hl:∀c∈l,c.1.length≤1000000∧c.2≤9223372036854775807)
  (hn:d.length+l.length≤1000000) :
  Calls Tryz.prog 72 #[.map (some md),v] w λe w'=>e=.returned (.tuple #[])∧Ah w' md (Fs.doAll d l)∧But (λk=>k=md) w w':=by
 obtain⟨g,cap,rfl,hg,I⟩:=hC;have E:g≠md:=hne _ _ _ rfl;go_enter Tryz.func72,Tryz.ntmps72;go_wp2
 go_loopg [8] l.length (λk s8 wr=>∃j:Nat,j≤l.length∧k=l.length-j∧s8=.int .i64 (j:Nat)∧Ah wr md (Fs.doAll d (l.take j))∧But (λk=>k=md) w wr)
 case atStart=>exact⟨0,Nat.zero_le _,rfl,rfl,hM,But.refl _ _⟩
 case round =>
  obtain⟨j,X,N,rfl,o,F⟩:=hrel;have M:=QA N;clear N;have T:(0:Int)≤(j:Int):=Int.natCast_nonneg _;by_cases hjn:j<l.length
  ·have B:(j:Int)<(l.length:Int):=by omega
   obtain⟨p,H⟩:∃p,l[j]?=some p:=⟨_,ZG hjn⟩
   obtain⟨Q,P⟩:=I j p H;have c0:wr.cell? ⟨g,j*2,none⟩=some (.string ⟨p.1.toArray⟩):=by rw[F.cell hg E];exact Q
   have c1:wr.cell? ⟨g,j*2+1,none⟩=some (.int .i64 p.2):=by rw[F.cell hg E];exact P
   obtain⟨S,V⟩:=hl p (QZ H);have G:Hid (Fs.doAll d (l.take (j+1))=Fs.doOne (Fs.doAll d (l.take j)) p):=by
    unfold Fs.doAll;rw[List.take_add_one,H,List.foldl_append];exact QA rfl
   have O:(Fs.doAll d (l.take j)).length≤1000000:=by
    have:=Fs.doAll_len (l.take j) d;rw[List.length_take]at this;omega
   have A:=keyOf_string_mk Tryz.underlying9 (s:=⟨p.1.toArray⟩) (show p.1.length≤maxLen by unfold maxLen;omega);have C:=QA (World.ownsMap.alloc o (.cells #[.string ⟨p.1.toArray⟩,.int .i64 p.2] 116));have D:=QA (F.alloc (.cells #[.string ⟨p.1.toArray⟩,.int .i64 p.2] 116));clear Q P H o F;by_cases hneg:p.2<0
   ·have L:Hid (Fs.doOne (Fs.doAll d (l.take j)) p=Fs.mdel (Fs.doAll d (l.take j)) p.1):=by unfold Fs.doOne;rw[if_pos hneg];exact QA rfl
    go_wp2_with (first|(at_delete;refine wpList_delete_own _ rfl _ _ 66 9 rfl 3 Af Tryz.underlying66 _ md _ _ rfl C.out _ _ rfl A ?_;intro w3 hown3 hturn3)|fail);go_roundg (l.length-(j+1))
    case measure=>rw[M.out];omega
    case rel =>
     refine⟨j+1,hjn,rfl,by simp,?_,D.out.grown hturn3.grown (λk h=>by simpa using h.symm)⟩;rw[G.out,L.out];rw[Fs.datum_del]at hown3;exact Ah.of hown3
   ·have J:0≤p.2:=by omega
    have W:Hid ((Lit.int .i64 p.2).wf=true):=by
     refine QA ?_;have R:IntKind.i64.min=-9223372036854775808:=by decide
     have U:IntKind.i64.max=9223372036854775807:=by decide
     simp[Lit.wf,R,U];omega
    have L:Hid (Fs.doOne (Fs.doAll d (l.take j)) p=Fs.mput (Fs.doAll d (l.take j)) p.1 p.2):=by unfold Fs.doOne;rw[if_neg hneg];exact QA rfl
    go_wp2_with (first|(at_mapUpdate;refine wpList_mapUpdate_own _ rfl _ _ _ 66 rfl 9 3 Af Tryz.underlying66 _ md _ _ rfl C.out (by unfold maxLen;omega) _ _ _ rfl rfl A _ [] (plainElem_int Tryz.underlying3 W.out) ?_;intro w3 hown3 hgrow3)|fail);go_roundg (l.length-(j+1))
    case measure=>rw[M.out];omega
    case rel =>
     refine⟨j+1,hjn,rfl,by simp,?_,D.out.grown hgrow3 (λk h=>by simpa using h.symm)⟩;rw[G.out,L.out];rw[Fs.datum_put]at hown3;exact Ah.of hown3
  ·have B:(l.length:Int)≤(j:Int):=by omega
   have K:l.take j=l:=List.take_of_length_le (by omega);rw[K]at o;go_wp2;go_end0;exact⟨rfl,o,F⟩
theorem Bq.cells {w:World} {own:Nat→Tag} {v:Value} {l:Fs.Names} (h:Bq w own v l):Cu w v l∧∀b n c,v=.slice (some b) n c→own b.block=.chgs:=by
 obtain⟨b,cap,cur,rfl,B,o,A⟩:=h;refine⟨Eo o A,λp n c e=>?_⟩;simp only[Value.slice.injEq,Option.some.injEq]at e;rw[← e.1];exact B
theorem Bp.synced1 {base B:Nat} {st:Fs.St} {V:FsV} {own:Nat→Tag} {w w3:World} (h:Bp base B st V own w) (hb:Below w.heap.size w w3) (hm:Ah w3 w.heap.size st.dir) (hbase:base≤w.heap.size) :
  Bp base B { st with sure:=st.dir } { V with ms:=w.heap.size } (Br own w.heap.size .sure)
   (w3.setCell ⟨B,6,none⟩ (.map (some w.heap.size))):=by
 have A:∀k,k<w.heap.size→Br own w.heap.size .sure k=own k:=λk o=>Aj o
 have F:=AE h.root;have o:Kept own (·=.root) w (w3.setCell ⟨B,6,none⟩ (.map (some w.heap.size))) :=
  (AL hb).setCell ⟨B,6,none⟩ h.tB _
 have C:=o.tags A;have D:w3.heap[B]?=some (.cells (Am st V) 70 (0,0)):=by rw[hb.block B F];exact h.root
 refine⟨heap_set D _,(A B F).trans h.tB,h.lo,h.left,(h.plan.tags (λk o _=>A k o)).kept C (by simp),AQ h.files (λg hg=>o.block g (AJ h.files g hg).2 (by rw[h.tfiles g hg];simp)),λk hk3=>(A k (AJ h.files k hk3).2).trans (h.tfiles k hk3),h.nfb,h.ndv,
  λi f b d h1 h2 h3=>((h.file i f b d h1 h2 h3).tags (λk o _=>A k o)).kept C (by simp) (by simp),h.dir.heap (o.block _ h.dir.lt (by rw[h.tdir];simp)),(A _ h.dir.lt).trans h.tdir,?_,BM,(h.chg.tags (λk o _=>A k o)).kept C (by simp) (by simp),h.known,⟨h.bl.1,hbase⟩⟩
 ·refine hm.heap ?_;have E:w.heap.size≠B:=by omega
  rw[Below.heap_setCell _ _ _ _ E]
theorem Dy (base:Nat) (a:Option Addr) (n c m:Nat) (l:List UInt8) (w:World) (h:Au w base (.slice a n c) l) (hn:n=l.length) (hm:m≤l.length) (hl:l.length≤1000000000) :
  Calls Tryz.prog 60 #[.slice a m c] w λe w'=>∃v',e=.returned v'∧Au w' w.heap.size v' (l.take m)∧Below w.heap.size w w':=by
 obtain⟨G,F,C,B,D⟩:=info_parts EC;have E:(l.take m).length=m:=by rw[List.length_take];omega
 rcases h.2 with⟨h1,h2⟩|⟨g,cap,cur,h1,hg,hc,hcap,hmax,hsz,htk⟩
 ·simp only[Value.slice.injEq]at h1;obtain⟨rfl,_,rfl⟩:=h1;refine (AnyE.slices_Clone_nil BZ m 0 w).mono ?_;rintro e w' ⟨rfl,rfl⟩;have o:l.take m=[]:=List.length_eq_zero_iff.1 (by omega);rw[o];exact⟨_,rfl,World.ownsRow_nil _ _ _ _,Below.refl _ _⟩
 ·simp only[Value.slice.injEq]at h1;obtain⟨rfl,_,rfl⟩:=h1;refine (AnyE.slices_Clone BZ G (.int .u8 0) 1 1 F C B D rfl (by decide) (λw=>Tryz.sizeOf5 w) g 0 m c (AR (l.take m)) w (by rw[BL];omega) (by unfold maxLen;omega) (by omega) ?_ (BK _)).mono ?_
  ·intro j u hj;rw[Nat.zero_add];have A:(AR l)[j]?=some u:=by
    unfold AR at hj ⊢;rw[List.getElem?_map]at hj ⊢;rw[List.getElem?_take]at hj;split at hj
    ·exact hj
    ·cases hj
   have:=World.ownsRow.cells h rfl j u A;rw[addr_add]at this;exact this
  ·rintro e w' ⟨v',rfl,h3,_,h4⟩;exact⟨v',rfl,by unfold Au;rw[E];exact h3,h4⟩
namespace Fs
def midc (room:Int) (fs:List (List UInt8×Nat)) (d:Names):St:=⟨0,-1,[],room,fs,d,[],[]⟩
end Fs
theorem Ha (base B:Nat) (st:Fs.St) (V:FsV) (own:Nat→Tag) (dirs:Int) (tv:Value) (tails:List Int) (w:World) (h:Ad base B st V own w) (hbase:base≤w.heap.size) (k:Nat) (hS:Fs.Sound st k) (hk:k≤200000)
  (hN:Ints w tv tails) (ht:tails.length≤1000000000) (hroom:1≤st.room∧st.room≤1048576) :
  Calls Tryz.prog 35 #[.pointer (some ⟨B,0,none⟩),.int .i64 dirs,tv] w λe w'=>∃B' V' own',e=.returned (.pointer (some ⟨B',0,none⟩))∧Ad w.heap.size B' (Fs.crash st dirs tails) V' own' w'∧Below w.heap.size w w':=by
 obtain⟨ta,tc,rfl⟩:=hN.form;have H:=QA h;have HN:=QA hN;have c3:w.cell? ⟨B,3,none⟩=some (.int .i64 st.room):=AA h.at_.root 3 _ rfl;have dl:=hS.nc;clear h hN;go_enter Tryz.func35,Tryz.ntmps35;go_wp2_with fail;refine (FB st.room w).mono ?_;rintro e w1 ⟨hb1,hres⟩;rcases hres with⟨hx,_⟩|⟨_,rfl,V0,aJ⟩
 ·omega
 have aN:=QA aJ;have bb:=QA hb1;have H1:=QA (H.out.kept (AL hb1));have c6:w1.cell? ⟨B,6,none⟩=some (.map (some V.ms)):=AA H1.out.at_.root 6 _ rfl;clear hb1 aJ c3;go_wp2_with fail;refine (GB V.ms st.sure w1 H1.out.at_.sure).mono ?_;rintro e w2 ⟨rfl,hm2,hb2⟩;have cI:=QA (aN.out.kept (AL hb2));have bf:=QA (bb.out.trans (hb2.mono bb.out.size));have H2:=QA (H.out.kept (AL bf.out));have a3:=QA hm2;have c7:w2.cell? ⟨B,7,none⟩=some V.cv:=AA H2.out.at_.root 7 _ rfl;obtain⟨vs,O,az,aH⟩:=H2.out.at_.chg;obtain⟨cx,cB,bk,cU⟩:∃a c,V.cv=.slice a st.changes.length c∧st.changes.length≤c:=by
  rcases O.2 with⟨I,h2⟩|⟨g,cap,cur,I,hg,hb,hc,hm,_,_⟩
  ·exact⟨none,0,by rw[I,h2],by omega⟩
  ·exact⟨_,cap,I,by omega⟩
 rw[bk]at c7;have dq:(0:Int)≤(st.changes.length:Int):=Int.natCast_nonneg _;obtain⟨m,hm⟩:∃m:Nat,max 0 (min dirs (st.changes.length:Int))=(m:Int):=⟨(max 0 (min dirs (st.changes.length:Int))).toNat,by omega⟩
 have dm:m≤st.changes.length:=by omega
 have df:(m:Int)≤(cB:Int):=by omega
 have du:(0:Int)≤(m:Int):=Int.natCast_nonneg _;have HD:Hid (Fs.dirsOf st dirs=m):=QA (by unfold Fs.dirsOf;rw[hm];rfl);have z7:=λx=>Later.cell c7 x
 clear hb2 hm2 c6;go_wp2_with fail;refine Ar (by kernel_rfl) (by kernel_rfl) ?_
 repeat (go_big_quiet_step (fail))
 refine wpQuiet_nil ?_;rintro w3 ⟨⟨_,hb3⟩,rfl⟩;have ck:=QA (cI.out.kept (AL hb3));have bP:=QA (bf.out.trans (hb3.mono bf.out.size));have H3:=QA (H.out.kept (AL bP.out));have cK:=QA (a3.out.heap (hb3.block _ a3.out.lt));have bh:=bb.out.size;have cQ:=a3.out.lt;have dh:=hb3.size;obtain⟨vs,O,az,aH⟩:=H3.out.at_.chg;rw[bk]at O;have cG:Hid (∀(j:Nat) l,st.changes[j]?=some l→∃cb v,cx=some ⟨cb,0,none⟩∧cb<w3.heap.size∧cb≠w1.heap.size∧w3.cell? ⟨cb,j,none⟩=some v∧Bq w3 own v l):=by
  refine QA λj l hl=>?_
  obtain⟨g,c,e⟩:=Bl O (by have:=(List.getElem?_eq_some_iff.1 hl).1;omega);simp only[Value.slice.injEq]at e;have dt:=O.1;obtain⟨v,hv⟩:∃v,vs[j]?=some v:=⟨_,ZG (by have:=(List.getElem?_eq_some_iff.1 hl).1;omega)⟩
  have hg:=AJ O g (by rw[e.1];rfl);refine⟨g,v,e.1,hg.2,λx=>?_,?_,aH j v l hv hl⟩
  ·have I:=az g (by rw[bk,e.1];rfl);rw[x,H.out.fresh _ bh]at I;cases I
  ·have:=World.ownsRow.cells O (g:=g) (by rw[e.1];rfl) j v hv;rw[addr_add]at this;exact this
 clear hb3 c7 z7 O az aH;go_wp2_with fail
 go_loopg [45] m (λk' s45 wr=>∃j:Nat,j≤m∧k'=m-j∧s45=.int .i64 (j:Nat)∧Ah wr w1.heap.size ((st.changes.take j).foldl Fs.doAll st.sure)∧But (λb=>b=w1.heap.size) w3 wr)
 case atStart=>exact⟨0,Nat.zero_le _,rfl,rfl,cK.out,But.refl _ _⟩
 case round =>
  obtain⟨j,hj,aw,rfl,bQ,bM⟩:=hrel;have HK:=QA aw;have bY:=QA bQ;have K:=QA bM;clear aw bQ bM;have dE:(0:Int)≤(j:Int):=Int.natCast_nonneg _;by_cases hjn:j<m
  ·have bD:(j:Int)<(m:Int):=by omega
   obtain⟨l,hl⟩:∃l,st.changes[j]?=some l:=⟨_,ZG (by omega)⟩
   obtain⟨cb,v,rfl,ce,bo,P,aW⟩:=cG.out j l hl;have e0:wr.cell? ⟨cb,j,none⟩=some v:=by rw[K.out.cell ce bo];exact P
   obtain⟨bB,ba⟩:=aW.cells;have ak:=hS.chg l (QZ hl);have cR:((st.changes.take j).foldl Fs.doAll st.sure).length≤k+2*j:=(hS.crashDir j).2.2;have cp:Hid ((st.changes.take (j+1)).foldl Fs.doAll st.sure=Fs.doAll ((st.changes.take j).foldl Fs.doAll st.sure) l):=by
    rw[List.take_add_one,hl,List.foldl_append];exact QA rfl
   have dF:=hS.nf;have av:=QA (JD w1.heap.size _ l v wr bY.out (by
     obtain⟨b,cap,e,I,h2⟩:=bB;have aV:b≠w1.heap.size:=λx=>by
      have:=ba _ _ _ e;rw[show (⟨b,0,none⟩:Addr).block=b from rfl,x,H.out.fresh _ bh]at this;cases this
     exact⟨b,cap,e,Nat.lt_of_lt_of_le I K.out.size,λi p hi=>by rw[K.out.cell I aV,K.out.cell I aV];exact h2 i p hi⟩)
    (λb n c e x=>by
     have:=ba b n c e;rw[x,H.out.fresh _ bh]at this;cases this)
    (λc hc=>⟨by have:=Fs.good_len (ak.1 c hc).2;omega,by have:=(ak.1 c hc).1;omega⟩) (by have:=ak.2;omega))
   clear hl P aW bB ba ak;go_wp2_with fail;refine av.out.mono ?_;rintro e w4 ⟨rfl,hm4,hb4⟩;have b8:=QA hm4;have cw:=QA (K.out.trans hb4);clear hm4 hb4;go_wp2_with fail;go_roundg (m-(j+1))
   case measure=>rw[HK.out];omega
   case rel=>exact⟨j+1,by omega,rfl,by simp,by rw[cp.out];exact b8.out,cw.out⟩
  ·have bD:(m:Int)≤(j:Int):=by omega
   have bx:j=m:=by omega
   obtain⟨D,aR⟩:∃D,D=Fs.crashDir st m:=⟨_,rfl⟩
   have aO:Hid (Ah wr w1.heap.size D):=by
    have:=bY.out;rw[bx]at this;rw[aR];exact QA this
   obtain⟨a7,bu,b9⟩:=hS.crashDir m;rw[← aR]at a7 bu b9;have co:Hid (Fs.crash st dirs tails=⟨0,-1,[],st.room,(Fs.crashGo (Fs.cutOf st D tails) (Fs.keys D) [] []).1,(Fs.crashGo (Fs.cutOf st D tails) (Fs.keys D) [] []).2,(Fs.crashGo (Fs.cutOf st D tails) (Fs.keys D) [] []).2,[]⟩):=by
    unfold Fs.crash;rw[HD.out,← aR];exact QA rfl
   have bl:=Fs.datum_size D;have bK:Maps.size (Fs.datum D)≤maxLen:=by rw[bl];unfold maxLen;omega
   have aT:Maps.size (Fs.datum D)*16≤140737488355328:=by rw[bl];omega
   have cg:=QA a7;clear aR a7 bx hjn bl;go_wp2_with fail;refine ((callsIn_wide (n:=5)).1 (C0 _ wr)).mono ?_;rintro e w4 ⟨rfl,hw4⟩;subst hw4;go_wp2_with fail;refine ((callsIn_wide (n:=5)).1 (CO w1.heap.size _ (Fs.datum D) _ wr aO.out bK aT)).mono ?_;rintro e w5 ⟨v,ss,rfl,hSp,hrow,hnil,hb5⟩;obtain⟨aG,bI⟩:=B7 hSp hrow;obtain⟨la,lc,hv⟩:=aG.form;subst hv;have Y:Below wr.heap.size wr w5:=((Below.refl _ wr).alloc (QM _) _).trans (hb5.mono (by simp));have cO:Hid (Ad w.heap.size (w.heap.size+2) (Fs.new st.room) V0 (Bj w.heap.size) w5):=by
    have I:Kept (Bj w.heap.size) (·=.other) w3 wr:=⟨K.out.os,K.out.tape,K.out.output,K.out.size,λb hb ht=>K.out.block b hb (λe=>ht (by rw[e];exact aN.out.fresh _ (QM _)))⟩
    exact QA ((ck.out.kept I).kept (AL Y))
   have cd:Hid (Below w.heap.size w w5):=by
    have I:Below w.heap.size w3 wr:=⟨K.out.os,K.out.tape,K.out.output,K.out.size,λb hb=>K.out.block b (by omega) (by omega)⟩
    have:=K.out.size;exact QA ((bP.out.trans I).trans (Y.mono (by omega)))
   have cs:=QA (aO.out.heap (Y.block _ aO.out.lt));have aZ:=QA aG;have cu:w1.heap.size<w5.heap.size:=Nat.lt_of_lt_of_le aO.out.lt Y.size;have ct:Hid (∀p,la=some p→Bj w.heap.size p.block=.other):=QA λp hp=>aN.out.fresh _ (by
    have:=(bI p.block (by rw[hp];rfl)).1;simp at this;have:=aO.out.lt;omega)
   have aS:Hid ((strsOf (Fs.keys D)).length=(Fs.keys D).length):=QA (by unfold strsOf;rw[List.length_map]);obtain⟨N,bn⟩:∃N,N=(strsOf (Fs.keys D)).length:=⟨_,rfl⟩
   have dI:N≤600000:=by rw[bn,aS.out,Fs.keys_len];omega
   rw[← bn]at aS aZ ⊢;clear aG bI hrow hSp hnil hb5 Y bn;go_wp2_with fail
   go_loopg [57] N (λk' s57 wr=>∃(i:Nat) (G:List (List UInt8×Nat)) (S:Fs.Names) (V':FsV) (own':Nat→Tag),i≤N∧k'=N-i∧s57=.int .i64 (i:Nat)∧Ad w.heap.size (w.heap.size+2) (Fs.midc st.room G S) V' own' wr ∧
    (∀b,b<w5.heap.size→own' b=Bj w.heap.size b)∧Kept (Bj w.heap.size) (λt=>t=.root∨t=.files∨t=.dir) w5 wr∧G.length=i∧S.length≤i∧Fs.crashGo (Fs.cutOf st D tails) ((Fs.keys D).drop i) G S=Fs.crashGo (Fs.cutOf st D tails) (Fs.keys D) [] [])
   case atStart=>exact⟨0,[],[],V0,_,Nat.zero_le _,rfl,rfl,cO.out,λ_ _=>rfl,Kept.refl _ _ _,rfl,QM _,rfl⟩
   case round =>
    obtain⟨i,G,S,V',own',hi,aw,rfl,aJ,a0,aE,bL,dy,bU⟩:=hrel;have b3:=QA aw;have L:=QA aJ;have ai:=QA a0;have A:=QA aE;have bT:=QA bU;have bN:=QA bL;have cZ:G.length≤600000:=by omega
    clear aw aJ a0 aE bU bL;have dg:(0:Int)≤(i:Int):=Int.natCast_nonneg _;have cN:=A.out.size;have ag:∀b,Bj w.heap.size b=.other→¬((λt=>t=Tag.root∨t=Tag.files∨t=Tag.dir) (Bj w.heap.size b)):=λb hb=>by rw[hb];simp
    have a8:Hid (Below w.heap.size w wr):=QA (by
     have I:Below w.heap.size w5 wr:=⟨A.out.os,A.out.tape,A.out.output,cN,λb hb=>A.out.block b (by omega) (ag b (aN.out.old b hb))⟩
     exact cd.out.trans I)
    have HO:=QA (H.out.kept (AL a8.out));by_cases hin:i<N
    ·have bC:(i:Int)<(N:Int):=by omega
     obtain⟨x,hx⟩:∃x,(Fs.keys D)[i]?=some x:=⟨_,ZG (by rw[← aS.out];exact hin)⟩
     have bR:(strsOf (Fs.keys D))[i]?=some ⟨x.toArray⟩:=by unfold strsOf;rw[List.getElem?_map,hx];rfl
     obtain⟨lb,lo,rfl,bJ,P⟩:∃b aU,la=some ⟨b,aU,none⟩∧b<w5.heap.size∧w5.cell? ⟨b,aU+i,none⟩=some (.string ⟨x.toArray⟩):=by
      obtain⟨a',c',I,h2⟩:=aZ.out;obtain⟨b,aU,e1,e2,e3⟩:=h2 i _ bR;simp only[Value.slice.injEq]at I;exact⟨b,aU,by rw[I.1,e1],e2,e3⟩
     obtain⟨s,hs,a5⟩:∃s:ByteArray,s=⟨x.toArray⟩∧s.data.toList=x:=⟨_,rfl,by simp⟩
     have di:wr.cell? ⟨lb,lo+i,none⟩=some (.string s):=by
      rw[World.cell?_of_block (A.out.block lb bJ (ag lb (ct.out _ rfl))),hs];exact P
     have bS:Fs.mhas D x=true:=Fs.keys_mem.1 (QZ hx);obtain⟨p,hp,bw,bq⟩:=Fs.mget_mem bS;obtain⟨⟨cl,cy⟩,aP⟩:=cg.out p hp;have dB:s.size≤20:=by
      have:=Fs.good_len aP;rw[hs];show x.toArray.size≤_;rw[← bw];simp;omega
     obtain⟨q,hq⟩:∃q:Nat,Fs.mget D x=(q:Int):=⟨(Fs.mget D x).toNat,by rw[← bq];omega⟩
     have aF:q<st.files.length:=by have:p.2=(q:Int):=bq.trans hq;omega
     obtain⟨f,hf⟩:∃f,st.files[q]?=some f:=⟨_,ZG aF⟩
     obtain⟨b,hb⟩:∃b,V.fb[q]?=some b:=⟨_,ZG (by rw[HO.out.at_.nfb];exact aF)⟩
     obtain⟨d,hd⟩:∃d,V.dv[q]?=some d:=⟨_,ZG (by rw[HO.out.at_.ndv];exact aF)⟩
     have ae:=QA (HO.out.at_.file q f b d hf hb hd);obtain⟨dG,dn⟩:=hS.full f (QZ hf);obtain⟨fg,fc,bO,db⟩:∃g cap,V.fv=.slice (some ⟨g,0,none⟩) st.files.length cap∧wr.cell? ⟨g,q,none⟩=some (.pointer (some ⟨b,0,none⟩)):=by
      rcases HO.out.at_.files.2 with⟨I,h2⟩|⟨g,cap,cur,I,_⟩
      ·omega
      ·exact⟨g,cap,I,by rw[← addr_add];exact World.ownsRow.cells HO.out.at_.files (by rw[I];rfl) _ _ (DO _ _ _ hb)⟩
     have c4:wr.cell? ⟨B,4,none⟩=some V.fv:=AA HO.out.at_.root 4 _ rfl;rw[bO]at c4;have aX:=QA (Fs.datum_get D s.data.toList);have bz:=QA (cs.out.heap (A.out.block _ cu (ag _ (aN.out.fresh _ (QM _)))));have aj:=keyOf_string_mk Tryz.underlying9 (s:=s) (show s.size≤maxLen by unfold maxLen;omega);have HQ:Hid (Fs.mget D s.data.toList=(q:Int)):=QA (by rw[a5];exact hq);have bW:Hid (Fs.cutOf st D tails s.data.toList=Fs.cut f tails[q]?):=by
      unfold Fs.cutOf;rw[HQ.out,Int.toNat_natCast,hf];exact QA rfl
     have bE:Hid (Fs.crashGo (Fs.cutOf st D tails) ((Fs.keys D).drop (i+1)) (G++[(Fs.cut f tails[q]?,(Fs.cut f tails[q]?).length)]) (Fs.mput S s.data.toList G.length)=Fs.crashGo (Fs.cutOf st D tails) (Fs.keys D) [] []):=by
      rw[← bT.out];obtain⟨I,h2⟩:=List.getElem?_eq_some_iff.1 hx;rw[List.drop_eq_getElem_cons I,h2,Fs.crashGo,← a5,bW.out];exact QA rfl
     have cY:(0:Int)≤(q:Int):=Int.natCast_nonneg _;have cT:(q:Int)<(st.files.length:Int):=by omega
     clear hx bR P hs a5 bS hp bw bq cl cy aP hq hf hb hd bO bJ;obtain⟨da,Z,cz,c5⟩:∃a c,d=.slice a f.1.length c∧f.1.length≤c:=by
      rcases ae.out.row.2 with⟨I,h2⟩|⟨g,cap,cur,I,hg,hb,hc,hm,_,_⟩
      ·exact⟨none,0,by rw[I,h2],by omega⟩
      ·exact⟨_,cap,I,by omega⟩
     subst cz;have b0:wr.cell? ⟨b,0,none⟩=some (.slice da f.1.length Z):=AA ae.out.blk 0 _ rfl;have b1:wr.cell? ⟨b,1,none⟩=some (.int .i64 f.2):=AA ae.out.blk 1 _ rfl;have cS:(0:Int)≤(f.1.length:Int):=Int.natCast_nonneg _;have c0:(0:Int)≤(f.2:Int):=Int.natCast_nonneg _;by_cases hqt:q<tails.length
     ·have b4:(q:Int)<(tails.length:Int):=by omega
      obtain⟨z,hz⟩:∃z,tails[q]?=some z:=⟨_,ZG hqt⟩
      obtain⟨tb,cL,rfl,bV,bX⟩:=HN.out.at hz;have t0:wr.cell? ⟨tb,cL+q,none⟩=some (.int .i64 z):=by rw[a8.out.cell bV];exact bX
      obtain⟨M,hM⟩:∃M:Nat,max 0 (min z ((f.1.length:Int)-f.2))=(M:Int):=⟨(max 0 (min z ((f.1.length:Int)-f.2))).toNat,by omega⟩
      have ax:f.2+M≤f.1.length:=by omega
      have ar:Hid (Fs.cut f tails[q]?=f.1.take (f.2+M)):=by
       refine QA ?_;unfold Fs.cut;rw[hz];simp only[hM,Int.toNat_natCast]
      have z0:=λx=>Later.cell b0 x
      have z1:=λx=>Later.cell b1 x
      have z2:=λx=>Later.cell t0 x
      clear hz bV bX;go_wp2_with (first|(at_lookup;refine wpList_lookup_own_int _ rfl _ _ 66 rfl 9 3 .i64 Af Tryz.underlying66 Tryz.underlying3 (BH _) w1.heap.size _ _ rfl bz.out _ _ rfl aj ?_;intro c ah hwc;obtain rfl:c=(q:Int):=(by have:=ah.symm.trans aX.out;simp only[DataW.lit.injEq,Lit.int.injEq,true_and]at this;rw[this,HQ.out]);clear ah hwc)|fail);refine Ar (by kernel_rfl) (by kernel_rfl) ?_
      repeat (go_big_quiet_step (fail))
      refine wpQuiet_nil ?_;rintro w6 ⟨⟨_,hb6⟩,rfl⟩;have X:=QA hb6;have a6:Hid (w6.cell? ⟨b,0,none⟩=some (.slice da f.1.length Z)∧w6.cell? ⟨b,1,none⟩=some (.int .i64 f.2)):=QA (And.intro (z0 ⟨w6,hb6⟩) (z1 ⟨w6,hb6⟩));clear z0 z1 z2 t0 hb6;have b2:=QA (L.out.kept (AL X.out));have ap:=X.out.size;obtain⟨C,aL⟩:∃C:Nat,C=f.2+M:=⟨_,rfl⟩
      have cC:IntKind.i64.wrap ((f.2:Int)+(M:Int))=(C:Int):=by rw[IntKind.wrap_i64];omega
      have cA:(0:Int)≤(C:Int):=Int.natCast_nonneg _;have cJ:(C:Int)≤(Z:Int):=by omega
      have bF:M=0→IntKind.i64.wrap (f.2:Int)=(C:Int):=λh=>by rw[IntKind.wrap_i64];omega
      skip
      rw[← aL]at ar ax;have cf:=QA hS;clear aL;go_wp2_with fail;refine AK (λw'=>w'.cell? ⟨b,0,none⟩=some (.slice da f.1.length Z)∧w'.cell? ⟨b,1,none⟩=some (.int .i64 f.2)) 12 (by kernel_rfl) ?_;have hS:(w6).drew.cell? ⟨b,0,none⟩=some (.slice da f.1.length Z)∧(w6).drew.cell? ⟨b,1,none⟩=some (.int .i64 f.2):=a6.out;refine TK (i:=0) (v:=(.pointer (some ⟨b,0,none⟩))) rfl (Or.inl ⟨by rfl,λw hSw=>by go_simp⟩) hS ?_;simp only[Act.put,QD,QK,QI,QJ,QC,QH,QG];refine TK (i:=1) (v:=(.pointer (some ⟨b,0,none⟩))) rfl (Or.inl ⟨by rfl,λw hSw=>by go_simp⟩) hS ?_;simp only[Act.put,QD,QK,QI,QJ,QC,QH,QG];refine TK (i:=2) (v:=(.pointer (some ⟨b,0,none⟩))) rfl (Or.inl ⟨by rfl,λw hSw=>by go_simp⟩) hS ?_;simp only[Act.put,QD,QK,QI,QJ,QC,QH,QG];refine TK (i:=3) (v:=(.slice da f.1.length Z)) rfl (Or.inl ⟨by rfl,λw hSw=>by go_simp⟩) hS ?_;simp only[Act.put,QD,QK,QI,QJ,QC,QH,QG];refine TK (i:=4) (v:=(.pointer (some ⟨b,0,none⟩))) rfl (Or.inl ⟨by rfl,λw hSw=>by go_simp⟩) hS ?_;simp only[Act.put,QD,QK,QI,QJ,QC,QH,QG];refine TK (i:=5) (v:=(.pointer (some ⟨b,0,none⟩))) rfl (Or.inl ⟨by rfl,λw hSw=>by go_simp⟩) hS ?_;simp only[Act.put,QD,QK,QI,QJ,QC,QH,QG];refine TK (i:=6) (v:=(.pointer (some ⟨b,1,none⟩))) rfl (Or.inl ⟨by rfl,λw hSw=>by go_simp⟩) hS ?_;simp only[Act.put,QD,QK,QI,QJ,QC,QH,QG];refine TK (i:=7) (v:=(.int .i64 f.2)) rfl (Or.inl ⟨by rfl,λw hSw=>by go_simp⟩) hS ?_;simp only[Act.put,QD,QK,QI,QJ,QC,QH,QG];refine TK (i:=8) (v:=(.int .i64 (M:Nat))) rfl (Or.inl ⟨by rfl,λw hSw=>by go_simp⟩) hS ?_;simp only[Act.put,QD,QK,QI,QJ,QC,QH,QG];refine TK (i:=9) (v:=(.int .i64 (C:Nat))) rfl (Or.inl ⟨by rfl,λw hSw=>by go_simp⟩) hS ?_;simp only[Act.put,QD,QK,QI,QJ,QC,QH,QG];refine TK (i:=10) (v:=(.slice da C Z)) rfl (Or.inl ⟨by rfl,λw hSw=>by go_simp⟩) hS ?_;simp only[Act.put,QD,QK,QI,QJ,QC,QH,QG];refine TO (i:=11) ?_;refine AF (by decide) (λK5 HK5=>?_);simp only[QE,QL,QF,QN];go_wp2_with fail;refine (Dy base da _ Z C f.1 ((w6).drew) (AQ (w':=(w6).drew) ae.out.row (λg hg=>X.out.block g (AJ ae.out.row g hg).2)) rfl ax (by omega)).mono ?_;rintro e w7 ⟨dv,rfl,hdo,hb7⟩;obtain⟨va,T,vc,hv,bg⟩:=Au.form3 hdo;subst hv;have aB:w7.cell? ⟨b,0,none⟩=some (.slice da f.1.length Z)∧w7.cell? ⟨b,1,none⟩=some (.int .i64 f.2):=⟨by rw[hb7.cell (AN hS.1)];exact hS.1,by rw[hb7.cell (AN hS.1)];exact hS.2⟩
      go_wp2_with fail;refine HK5.out _ _ ⟨λ_=>aB,?_⟩;clear HK5;refine TO (i:=12) ?_;refine AF (by decide) (λK6 HK6=>?_);simp only[QE,QL,QF,QN];go_wp2_with fail;refine HK6.out _ _ ⟨λh=>absurd h (by decide),?_⟩;clear HK6;refine AM (by kernel_rfl) ?_ _;have av:=QA hdo;have J:Hid (Below wr.heap.size wr w7):=QA (X.out.trans ((Below.drew (Below.refl _ _)).trans (hb7.mono (by show wr.heap.size≤(w6).heap.size;exact ap))));have o:=QA (L.out.kept (AL J.out));obtain⟨fa,F,E⟩:∃a c,V'.fv=.slice a G.length c:=BV o.out.at_.files;have cq:=J.out.size;have r4:w7.cell? ⟨w.heap.size+2,4,none⟩=some V'.fv:=AA o.out.at_.root 4 _ rfl;have r5:w7.cell? ⟨w.heap.size+2,5,none⟩=some (.map (some V'.md)):=AA o.out.at_.root 5 _ rfl;rw[E]at r4;have aa:Hid (∀k,(Value.slice va T vc).ownBlock=some k→(w6).heap.size≤k):=QA λk hk=>(AJ hdo k hk).1
      clear aB hS hdo hb7 b0 b1;go_wp2_with fail;refine AK (λw'=>w'.cell? ⟨w.heap.size+2,4,none⟩=some (.slice fa G.length F)∧w'.cell? ⟨w.heap.size+2,5,none⟩=some (.map (some V'.md))) 11 (by kernel_rfl) ?_;have hS:w7.drew.cell? ⟨w.heap.size+2,4,none⟩=some (.slice fa G.length F)∧w7.drew.cell? ⟨w.heap.size+2,5,none⟩=some (.map (some V'.md)):=⟨r4,r5⟩
      refine TK (i:=0) (v:=(.pointer (some ⟨w.heap.size+2,0,none⟩))) rfl (Or.inl ⟨by rfl,λw hSw=>by go_simp⟩) hS ?_;simp only[Act.put,QD,QK,QI,QJ,QC,QH,QG];refine TK (i:=1) (v:=(.pointer (some ⟨w.heap.size+2,0,none⟩))) rfl (Or.inl ⟨by rfl,λw hSw=>by go_simp⟩) hS ?_;simp only[Act.put,QD,QK,QI,QJ,QC,QH,QG];refine TK (i:=2) (v:=(.pointer (some ⟨w.heap.size+2,5,none⟩))) rfl (Or.inl ⟨by rfl,λw hSw=>by go_simp⟩) hS ?_;simp only[Act.put,QD,QK,QI,QJ,QC,QH,QG];refine TK (i:=3) (v:=(.map (some V'.md))) rfl (Or.inl ⟨by rfl,λw hSw=>by go_simp⟩) hS ?_;simp only[Act.put,QD,QK,QI,QJ,QC,QH,QG];refine TK (i:=4) (v:=(.string s)) rfl (Or.inl ⟨by rfl,λw hSw=>by go_simp⟩) hS ?_;simp only[Act.put,QD,QK,QI,QJ,QC,QH,QG];refine TK (i:=5) (v:=(.pointer (some ⟨w.heap.size+2,0,none⟩))) rfl (Or.inl ⟨by rfl,λw hSw=>by go_simp⟩) hS ?_;simp only[Act.put,QD,QK,QI,QJ,QC,QH,QG];refine TK (i:=6) (v:=(.pointer (some ⟨w.heap.size+2,0,none⟩))) rfl (Or.inl ⟨by rfl,λw hSw=>by go_simp⟩) hS ?_;simp only[Act.put,QD,QK,QI,QJ,QC,QH,QG];refine TK (i:=7) (v:=(.pointer (some ⟨w.heap.size+2,4,none⟩))) rfl (Or.inl ⟨by rfl,λw hSw=>by go_simp⟩) hS ?_;simp only[Act.put,QD,QK,QI,QJ,QC,QH,QG];refine TK (i:=8) (v:=(.slice fa G.length F)) rfl (Or.inl ⟨by rfl,λw hSw=>by go_simp⟩) hS ?_;simp only[Act.put,QD,QK,QI,QJ,QC,QH,QG];refine TK (i:=9) (v:=(.int .i64 (G.length:Nat))) rfl (Or.inl ⟨by rfl,λw hSw=>by go_simp⟩) hS ?_;simp only[Act.put,QD,QK,QI,QJ,QC,QH,QG];have HW:Hid ((Lit.int .i64 (G.length:Nat)).wf=true):=by
       refine QA ?_;have e1:IntKind.i64.min=-9223372036854775808:=by decide
       have e2:IntKind.i64.max=9223372036854775807:=by decide
       simp[Lit.wf,e1,e2];omega
      have bc:Hid (Ah w7.drew V'.md S):=QA (o.out.at_.dir);refine TO (i:=10) ?_;refine AF (by decide) (λK7 HK7=>?_);simp only[QE,QL,QF,QN];go_wp2_with (first|(at_mapUpdate;refine wpList_mapUpdate_own _ rfl _ _ _ 66 rfl 9 3 Af Tryz.underlying66 _ V'.md _ _ rfl bc.out (by unfold maxLen;omega) _ _ _ rfl rfl aj _ [] (plainElem_int Tryz.underlying3 HW.out) ?_;intro w8 hown8 hgrow8)|fail);have aM:=AE o.out.at_.root;have aq:w.heap.size+2≠V'.md:=λe=>by have I:=o.out.at_.tdir;rw[← e,o.out.at_.tB]at I;cases I
      have W:w8.heap[w.heap.size+2]?=some (.cells (Am (Fs.midc st.room G S) V') 70 (0,0)):=by
       rw[hgrow8.block _ aM (λe=>aq (Option.some.inj e))];exact o.out.at_.root
      have al:Hid (Ah w8 V'.md (Fs.mput S s.data.toList G.length)):=by
       rw[Fs.datum_put]at hown8;exact QA (Ah.of hown8)
      have Q:Hid (Kept own' (·=.dir) w7 w8):=QA (((Kept.refl _ _ _).drewN 1).grown hgrow8 (λk e=>.inl (by rw[← Option.some.inj e];exact o.out.at_.tdir)));have ac:Hid (w8.ownsRow w.heap.size 106 1 (.slice fa G.length F) G.length (V'.fb.map λb=>.pointer (some ⟨b,0,none⟩))):=by
       rw[← E];exact QA (AQ o.out.at_.files (λg hg=>Q.out.block g (AJ o.out.at_.files g hg).2 (by rw[o.out.at_.tfiles g hg];simp)))
      have cj:=Q.out.size;have aC:w8.cell? ⟨w.heap.size+2,4,none⟩=some V'.fv:=AA W 4 _ rfl;rw[E]at aC;refine HK7.out _ _ ⟨λ_=>⟨aC,AA W 5 _ rfl⟩,?_⟩;clear HK7 hown8 hgrow8 hS r4 r5;refine AM (by kernel_rfl) ?_ _;obtain⟨i0,a9,bj,aI,aA⟩:=info_parts GM;have bm:∀w9,((w8.alloc (.cells #[.slice va T vc,.int .i64 (T:Nat)] 111)).alloc (.cells #[.pointer (some ⟨w8.heap.size,0,none⟩)] 106)).grownBy w9 (Value.slice fa G.length F).ownBlock→w9.cell? ⟨w.heap.size+2,4,none⟩=some (.slice fa G.length F)∧w9.frozen? ⟨w.heap.size+2,4,none⟩=false:=λw9 hgrow9=>by
       have ao:w9.heap[w.heap.size+2]?=some (.cells (Am (Fs.midc st.room G S) V') 70 (0,0)):=by
        rw[hgrow9.block _ (by simp;omega) (λe=>by
         have I:=o.out.at_.tfiles _ (by rw[E];exact e.symm);rw[o.out.at_.tB]at I;cases I),Lib.alloc_old _ _ _ (by simp;omega),Lib.alloc_old _ _ _ (by omega)]
        exact W
       exact⟨by rw[← E];exact AA ao 4 _ rfl,AC ao 4⟩
      have bd:Hid (∀j u,[(.pointer (some ⟨w8.heap.size,0,none⟩):Value)][j]?=some u→((w8.alloc (.cells #[.slice va T vc,.int .i64 (T:Nat)] 111)).alloc (.cells #[.pointer (some ⟨w8.heap.size,0,none⟩)] 106)).cell? ((⟨w8.heap.size+1,0,none⟩:Addr).add j)=some u):=by
       have h9:=cell_one_new (w8.alloc (.cells #[.slice va T vc,.int .i64 (T:Nat)] 111)) (.pointer (some ⟨w8.heap.size,0,none⟩)) 106;rw[show (w8.alloc (.cells #[.slice va T vc,.int .i64 (T:Nat)] 111)).heap.size=w8.heap.size+1 by simp]at h9;exact QA h9
      have an:=QA E;clear E W;go_wp2_with (first|(at_builtin;refine wpList_append_own_at _ rfl _ _ 67 rfl w.heap.size 106 i0 (.pointer none) 1 8 Tryz.underlying67 a9 bj aI aA rfl (by decide) (.slice fa G.length F) G.length (V'.fb.map λb=>.pointer (some ⟨b,0,none⟩)) rfl (World.ownsRow.alloc (World.ownsRow.alloc ac.out _) _) ⟨w8.heap.size+1,0,none⟩ 1 1 [.pointer (some ⟨w8.heap.size,0,none⟩)] rfl rfl bd.out (λu hu=>by simp at hu;subst hu;rfl) (by unfold maxLen;omega) (by omega) (by simp;omega) ?_;intro fv' w9 hown9 hgrow9 hnil9 hloc9;clear hnil9;obtain⟨cc,cE⟩:=bm _ hgrow9;obtain⟨ga,ca,rfl⟩:=Bl hown9 (by omega);have aD:=QA hloc9;have af:=QA hown9;have U:=QA hgrow9;clear hloc9 hown9 hgrow9)|fail);have be:=bg.out;subst be;obtain⟨au,ay,a4,R⟩:=Ad.plant (l:=f.1.take C) (n:=s.data.toList) o.out Q.out al.out (av.out.mono (by show w.heap.size≤(w6).heap.size;omega)) (λk hk=>L.out.fresh k (Nat.le_trans ap (aa.out k hk))) af.out (by rw[an.out];exact U.out) (by rw[an.out];exact aD.out) (by omega);go_roundg (N-(i+1))
      case measure=>rw[b3.out];omega
      case rel =>
       refine⟨i+1,G++[(f.1.take C,(f.1.take C).length)],Fs.mput S s.data.toList G.length,_,au,by omega,rfl,by simp,ay,λb hb=>?_,?_,by rw[List.length_append,bN.out];rfl,?_,by rw[← ar.out];exact bE.out⟩
       ·rw[a4 b (by omega) (λe=>by have:=aa.out b e;omega)];exact ai.out b hb
       ·refine⟨R.os.trans (J.out.os.trans A.out.os),R.tape.trans (J.out.tape.trans A.out.tape),R.output.trans (J.out.output.trans A.out.output),by have:=R.size;omega,λb hb ht=>?_⟩;rw[R.block b (by omega) (by rw[ai.out b hb];exact ht),J.out.block b (by omega)];exact A.out.block b hb ht
       ·rw[Fs.mput_len2];have:=Fs.mdel_len S s.data.toList;omega
     ·have b4:(tails.length:Int)≤(q:Int):=by omega
      obtain⟨M,hM⟩:∃M:Nat,M=0:=⟨0,rfl⟩
      have ax:f.2+M≤f.1.length:=by omega
      have ar:Hid (Fs.cut f tails[q]?=f.1.take (f.2+M)):=by
       unfold Fs.cut;rw[List.getElem?_eq_none (by omega),hM];exact QA rfl
      go_wp2_with (first|(at_lookup;refine wpList_lookup_own_int _ rfl _ _ 66 rfl 9 3 .i64 Af Tryz.underlying66 Tryz.underlying3 (BH _) w1.heap.size _ _ rfl bz.out _ _ rfl aj ?_;intro c ah hwc;obtain rfl:c=(q:Int):=(by have:=ah.symm.trans aX.out;simp only[DataW.lit.injEq,Lit.int.injEq,true_and]at this;rw[this,HQ.out]);clear ah hwc)|fail);have X:Hid (Below wr.heap.size wr wr):=QA (Below.refl _ _);have a6:Hid (wr.cell? ⟨b,0,none⟩=some (.slice da f.1.length Z)∧wr.cell? ⟨b,1,none⟩=some (.int .i64 f.2)):=QA (And.intro b0 b1);have b2:=QA (L.out.kept (AL X.out));have ap:=X.out.size;obtain⟨C,aL⟩:∃C:Nat,C=f.2+M:=⟨_,rfl⟩
      have cC:IntKind.i64.wrap ((f.2:Int)+(M:Int))=(C:Int):=by rw[IntKind.wrap_i64];omega
      have cA:(0:Int)≤(C:Int):=Int.natCast_nonneg _;have cJ:(C:Int)≤(Z:Int):=by omega
      have bF:M=0→IntKind.i64.wrap (f.2:Int)=(C:Int):=λh=>by rw[IntKind.wrap_i64];omega
      have c9:=bF hM;rw[← aL]at ar ax;have cf:=QA hS;clear aL;go_wp2_with fail;refine AK (λw'=>w'.cell? ⟨b,0,none⟩=some (.slice da f.1.length Z)∧w'.cell? ⟨b,1,none⟩=some (.int .i64 f.2)) 12 (by kernel_rfl) ?_;have hS:(wr).drew.cell? ⟨b,0,none⟩=some (.slice da f.1.length Z)∧(wr).drew.cell? ⟨b,1,none⟩=some (.int .i64 f.2):=a6.out;refine TK (i:=0) (v:=(.pointer (some ⟨b,0,none⟩))) rfl (Or.inl ⟨by rfl,λw hSw=>by go_simp⟩) hS ?_;simp only[Act.put,QD,QK,QI,QJ,QC,QH,QG];refine TK (i:=1) (v:=(.pointer (some ⟨b,0,none⟩))) rfl (Or.inl ⟨by rfl,λw hSw=>by go_simp⟩) hS ?_;simp only[Act.put,QD,QK,QI,QJ,QC,QH,QG];refine TK (i:=2) (v:=(.pointer (some ⟨b,0,none⟩))) rfl (Or.inl ⟨by rfl,λw hSw=>by go_simp⟩) hS ?_;simp only[Act.put,QD,QK,QI,QJ,QC,QH,QG];refine TK (i:=3) (v:=(.slice da f.1.length Z)) rfl (Or.inl ⟨by rfl,λw hSw=>by go_simp⟩) hS ?_;simp only[Act.put,QD,QK,QI,QJ,QC,QH,QG];refine TK (i:=4) (v:=(.pointer (some ⟨b,0,none⟩))) rfl (Or.inl ⟨by rfl,λw hSw=>by go_simp⟩) hS ?_;simp only[Act.put,QD,QK,QI,QJ,QC,QH,QG];refine TK (i:=5) (v:=(.pointer (some ⟨b,0,none⟩))) rfl (Or.inl ⟨by rfl,λw hSw=>by go_simp⟩) hS ?_;simp only[Act.put,QD,QK,QI,QJ,QC,QH,QG];refine TK (i:=6) (v:=(.pointer (some ⟨b,1,none⟩))) rfl (Or.inl ⟨by rfl,λw hSw=>by go_simp⟩) hS ?_;simp only[Act.put,QD,QK,QI,QJ,QC,QH,QG];refine TK (i:=7) (v:=(.int .i64 f.2)) rfl (Or.inl ⟨by rfl,λw hSw=>by go_simp⟩) hS ?_;simp only[Act.put,QD,QK,QI,QJ,QC,QH,QG];refine TK (i:=8) (v:=(.int .i64 (M:Nat))) rfl (Or.inl ⟨by rfl,λw hSw=>by go_simp⟩) hS ?_;simp only[Act.put,QD,QK,QI,QJ,QC,QH,QG];refine TK (i:=9) (v:=(.int .i64 (C:Nat))) rfl (Or.inl ⟨by rfl,λw hSw=>by go_simp⟩) hS ?_;simp only[Act.put,QD,QK,QI,QJ,QC,QH,QG];refine TK (i:=10) (v:=(.slice da C Z)) rfl (Or.inl ⟨by rfl,λw hSw=>by go_simp⟩) hS ?_;simp only[Act.put,QD,QK,QI,QJ,QC,QH,QG];refine TO (i:=11) ?_;refine AF (by decide) (λK5 HK5=>?_);simp only[QE,QL,QF,QN];go_wp2_with fail;refine (Dy base da _ Z C f.1 ((wr).drew) (AQ (w':=(wr).drew) ae.out.row (λg hg=>X.out.block g (AJ ae.out.row g hg).2)) rfl ax (by omega)).mono ?_;rintro e w7 ⟨dv,rfl,hdo,hb7⟩;obtain⟨va,T,vc,hv,bg⟩:=Au.form3 hdo;subst hv;have aB:w7.cell? ⟨b,0,none⟩=some (.slice da f.1.length Z)∧w7.cell? ⟨b,1,none⟩=some (.int .i64 f.2):=⟨by rw[hb7.cell (AN hS.1)];exact hS.1,by rw[hb7.cell (AN hS.1)];exact hS.2⟩
      go_wp2_with fail;refine HK5.out _ _ ⟨λ_=>aB,?_⟩;clear HK5;refine TO (i:=12) ?_;refine AF (by decide) (λK6 HK6=>?_);simp only[QE,QL,QF,QN];go_wp2_with fail;refine HK6.out _ _ ⟨λh=>absurd h (by decide),?_⟩;clear HK6;refine AM (by kernel_rfl) ?_ _;have av:=QA hdo;have J:Hid (Below wr.heap.size wr w7):=QA (X.out.trans ((Below.drew (Below.refl _ _)).trans (hb7.mono (by show wr.heap.size≤(wr).heap.size;exact ap))));have o:=QA (L.out.kept (AL J.out));obtain⟨fa,F,E⟩:∃a c,V'.fv=.slice a G.length c:=BV o.out.at_.files;have cq:=J.out.size;have r4:w7.cell? ⟨w.heap.size+2,4,none⟩=some V'.fv:=AA o.out.at_.root 4 _ rfl;have r5:w7.cell? ⟨w.heap.size+2,5,none⟩=some (.map (some V'.md)):=AA o.out.at_.root 5 _ rfl;rw[E]at r4;have aa:Hid (∀k,(Value.slice va T vc).ownBlock=some k→(wr).heap.size≤k):=QA λk hk=>(AJ hdo k hk).1
      clear aB hS hdo hb7 b0 b1;go_wp2_with fail;refine AK (λw'=>w'.cell? ⟨w.heap.size+2,4,none⟩=some (.slice fa G.length F)∧w'.cell? ⟨w.heap.size+2,5,none⟩=some (.map (some V'.md))) 11 (by kernel_rfl) ?_;have hS:w7.drew.cell? ⟨w.heap.size+2,4,none⟩=some (.slice fa G.length F)∧w7.drew.cell? ⟨w.heap.size+2,5,none⟩=some (.map (some V'.md)):=⟨r4,r5⟩
      refine TK (i:=0) (v:=(.pointer (some ⟨w.heap.size+2,0,none⟩))) rfl (Or.inl ⟨by rfl,λw hSw=>by go_simp⟩) hS ?_;simp only[Act.put,QD,QK,QI,QJ,QC,QH,QG];refine TK (i:=1) (v:=(.pointer (some ⟨w.heap.size+2,0,none⟩))) rfl (Or.inl ⟨by rfl,λw hSw=>by go_simp⟩) hS ?_;simp only[Act.put,QD,QK,QI,QJ,QC,QH,QG];refine TK (i:=2) (v:=(.pointer (some ⟨w.heap.size+2,5,none⟩))) rfl (Or.inl ⟨by rfl,λw hSw=>by go_simp⟩) hS ?_;simp only[Act.put,QD,QK,QI,QJ,QC,QH,QG];refine TK (i:=3) (v:=(.map (some V'.md))) rfl (Or.inl ⟨by rfl,λw hSw=>by go_simp⟩) hS ?_;simp only[Act.put,QD,QK,QI,QJ,QC,QH,QG];refine TK (i:=4) (v:=(.string s)) rfl (Or.inl ⟨by rfl,λw hSw=>by go_simp⟩) hS ?_;simp only[Act.put,QD,QK,QI,QJ,QC,QH,QG];refine TK (i:=5) (v:=(.pointer (some ⟨w.heap.size+2,0,none⟩))) rfl (Or.inl ⟨by rfl,λw hSw=>by go_simp⟩) hS ?_;simp only[Act.put,QD,QK,QI,QJ,QC,QH,QG];refine TK (i:=6) (v:=(.pointer (some ⟨w.heap.size+2,0,none⟩))) rfl (Or.inl ⟨by rfl,λw hSw=>by go_simp⟩) hS ?_;simp only[Act.put,QD,QK,QI,QJ,QC,QH,QG];refine TK (i:=7) (v:=(.pointer (some ⟨w.heap.size+2,4,none⟩))) rfl (Or.inl ⟨by rfl,λw hSw=>by go_simp⟩) hS ?_;simp only[Act.put,QD,QK,QI,QJ,QC,QH,QG];refine TK (i:=8) (v:=(.slice fa G.length F)) rfl (Or.inl ⟨by rfl,λw hSw=>by go_simp⟩) hS ?_;simp only[Act.put,QD,QK,QI,QJ,QC,QH,QG];refine TK (i:=9) (v:=(.int .i64 (G.length:Nat))) rfl (Or.inl ⟨by rfl,λw hSw=>by go_simp⟩) hS ?_;simp only[Act.put,QD,QK,QI,QJ,QC,QH,QG];have HW:Hid ((Lit.int .i64 (G.length:Nat)).wf=true):=by
       refine QA ?_;have e1:IntKind.i64.min=-9223372036854775808:=by decide
       have e2:IntKind.i64.max=9223372036854775807:=by decide
       simp[Lit.wf,e1,e2];omega
      have bc:Hid (Ah w7.drew V'.md S):=QA (o.out.at_.dir);refine TO (i:=10) ?_;refine AF (by decide) (λK7 HK7=>?_);simp only[QE,QL,QF,QN];go_wp2_with (first|(at_mapUpdate;refine wpList_mapUpdate_own _ rfl _ _ _ 66 rfl 9 3 Af Tryz.underlying66 _ V'.md _ _ rfl bc.out (by unfold maxLen;omega) _ _ _ rfl rfl aj _ [] (plainElem_int Tryz.underlying3 HW.out) ?_;intro w8 hown8 hgrow8)|fail);have aM:=AE o.out.at_.root;have aq:w.heap.size+2≠V'.md:=λe=>by have I:=o.out.at_.tdir;rw[← e,o.out.at_.tB]at I;cases I
      have W:w8.heap[w.heap.size+2]?=some (.cells (Am (Fs.midc st.room G S) V') 70 (0,0)):=by
       rw[hgrow8.block _ aM (λe=>aq (Option.some.inj e))];exact o.out.at_.root
      have al:Hid (Ah w8 V'.md (Fs.mput S s.data.toList G.length)):=by
       rw[Fs.datum_put]at hown8;exact QA (Ah.of hown8)
      have Q:Hid (Kept own' (·=.dir) w7 w8):=QA (((Kept.refl _ _ _).drewN 1).grown hgrow8 (λk e=>.inl (by rw[← Option.some.inj e];exact o.out.at_.tdir)));have ac:Hid (w8.ownsRow w.heap.size 106 1 (.slice fa G.length F) G.length (V'.fb.map λb=>.pointer (some ⟨b,0,none⟩))):=by
       rw[← E];exact QA (AQ o.out.at_.files (λg hg=>Q.out.block g (AJ o.out.at_.files g hg).2 (by rw[o.out.at_.tfiles g hg];simp)))
      have cj:=Q.out.size;have aC:w8.cell? ⟨w.heap.size+2,4,none⟩=some V'.fv:=AA W 4 _ rfl;rw[E]at aC;refine HK7.out _ _ ⟨λ_=>⟨aC,AA W 5 _ rfl⟩,?_⟩;clear HK7 hown8 hgrow8 hS r4 r5;refine AM (by kernel_rfl) ?_ _;obtain⟨i0,a9,bj,aI,aA⟩:=info_parts GM;have bm:∀w9,((w8.alloc (.cells #[.slice va T vc,.int .i64 (T:Nat)] 111)).alloc (.cells #[.pointer (some ⟨w8.heap.size,0,none⟩)] 106)).grownBy w9 (Value.slice fa G.length F).ownBlock→w9.cell? ⟨w.heap.size+2,4,none⟩=some (.slice fa G.length F)∧w9.frozen? ⟨w.heap.size+2,4,none⟩=false:=λw9 hgrow9=>by
       have ao:w9.heap[w.heap.size+2]?=some (.cells (Am (Fs.midc st.room G S) V') 70 (0,0)):=by
        rw[hgrow9.block _ (by simp;omega) (λe=>by
         have I:=o.out.at_.tfiles _ (by rw[E];exact e.symm);rw[o.out.at_.tB]at I;cases I),Lib.alloc_old _ _ _ (by simp;omega),Lib.alloc_old _ _ _ (by omega)]
        exact W
       exact⟨by rw[← E];exact AA ao 4 _ rfl,AC ao 4⟩
      have bd:Hid (∀j u,[(.pointer (some ⟨w8.heap.size,0,none⟩):Value)][j]?=some u→((w8.alloc (.cells #[.slice va T vc,.int .i64 (T:Nat)] 111)).alloc (.cells #[.pointer (some ⟨w8.heap.size,0,none⟩)] 106)).cell? ((⟨w8.heap.size+1,0,none⟩:Addr).add j)=some u):=by
       have h9:=cell_one_new (w8.alloc (.cells #[.slice va T vc,.int .i64 (T:Nat)] 111)) (.pointer (some ⟨w8.heap.size,0,none⟩)) 106;rw[show (w8.alloc (.cells #[.slice va T vc,.int .i64 (T:Nat)] 111)).heap.size=w8.heap.size+1 by simp]at h9;exact QA h9
      have an:=QA E;clear E W;go_wp2_with (first|(at_builtin;refine wpList_append_own_at _ rfl _ _ 67 rfl w.heap.size 106 i0 (.pointer none) 1 8 Tryz.underlying67 a9 bj aI aA rfl (by decide) (.slice fa G.length F) G.length (V'.fb.map λb=>.pointer (some ⟨b,0,none⟩)) rfl (World.ownsRow.alloc (World.ownsRow.alloc ac.out _) _) ⟨w8.heap.size+1,0,none⟩ 1 1 [.pointer (some ⟨w8.heap.size,0,none⟩)] rfl rfl bd.out (λu hu=>by simp at hu;subst hu;rfl) (by unfold maxLen;omega) (by omega) (by simp;omega) ?_;intro fv' w9 hown9 hgrow9 hnil9 hloc9;clear hnil9;obtain⟨cc,cE⟩:=bm _ hgrow9;obtain⟨ga,ca,rfl⟩:=Bl hown9 (by omega);have aD:=QA hloc9;have af:=QA hown9;have U:=QA hgrow9;clear hloc9 hown9 hgrow9)|fail);have be:=bg.out;subst be;obtain⟨au,ay,a4,R⟩:=Ad.plant (l:=f.1.take C) (n:=s.data.toList) o.out Q.out al.out (av.out.mono (by show w.heap.size≤(wr).heap.size;omega)) (λk hk=>L.out.fresh k (Nat.le_trans ap (aa.out k hk))) af.out (by rw[an.out];exact U.out) (by rw[an.out];exact aD.out) (by omega);go_roundg (N-(i+1))
      case measure=>rw[b3.out];omega
      case rel =>
       refine⟨i+1,G++[(f.1.take C,(f.1.take C).length)],Fs.mput S s.data.toList G.length,_,au,by omega,rfl,by simp,ay,λb hb=>?_,?_,by rw[List.length_append,bN.out];rfl,?_,by rw[← ar.out];exact bE.out⟩
       ·rw[a4 b (by omega) (λe=>by have:=aa.out b e;omega)];exact ai.out b hb
       ·refine⟨R.os.trans (J.out.os.trans A.out.os),R.tape.trans (J.out.tape.trans A.out.tape),R.output.trans (J.out.output.trans A.out.output),by have:=R.size;omega,λb hb ht=>?_⟩;rw[R.block b (by omega) (by rw[ai.out b hb];exact ht),J.out.block b (by omega)];exact A.out.block b hb ht
       ·rw[Fs.mput_len2];have:=Fs.mdel_len S s.data.toList;omega
    ·have bC:(N:Int)≤(i:Int):=by omega
     have a1:Fs.crashGo (Fs.cutOf st D tails) (Fs.keys D) [] []=(G,S):=by
      rw[← bT.out,List.drop_of_length_le (by rw[← aS.out];omega),Fs.crashGo]
     have HE:Hid (Fs.crash st dirs tails={ Fs.midc st.room G S with sure:=S }):=by
      rw[co.out,a1];exact QA rfl
     have r5:wr.cell? ⟨w.heap.size+2,5,none⟩=some (.map (some V'.md)):=AA L.out.at_.root 5 _ rfl;clear a1;go_wp2_with fail;refine (GB V'.md S wr L.out.at_.dir).mono ?_;rintro e w8 ⟨rfl,hm8,hb8⟩;have al:=QA hm8;have bG:=QA hb8;have bp:=(hb8.block _ (AE L.out.at_.root)).trans L.out.at_.root;have x6:=AA bp 6 _ rfl;have y6:=AC bp 6;clear hm8 hb8 bp;go_wp2_with fail;go_ret;rw[HE.out];have ah:=L.out.at_.synced1 bG.out al.out (by omega);have c2:=al.out.lt;have hB:=AE L.out.at_.root;refine⟨_,_,_,rfl,⟨ah,λb hb=>?_,λb hb=>?_⟩,?_⟩
     ·have I:w8.heap.size≤b:=by simpa [World.setCell] using hb
      unfold Br;rw[if_neg (by omega)];exact L.out.fresh b (by omega)
     ·rw[Aj (by omega)];exact L.out.old b hb
     ·refine ((a8.out.trans (bG.out.mono (by omega)))).setCell (p:=⟨w.heap.size+2,6,none⟩) (by show w.heap.size≤w.heap.size+2;omega) _
end Go.Proofs.YtmlekglfdiacpaaGreatDoor
