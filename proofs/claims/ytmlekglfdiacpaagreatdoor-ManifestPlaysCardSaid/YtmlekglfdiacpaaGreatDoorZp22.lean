/-
  The document's manifests: Decode, walked. The document's manifests: Clean, walked. Manifests: Load; the law's own words (ref, same); the fixed fact (awake), walked. The law's own words (ref, same); the fixed fact (awake), walked.
-/
import Derived.Test.YtmlekglfdiacpaaGreatDoorZp17
import Derived.Test.YtmlekglfdiacpaaGreatDoorZp21
import Derived.Test.YtmlekglfdiacpaaGreatDoorZp2
import Derived.Test.YtmlekglfdiacpaaGreatDoorZp18
import Derived.Test.YtmlekglfdiacpaaGreatDoorZp10
open Array renaming getInternal_eq_getElem → QD
open Go.Lib renaming hid → QA
open List renaming setIfInBounds_toArray → QC, drop_succ_cons → QE, take_succ_cons → QF, set_cons_succ → QG, set_cons_zero → QH, getElem_cons_zero → QI, getElem_cons_succ → QJ, getElem_toArray → QK, drop_zero → QL, take_zero → QN, mem_of_getElem? → QZ, drop_eq_nil_of_le → ZC, getElem?_eq_getElem → ZG
open Nat renaming le_refl → QM, zero_le → ZS, lt_of_lt_of_le → ZT
namespace Go.Proofs.YtmlekglfdiacpaaGreatDoor
set_option maxRecDepth 100000
set_option maxHeartbeats 4000000
set_option linter.unusedSimpArgs false
set_option linter.unusedVariables false
open Go Go.RowKit
open Go.Maps Go.WideMaps
def GA (b:List UInt8) (w:World) (e:Ending) (w':World):Prop :=
 Below w.heap.size w w'∧((∃v l sv,Mf.refRead b=some (v,l)∧e=.returned (.tuple #[.agg #[.int .i64 v,sv],.bool true])∧Be w' sv l) ∨
  (Mf.refRead b=none∧e=.returned (.tuple #[.agg #[.int .i64 0,.slice none 0 0],.bool false])))
theorem DC {Q:Ending→World→Prop} {a:Act} {W:World} (g:Nat) (v:Int) (sv:Value) (ok:Bool) (h2:a.tmps[2]?=some (.pointer (some ⟨g,0,none⟩))) (h3:a.tmps[3]?=some (.bool ok)) (hd:a.defers=[])
  (hW:W.heap[g]?=some (.cells #[.int .i64 v,sv] 48 (0,0))) (hQ:Q (.returned (.tuple #[.agg #[.int .i64 v,sv],.bool ok])) W):bodyPost Tryz.prog Tryz.f55 Q .ret a W:=by
 have A:W.cell? ⟨g,0,none⟩=some (.int .i64 v):=AA hW 0 _ rfl;have o:W.cell? ⟨g,1,none⟩=some sv:=AA hW 1 _ rfl;exact bodyPost_ret (v:=.tuple #[.agg #[.int .i64 v,sv],.bool ok]) (by simp[results,Tryz.results55,go_sem,h2,h3,A,o]) hd hQ
theorem Bh {b:List UInt8} {a:Act} {w W:World} (h2:a.tmps[2]?=some (.pointer (some ⟨w.heap.size,0,none⟩))) (h3:a.tmps[3]?=some (.bool false)) (hd:a.defers=[])
  (hW:W.heap[w.heap.size]?=some (.cells #[.int .i64 0,.slice none 0 0] 48 (0,0))) (hb:Below w.heap.size w W) (hn:Mf.refRead b=none) :
  bodyPost Tryz.prog Tryz.f55 (GA b w) .ret a ((W.setCell ⟨w.heap.size,0,none⟩ (.int .i64 0)).setCell ⟨w.heap.size,1,none⟩ (.slice none 0 0)):=by
 refine DC w.heap.size 0 (.slice none 0 0) false h2 h3 hd (heap_set (heap_set hW _) _) ⟨?_,.inr ⟨hn,rfl⟩⟩;exact (hb.setCell (p:=⟨w.heap.size,0,none⟩) (QM _) _).setCell (p:=⟨w.heap.size,1,none⟩) (QM _) _
theorem D5 {b:List UInt8} {a:Act} {w W:World} {o:Obj} (h2:a.tmps[2]?=some (.pointer (some ⟨w.heap.size,0,none⟩))) (h3:a.tmps[3]?=some (.bool false)) (hd:a.defers=[])
  (hW:W.heap[w.heap.size]?=some (.cells #[.int .i64 0,.slice none 0 0] 48 (0,0))) (hb:Below w.heap.size w W) (hn:Mf.refRead b=none) :
  bodyPost Tryz.prog Tryz.f55 (GA b w) .ret a (((W.setCell ⟨w.heap.size,0,none⟩ (.int .i64 0)).setCell ⟨w.heap.size,1,none⟩ (.slice none 0 0)).alloc o):=by
 have B:=heap_set (k:=1) (heap_set (k:=0) hW (.int .i64 0)) (.slice none 0 0);have A:=(hb.setCell (p:=⟨w.heap.size,0,none⟩) (QM _) (.int .i64 0)).setCell (p:=⟨w.heap.size,1,none⟩) (QM _) (.slice none 0 0);refine DC w.heap.size 0 (.slice none 0 0) false h2 h3 hd ?_ ⟨A.alloc A.size o,.inr ⟨hn,rfl⟩⟩;rw[Lib.alloc_old _ _ _ (AE B)];exact B
theorem Gh (s:ByteArray) (w:World) (hs:s.size≤1000000000) :
  Calls Tryz.prog 55 #[.string s] w (GA s.data.toList w):=by
 have bM:(0:Int)≤(s.size:Int):=Int.natCast_nonneg _;have hl:=Bs s;obtain⟨b,hb⟩:∃b,b=s.data.toList:=⟨_,rfl⟩
 rw[← hb]at hl;have bw:=QA hl;have aK:=QA hb;go_enter Tryz.func55,Tryz.ntmps55;rw[← hb];clear hb hl;have a3:Below w.heap.size w (w.alloc (.cells #[.int .i64 0,.slice none 0 0] 48)):=(Below.refl _ _).alloc (QM _) _;have a6:=AH w (.cells #[.int .i64 0,.slice none 0 0] 48);have aI:=QA a3;have aQ:=QA a6;clear a3 a6;go_wp2_with fail;refine (IY s _ (by omega)).mono ?_;rintro e w1 ⟨he,hb1⟩;unfold CG at he;rw[← aK.out]at he;obtain⟨k,hk⟩:∃k,k=(if Fr.decE b=0 then Fr.kind b else 0):=⟨_,rfl⟩
 obtain⟨p,hp⟩:∃p:ByteArray,p=⟨(if Fr.decE b=0 then Fr.pay b else []).toArray⟩:=⟨_,rfl⟩
 rw[← hk,← hp]at he;obtain⟨c,hc⟩:∃c,c=Fr.decE b:=⟨_,rfl⟩
 rw[← hc]at he;subst he;have U:=QA (aI.out.trans (hb1.mono aI.out.size));have Z:=QA ((hb1.block _ (AE aQ.out)).trans aQ.out);have HC:=QA hc;have HK:=QA hk;have HP:=QA hp;clear hb1 hc hk hp;have L:=Z.out;have bn:w.heap.size<w1.heap.size:=AE L;have q0:w1.frozen? ⟨w.heap.size,0,none⟩=false:=AC L 0;have q1:w1.frozen? ⟨w.heap.size,1,none⟩=false:=AC L 1;have p0:w1.cell? ⟨w.heap.size,0,none⟩=some (.int .i64 0):=AA L 0 _ rfl;have p1:w1.cell? ⟨w.heap.size,1,none⟩=some (.slice none 0 0):=AA L 1 _ rfl;have a7:Hid (Below w.heap.size w (w1.alloc (.cells #[.int .i64 k,.string p] 157))):=QA (U.out.alloc U.out.size _);clear L;by_cases hc0:c=0
 ·by_cases hk9:k=9
  ·subst hc0;subst hk9;have aU:Hid (p.data.toList=Fr.pay b):=by rw[HP.out,← HC.out];exact QA rfl
   have a9:Hid (Mf.refRead b=(Mf.scan 0 0 [] (Fr.pay b)).bind λns=>if ns.length<2 then none else Mf.fit b ns):=by
    unfold Mf.refRead;rw[if_neg (by have:=HK.out;rw[← HC.out]at this ⊢;simp at this;intro h;rcases h with h|h;exact h rfl;exact h this.symm)];exact QA rfl
   have bS:p.size≤1000000000:=by
    have G:p.size=(Fr.pay b).length:=by rw[← aU.out,Bs]
    have Y:(Fr.pay b).length≤b.length:=by unfold Fr.pay;rw[List.length_take,List.length_drop];omega
    have h3:=bw.out;omega
   have bQ:(0:Int)≤(p.size:Int):=Int.natCast_nonneg _;obtain⟨S,K⟩:∃x,x=w1.alloc (.cells #[.int .i64 9,.string p] 157):=⟨_,rfl⟩
   have aS:Hid (S.heap[w.heap.size]?=some (.cells #[.int .i64 0,.slice none 0 0] 48 (0,0))):=QA (by rw[K,Lib.alloc_old _ _ _ bn];exact Z.out);have aM:Hid (S.heap[w1.heap.size]?=some (.cells #[.int .i64 9,.string p] 157 (0,0))):=QA (by rw[K];exact AH _ _);have au:Hid (Below w.heap.size w S):=by rw[K];exact a7
   have aL:S.heap.size=w1.heap.size+1:=by rw[K];simp
   have bk:=QA aL;clear HC HK HP;go_wp2_with fail;rw[← K];clear K aL q0 q1 p0 p1 a7
   go_loopg [6,7,8,9,10] p.size (λk s6 s7 s8 s9 s10 wr=>∃(j n d:Nat) (o:List Int),j≤p.size∧k=p.size-j∧s9=.int .i64 (j:Nat)∧s7=.int .i64 (n:Nat)∧s8=.int .i64 (d:Nat)∧Ae wr S.heap.size s6 o∧o.length≤j∧Mf.scan n d o (sfx p j)=Mf.scan 0 0 [] (Fr.pay b)∧n<10 ^ d∧d≤10∧Below S.heap.size S wr)
   case atStart=>exact⟨0,0,0,[],ZS _,rfl,rfl,rfl,rfl,World.ownsRow_nil _ _ _ _,QM _,by unfold sfx;rw[QL,aU.out],by decide,by omega,Below.refl _ _⟩
   case round =>
    obtain⟨j,n,d,o,hj,hk,rfl,rfl,rfl,an,bv,aW,hn,hd,N⟩:=hrel;obtain⟨sa,B,F,be,bl⟩:=Ae.form3 an;subst be;have HK:=QA hk;have V:=QA an;have X:=QA aW;have ao:=QA N;have bi:=QA hn;have bG:n<10000000000:=ZT hn (Nat.pow_le_pow_right (by omega) hd);have bU:(0:Int)≤(n:Int):=Int.natCast_nonneg _;have bP:(0:Int)≤(d:Int):=Int.natCast_nonneg _;have b0:(0:Int)≤(j:Int):=Int.natCast_nonneg _;have aw:=(N.block _ (AE aM.out)).trans aM.out;have aV:=(N.block _ (AE aS.out)).trans aS.out;have bY:=QA aw;have A:=QA aV;have f1:=AA aw 1 _ rfl;have E:=QA (au.out.trans (N.mono au.out.size));clear hk an aW N hn aw aV;by_cases hjn:j<p.size
    ·have aP:(j:Int)<(p.size:Int):=by omega
     have bm:=De p j;have ax:=QA (FU p j hjn);by_cases h10:(bt p j).toNat=10
     ·have bq:=eqT (n:=(bt p j).toNat) (k:=10) (by omega);have aq:Hid (Mf.scan 0 0 (o++[(n:Int)]) (sfx p (j+1))=Mf.scan 0 0 [] (Fr.pay b)):=by
       rw[← X.out,ax.out,Mf.scan,if_pos h10];exact QA rfl
      have T:Below wr.heap.size wr (wr.alloc (.cells #[.int .i64 (n:Int)] 3)):=(Below.refl _ _).alloc (QM _) _;have aR:=QA (V.out.keep T);have bo:=QA (Ae.one wr (n:Int) wr.heap.size (QM _)).nums;have aZ:=ao.out.size;have br:=QA (ao.out.trans (T.mono aZ));have aN:S.heap.size≤(wr.alloc (.cells #[.int .i64 (n:Int)] 3)).heap.size:=Nat.le_trans aZ T.size;have ai:o.length+1≤2000000000:=by omega
      have bs:=QA ai;clear T ai;go_wp2_with (first|(at_builtin;refine BI rfl _ _ rfl S.heap.size (.slice sa B F) o rfl aR.out (.slice (some ⟨wr.heap.size,0,none⟩) 1 1) [(n:Int)] rfl bo.out (by simp) (by have:=bs.out;rw[List.length_singleton];omega) aN ?_;intro d' w5 hown hgrow hloc;clear hloc;have aO:=QA hown;have bp:=QA hgrow;clear hown hgrow)|fail);go_roundg (p.size-(j+1))
      case measure=>rw[HK.out];omega
      case rel=>exact⟨j+1,0,0,o++[(n:Int)],by omega,rfl,by simp,rfl,rfl,aO.out,by rw[List.length_append,List.length_singleton];omega,aq.out,by decide,by omega,below_grown br.out aN aR.out bp.out⟩
     ·have bq:=eqF (n:=(bt p j).toNat) (k:=10) (by omega);by_cases hdig:Sg.isDig (bt p j)=false∨9<d
      ·have M:Hid (Mf.refRead b=none):=by
        rw[a9.out,← X.out,ax.out,Mf.scan,if_neg h10,if_pos hdig];exact QA rfl
       have q0:=AC A.out 0;have q1:=AC A.out 1;have p0:=AA A.out 0 _ rfl;have p1:=AA A.out 1 _ rfl;have bb:(bt p j).toNat<48∨(48≤(bt p j).toNat∧57<(bt p j).toNat)∨(48≤(bt p j).toNat∧(bt p j).toNat≤57∧9<d):=by
        rcases hdig with h|h
        ·unfold Sg.isDig at h;rw[Bool.and_eq_false_iff,decide_eq_false_iff_not,decide_eq_false_iff_not]at h;omega
        ·omega
       clear hdig;rcases bb with hc1|⟨hc1,hc2⟩|⟨hc1,hc2,hc3⟩
       ·have ab:((bt p j).toNat:Int)<48:=by omega
        go_wp2_with fail;exact Bh rfl rfl rfl A.out E.out M.out
       ·have ab:48≤((bt p j).toNat:Int):=by omega
        have a8:57<((bt p j).toNat:Int):=by omega
        go_wp2_with fail;exact Bh rfl rfl rfl A.out E.out M.out
       ·have ab:48≤((bt p j).toNat:Int):=by omega
        have a8:((bt p j).toNat:Int)≤57:=by omega
        have bD:9<(d:Int):=by omega
        go_wp2_with fail;exact Bh rfl rfl rfl A.out E.out M.out
      ·have aq:Hid (Mf.scan (n*10+((bt p j).toNat-48)) (d+1) o (sfx p (j+1))=Mf.scan 0 0 [] (Fr.pay b)):=by
        rw[← X.out,ax.out,Mf.scan,if_neg h10,if_neg hdig];exact QA rfl
       have bu:48≤(bt p j).toNat∧(bt p j).toNat≤57∧d≤9:=by
        have G:¬Sg.isDig (bt p j)=false:=λh=>hdig (.inl h)
        unfold Sg.isDig at G;simp at G;exact⟨G.1,G.2,by omega⟩
       obtain⟨bL,b2,bV⟩:=bu;have g1:(48:Int)≤((bt p j).toNat:Int):=by omega
       have g2:((bt p j).toNat:Int)≤57:=by omega
       have g3:(d:Int)≤9:=by omega
       clear hdig;go_wp2_with fail;go_roundg (p.size-(j+1))
       case measure=>rw[HK.out];omega
       case rel =>
        refine⟨j+1,n*10+((bt p j).toNat-48),d+1,o,by omega,rfl,by simp,?_,by simp,V.out,by omega,aq.out,?_,by omega,ao.out⟩
        ·congr 1;omega
        ·have:=bi.out;rw[Nat.pow_succ];omega
    ·have aP:(p.size:Int)≤(j:Int):=by omega
     have ah:Hid (Mf.refRead b=if o.length<2 then none else Mf.fit b o):=by
      rw[a9.out,← X.out,show sfx p j=[] from ZC (by rw[Bs];omega)];exact QA rfl
     have Q:B=o.length:=bl.out;have a5:Hid (o.length≤j∧j≤1000000000):=QA ⟨bv,by omega⟩;have q0:=AC A.out 0;have q1:=AC A.out 1;have p0:=AA A.out 0 _ rfl;have p1:=AA A.out 1 _ rfl;by_cases Y:o.length<2
     ·have M:Hid (Mf.refRead b=none):=by rw[ah.out,if_pos Y];exact QA rfl
      have ar:(B:Int)<2:=by omega
      clear Q;go_wp2_with fail;exact Bh rfl rfl rfl A.out E.out M.out
     ·have ar:2≤(B:Int):=by omega
      obtain⟨v,l,rfl⟩:∃v l,o=v::l:=by
       cases o with
       | nil=>exact absurd (by simp) Y
       | cons a r=>exact⟨a,r,rfl⟩
      have al:Hid (Mf.refRead b=if Mf.good v l=true∧Mf.enc v l=b then some (v,l) else none):=by rw[ah.out,if_neg Y];exact QA rfl
      have ag:B=l.length+1:=by rw[Q];rfl
      have aX:=QA (Ae.nums V.out);rcases V.out.2 with⟨G,ar⟩|⟨g,cap,cur,G,hg,hb,hcap,hm,_,_⟩
      ·simp at ar
      simp only[Value.slice.injEq]at G;obtain⟨rfl,a2,rfl⟩:=G;have ba:B≤F:=by rw[a2];exact hcap
      obtain⟨_,_,e1,aT,c0⟩:=aX.out.at (i:=0) (x:=v) rfl;simp only[Option.some.injEq,Addr.mk.injEq,and_true]at e1;obtain⟨rfl,rfl⟩:=e1;rw[Nat.add_zero]at c0;have bg:(B:Int)≤(F:Int):=by omega
      have bF:¬F=1:=by omega
      have bH:(2:Int)≤(B:Int):=by omega
      have bB:¬B=0:=by omega
      have aj:=QA ag;clear Q a2 hcap hm hb ag;go_wp2_with fail;refine AK (λw'=>w'.cell? ⟨g,0,none⟩=some (.int .i64 v)) 8 (by kernel_rfl) ?_;have hS:wr.drew.cell? ⟨g,0,none⟩=some (.int .i64 v):=c0;refine TK (i:=0) (v:=(.slice (some ⟨g,0,none⟩) B F)) rfl (Or.inl ⟨by rfl,λw hSw=>by go_simp⟩) hS ?_;simp only[Act.put,QD,QK,QI,QJ,QC,QH,QG];refine TK (i:=1) (v:=(.pointer (some ⟨g,0,none⟩))) rfl (Or.inl ⟨by rfl,λw hSw=>by go_simp⟩) hS ?_;simp only[Act.put,QD,QK,QI,QJ,QC,QH,QG];refine TK (i:=2) (v:=(.int .i64 v)) rfl (Or.inl ⟨by rfl,λw hSw=>by go_simp⟩) hS ?_;simp only[Act.put,QD,QK,QI,QJ,QC,QH,QG];refine TK (i:=3) (v:=(.slice (some ⟨g,0,none⟩) B F)) rfl (Or.inl ⟨by rfl,λw hSw=>by go_simp⟩) hS ?_;simp only[Act.put,QD,QK,QI,QJ,QC,QH,QG];refine TK (i:=4) (v:=(.slice (some ⟨g,1,none⟩) (B-1) (F-1))) rfl (Or.inl ⟨by rfl,λw hSw=>by go_simp;(repeat' split)<;>first|rfl|omega⟩) hS ?_;simp only[Act.put,QD,QK,QI,QJ,QC,QH,QG];refine TK (i:=5) (v:=(.agg #[.int .i64 v,.slice (some ⟨g,1,none⟩) (B-1) (F-1)])) rfl (Or.inl ⟨by rfl,λw hSw=>by go_simp⟩) hS ?_;simp only[Act.put,QD,QK,QI,QJ,QC,QH,QG];refine TO (i:=6) ?_;refine AF (by decide) (λK5 HK5=>?_);simp only[QE,QL,QF,QN];go_wp2_with fail;have aY:Below wr.heap.size wr (wr.alloc (.cells #[.int .i64 0,.slice none 0 0] 48)).drew:=Below.drew ((Below.refl _ _).alloc (QM _) _);have ap:(wr.alloc (.cells #[.int .i64 0,.slice none 0 0] 48)).drew.heap[wr.heap.size]?=some (.cells #[.int .i64 0,.slice none 0 0] 48 (0,0)):=AH wr _;refine HK5.out _ _ ⟨λ_=>by rw[aY.cell aT];exact c0,?_⟩;clear HK5 hS;have r0:=AC ap 0;have r1:=AC ap 1;refine TO (i:=7) ?_;refine AF (by decide) (λK6 HK6=>?_);simp only[QE,QL,QF,QN];go_wp2_with fail;have J:Below wr.heap.size wr (wr.alloc (.cells #[.int .i64 v,.slice (some ⟨g,1,none⟩) (B-1) (F-1)] 48)).drew:=Below.drew ((Below.refl _ _).alloc (QM _) _);refine HK6.out _ _ ⟨λ_=>by rw[J.cell aT];exact c0,?_⟩;clear HK6;refine AM (by kernel_rfl) ?_ _;have W:(wr.alloc (.cells #[.int .i64 v,.slice (some ⟨g,1,none⟩) (B-1) (F-1)] 48)).drew.heap[wr.heap.size]?=some (.cells #[.int .i64 v,.slice (some ⟨g,1,none⟩) (B-1) (F-1)] 48 (0,0)):=AH wr _;have av:Hid (Be (wr.alloc (.cells #[.int .i64 v,.slice (some ⟨g,1,none⟩) (B-1) (F-1)] 48)).drew (.slice (some ⟨g,1,none⟩) (B-1) (F-1)) l):=QA ⟨some ⟨g,1,none⟩,F-1,by rw[show B-1=l.length by have:=aj.out;omega],λi x hi=>by
       obtain⟨_,_,e1,G,Y⟩:=aX.out.at (i:=i+1) (x:=x) hi;simp only[Option.some.injEq,Addr.mk.injEq,and_true]at e1;obtain⟨rfl,rfl⟩:=e1;refine⟨_,1,rfl,ZT G J.size,?_⟩;rw[J.cell G,show 1+i=0+(i+1) by omega];exact Y⟩
      have bx:Hid (l.length≤9223372036854775807):=QA (by have:=a5.out;simp at this;omega);have aA:=QA ((J.block _ (AE A.out)).trans A.out);have ay:=QA W;have az:=QA (E.out.trans (J.mono E.out.size));have s0:=AA W 0 _ rfl;have s1:=AA W 1 _ rfl;clear J W q0 q1 p0 p1 r0 r1 ap aY c0;obtain⟨W9,a1⟩:∃x,x=(wr.alloc (.cells #[.int .i64 v,.slice (some ⟨g,1,none⟩) (B-1) (F-1)] 48)).drew:=⟨_,rfl⟩
      rw[← a1]at av aA ay az s0 s1 ⊢;clear a1;go_wp2_with fail;refine (C8 v _ l W9 av.out bx.out).mono ?_;rintro e w10 ⟨rfl,hb10⟩;have C:=(hb10.block _ (AE aA.out)).trans aA.out;have I:=(hb10.block _ (AE ay.out)).trans ay.out;have P:=QA C;have af:=QA I;have R:=QA (az.out.trans (hb10.mono az.out.size));have q0:=AC C 0;have q1:=AC C 1;have p0:=AA C 0 _ rfl;have p1:=AA C 1 _ rfl;have t0:=AA I 0 _ rfl;have t1:=AA I 1 _ rfl;have ae:=QA (av.out.below hb10);clear C I hb10 s0 s1;cases hgd:Mf.good v l
      ·have M:Hid (Mf.refRead b=none):=by rw[al.out,if_neg (by rw[hgd];simp)];exact QA rfl
       clear hgd;go_wp2_with fail;exact Bh rfl rfl rfl P.out R.out M.out
      ·have a0:=QA hgd;clear hgd;go_wp2_with fail;refine (DF v _ l w10 ae.out a0.out).mono ?_;rintro e w11 ⟨rfl,hb11⟩;obtain⟨u,hu⟩:∃t:ByteArray,t=⟨(Mf.enc v l).toArray⟩:=⟨_,rfl⟩
       rw[← hu];have D:=(hb11.block _ (AE P.out)).trans P.out;have H:=(hb11.block _ (AE af.out)).trans af.out;have ac:=QA D;have bI:=QA H;have aa:=QA (R.out.trans (hb11.mono R.out.size));have a4:=QA (ae.out.below hb11);have q0:=AC D 0;have q1:=AC D 1;have p0:=AA D 0 _ rfl;have p1:=AA D 1 _ rfl;have t0:=AA H 0 _ rfl;have t1:=AA H 1 _ rfl;have O:(u.toList==s.toList)=decide (Mf.enc v l=b):=by
        rw[ByteArray.toList_eq,ByteArray.toList_eq,Bool.eq_iff_iff,beq_iff_eq,decide_eq_true_eq,← aK.out,hu]
       obtain⟨c,hc⟩:∃c:Bool,c=(u.toList==s.toList):=⟨_,rfl⟩
       rw[← hc]at O;have HC:=QA hc;clear hb11 hu D H hc;cases c
       ·have M:Hid (Mf.refRead b=none):=by rw[al.out,if_neg (λh=>of_decide_eq_false O.symm h.2)];exact QA rfl
        have bf:=HC.out.symm;clear O;go_wp2_with fail;exact Bh rfl rfl rfl ac.out aa.out M.out
       ·have HS:Hid (Mf.refRead b=some (v,l)):=by rw[al.out,if_pos ⟨a0.out,of_decide_eq_true O.symm⟩];exact QA rfl
        have bf:=HC.out.symm;clear O;go_wp2_with fail;refine DC w.heap.size v (.slice (some ⟨g,1,none⟩) (B-1) (F-1)) true rfl rfl rfl (heap_set (heap_set ac.out _) _) ⟨?_,.inl ⟨v,l,_,HS.out,rfl,?_⟩⟩
        ·exact (aa.out.setCell (p:=⟨w.heap.size,0,none⟩) (QM _) _).setCell (p:=⟨w.heap.size,1,none⟩) (QM _) _
        ·have aJ:g≠w.heap.size:=by
          have G:=au.out.size;have Y:=bk.out;have h3:S.heap.size≤g:=hg;omega
         refine⟨some ⟨g,1,none⟩,F-1,by rw[show B-1=l.length by have:=aj.out;omega],λi x hi=>?_⟩;obtain⟨_,_,e1,G,Y⟩:=a4.out.at hi;cases e1;refine⟨g,1,rfl,by simpa [World.setCell] using G,?_⟩;rw[World.cell?_of_block ((Below.heap_setCell _ _ _ _ aJ).trans (Below.heap_setCell _ _ _ _ aJ))];exact Y
  ·have bC:(k != 9)=true:=by rw[bne_iff_ne];exact hk9
   have M:Hid (Mf.refRead b=none):=by
    unfold Mf.refRead;rw[if_pos (.inr (by have:=HK.out;rw[← HC.out,if_pos hc0]at this;rw[← this];exact hk9))];exact QA rfl
   subst hc0;go_wp2_with fail;exact D5 rfl rfl rfl Z.out U.out M.out
 ·have bZ:(c != 0)=true:=by rw[bne_iff_ne];exact hc0
  have M:Hid (Mf.refRead b=none):=by
   unfold Mf.refRead;rw[if_pos (.inl (by rw[← HC.out];exact hc0))];exact QA rfl
  go_wp2_with fail;exact D5 rfl rfl rfl Z.out U.out M.out
open Go.Maps Go.WideMaps
namespace Fs
theorem keep_ref {l:List Int} (hg:∀z∈l,1≤z∧z≤2147483647) (n:List UInt8):keepN l n=(decide (n=Mf.final)||l.any λz=>decide (Sg.nameB z=n)):=by
 unfold keepN
 congr 1
 rw[Bool.eq_iff_iff,List.contains_iff_mem,List.any_eq_true];have B:∀z∈l,Sg.nameE z=0:=λz hz=>by
  have:=hg z hz;unfold Sg.nameE;rw[if_neg (by omega)]
 constructor
 ·intro h;have A:=hg _ h;exact⟨_,h,decide_eq_true (Sg.id_of rfl (by omega)).2⟩
 ·rintro⟨z,hz,h⟩;have A:=of_decide_eq_true h;have o:=(Sg.id_name (B z hz)).1;rw[A]at o;rw[o];exact hz
theorem any_take_add {α:Type} (f:α→Bool) (l:List α) (j:Nat) (x:α) (h:l[j]?=some x):(l.take (j+1)).any f=((l.take j).any f||f x):=by
 rw[List.take_add_one,h,List.any_append];simp
end Fs
def Jv (st:Fs.St) (V:RV) (r:Fs.St×Nat×Int) (w:World) (e:Ending) (w':World):Prop :=
 Below w.heap.size w w'∧∃V',e=.returned (.tuple #[.agg (AG r.1 V'),.int .i64 (r.2.1:Nat),.int .i64 r.2.2])∧Bz w w' (λw0=>RF w0 st V) (λw0=>RF w0 r.1 V')
theorem RAu.fin3 {w X:World} {ver:Int} {sv:Value} {st0 st:Fs.St} {V0 V:RV} (h:RAu w ver sv st0 V0 st V X) {a:Act} (n:Nat) (x:Int) (h4:a.tmps[4]?=some (.pointer (some ⟨w.heap.size+2,0,none⟩))) (h5:a.tmps[5]?=some (.int .i64 (n:Nat))) (h6:a.tmps[6]?=some (.int .i64 x)) (hd:a.defers=[]) :
  bodyPost Tryz.prog Tryz.f13 (Jv st0 V0 (st,n,x) w) .ret a (rput X (w.heap.size+2) st V):=by
 obtain⟨A,o,B⟩:=h.post;have E:=AA o 0 _ rfl;have F:=AA o 1 _ rfl;have G:=AA o 2 _ rfl;have C:=AA o 3 _ rfl;have J:=AA o 4 _ rfl;have H:=AA o 5 _ rfl;have D:=AA o 6 _ rfl;have I:=AA o 7 _ rfl;exact bodyPost_ret (v:=.tuple #[.agg (AG st V),.int .i64 (n:Nat),.int .i64 x]) (by simp[results,Tryz.results13,go_sem,h4,h5,h6,E,F,G,C,J,H,D,I,AG]) hd ⟨A,V,rfl,B⟩
set_option maxHeartbeats 8000000 in
theorem GJ (st:Fs.St) (V:RV) (ver:Int) (sv:Value) (l:List Int) (w:World) (h:RF w st V) (k:Nat) (hF:Fs.Fit st k) (hk:k≤100000) (hN:Be w sv l) (hl:l.length≤1000000000) :
  Calls Tryz.prog 13 #[.agg (AG st V),.agg #[.int .i64 ver,sv]] w (Jv st V (Fs.clean st ver l) w):=by
 obtain⟨sa,sc,rfl⟩:=hN.form;have h0:=RAu.start h ver (.slice sa l.length sc);obtain⟨W0,R⟩:∃q,q=((w.alloc (.cells (AG st V) 33)).alloc (.cells #[.int .i64 ver,.slice sa l.length sc] 48)).alloc (.cells fs0 33):=⟨_,rfl⟩
 rw[← R]at h0;have bk:(AG st V).size=8:=rfl;have m0:W0.cell? ⟨w.heap.size+1,0,none⟩=some (.int .i64 ver):=AA h0.m 0 _ rfl;have m1:W0.cell? ⟨w.heap.size+1,1,none⟩=some (.slice sa l.length sc):=AA h0.m 1 _ rfl;have aF:=QA (C8 ver (.slice sa l.length sc) l W0 (hN.below h0.e) (by omega));have H0:=QA h0;have HF:=QA hF;have HN:=QA hN;have H:=QA h;have ap:=QA R.symm;rw[R]at m0 m1;clear h0 h hF hN R;go_enter Tryz.func13,Tryz.ntmps13;go_wp2_with fail;rw[ap.out];refine aF.out.mono ?_;rintro e w1 ⟨rfl,hb1⟩;have H1:=QA (H0.out.below hb1);clear hb1 aF m0 m1 ap;obtain⟨g,hg⟩:∃g,g=Mf.good ver l:=⟨_,rfl⟩
 rw[← hg];have HG:=QA hg.symm;clear hg;cases g
 ·have U:Hid (Fs.clean st ver l=(st,0,1)):=QA (by unfold Fs.clean;rw[if_pos HG.out]);go_wp2_with (first|(refine AD rfl _ rfl _ _ _ rfl H1.out.a ?_)|(refine AB rfl _ _ rfl _ st V H1.out.one fs0 rfl rfl rfl H1.out.b ?_)|fail);rw[U.out];exact H1.out.fin3 0 1 rfl rfl rfl rfl
 have aS:Hid (Fs.clean st ver l=Fs.cleanGo l (st.dir.map (·.1)) st 0):=QA (by unfold Fs.clean;rw[if_neg (by rw[HG.out];simp),Fs.srt_keys HF.out.cap.srtd]);obtain⟨da,dc,aE⟩:=AY.form H.out.dir;have d2:w1.cell? ⟨w.heap.size,2,none⟩=some (.slice da st.dir.length dc):=AA H1.out.a 2 _ (by show some V.dv=_;rw[aE]);have P:=H.out.dir;rw[aE]at P;have az:=QA P;have be:=HF.out.cap.dir;have a3:=(Mf.good_out HG.out).2.1.2;clear P;go_wp2_with fail;clear d2
 go_loopg [7,8,10,11,12,13,14,23] st.dir.length (λk' s7 s8 s10 s11 s12 s13 s14 s23 X=>∃(i n:Nat) (A:Fs.St) (C:RV),i≤st.dir.length∧k'=st.dir.length-i∧s23=.int .i64 (i:Nat)∧s7=.int .i64 (n:Nat)∧n≤i ∧
  RAu w ver (.slice sa l.length sc) st V A C X∧Fs.Fit A (k+2*i)∧Fs.cleanGo l ((st.dir.drop i).map (·.1)) A n=Fs.clean st ver l)
 case atStart=>exact⟨0,0,st,V,ZS _,rfl,rfl,rfl,QM _,H1.out,HF.out,by rw[QL];exact aS.out.symm⟩
 case round =>
  obtain⟨i,n,A,C,hi,aC,rfl,rfl,hn,ar,aK,F⟩:=hrel;have HK:=QA aC;have J:=QA ar;have O:=QA aK;have T:=QA F;have bp:(0:Int)≤(i:Int):=Int.natCast_nonneg _;have bs:(0:Int)≤(n:Int):=Int.natCast_nonneg _;clear aC ar aK F;by_cases hin:i<st.dir.length
  ·have au:(i:Int)<(st.dir.length:Int):=by omega
   obtain⟨p,hp⟩:∃p,st.dir[i]?=some p:=⟨_,ZG hin⟩
   obtain⟨b,o,rfl,hb,c0,-⟩:=az.out.at2 hp;obtain⟨s,hs⟩:∃t:ByteArray,t=⟨p.1.toArray⟩:=⟨_,rfl⟩
   rw[← hs]at c0;have Q:Hid (s.data.toList=p.1):=QA (by rw[hs]);have z0:wr.cell? ⟨b,o+i*2,none⟩=some (.string s):=(J.out.e.cell hb).trans c0;have m1:wr.cell? ⟨w.heap.size+1,1,none⟩=some (.slice sa l.length sc):=AA J.out.m 1 _ rfl;have aD:=(HF.out.sound.dir p (QZ hp)).2;have aW:Hid (s.size≤1000000):=QA (by
    have h1:=Fs.good_len aD;have h3:s.size=s.data.toList.length:=by rw[Array.length_toList];rfl
    rw[h3,Q.out];omega)
   have HD:Hid (Fs.cleanGo l ((st.dir.drop i).map (·.1)) A n=if Fs.keepN l p.1 then Fs.cleanGo l ((st.dir.drop (i+1)).map (·.1)) A n else if (Fs.remove A p.1).2≠0 then ((Fs.remove A p.1).1,n,(Fs.remove A p.1).2) else Fs.cleanGo l ((st.dir.drop (i+1)).map (·.1)) (Fs.remove A p.1).1 (n+1)):=by
    obtain⟨h1,h2⟩:=List.getElem?_eq_some_iff.1 hp;rw[List.drop_eq_getElem_cons h1,h2,List.map_cons,Fs.cleanGo];exact QA rfl
   have aq:Hid (Fs.keepN l p.1=(decide (p.1=Mf.final)||l.any λz=>decide (Sg.nameB z=p.1))):=QA (Fs.keep_ref (λz hz=>Mf.good_all HG.out z (List.mem_cons_of_mem _ hz)) p.1);have ay:(s.toList==[109,97,110,105,102,101,115,116])=decide (s.data.toList=Mf.final):=by
    rw[ByteArray.toList_eq,Bool.eq_iff_iff,beq_iff_eq,decide_eq_true_eq];rfl
   obtain⟨bf,ab⟩:∃bf,bf=decide (p.1=Mf.final):=⟨_,rfl⟩
   rw[Q.out,← ab]at ay;rw[← ab]at aq;have aV:=J.out.e.size;have aJ:b<wr.heap.size:=ZT hb aV;clear hp hs aD ab;go_wp2_with fail
   rename World=>wo
   go_loopg [11,12,13,14,35] l.length (λk2 s11 s12 s13 s14 s35 Y=>∃j:Nat,j≤l.length∧k2=l.length-j∧s35=.int .i64 (j:Nat)∧s11=.bool (bf||(l.take j).any λz=>decide (Sg.nameB z=p.1))∧Below wo.heap.size wo Y)
   case atStart=>exact⟨0,ZS _,rfl,rfl,by simp only[QN,List.any_nil,Bool.or_false,ay],Below.refl _ _⟩
   case round =>
    obtain⟨j,hj,aH,rfl,rfl,S⟩:=hrel;have aL:=QA aH;have N:=QA S;have bA:(0:Int)≤(j:Int):=Int.natCast_nonneg _;have aX:wr.cell? ⟨w.heap.size+1,1,none⟩=some (.slice sa l.length sc):=(S.cell (AN m1)).trans m1;have K:wr.cell? ⟨b,o+i*2,none⟩=some (.string s):=(S.cell aJ).trans z0;obtain⟨bb,ae⟩:∃q,q=(bf||(l.take j).any λz=>decide (Sg.nameB z=p.1)):=⟨_,rfl⟩
    rw[← ae];have Z:=QA ae;clear aH S ae;by_cases hjn:j<l.length
    ·have av:(j:Int)<(l.length:Int):=by omega
     obtain⟨x,hx⟩:∃x,l[j]?=some x:=⟨_,ZG hjn⟩
     obtain⟨xb,xo,rfl,bt,x0⟩:=((HN.out.below J.out.e).below N.out).at hx;have W:=QA (Fs.any_take_add (λz=>decide (Sg.nameB z=p.1)) l j x hx);clear hx;go_wp2_with fail;refine (FY x wr).mono ?_;rintro e w5 ⟨rfl,hb5⟩;have bu:w5.cell? ⟨b,o+i*2,none⟩=some (.string s):=(hb5.cell (AN K)).trans K;have am:=QA (N.out.trans (hb5.mono N.out.size));obtain⟨u,hu⟩:∃t:ByteArray,t=⟨(Sg.nameB x).toArray⟩:=⟨_,rfl⟩
     rw[← hu];have aG:=str_eq u s;rw[Q.out,show u.data.toList=Sg.nameB x by rw[hu]]at aG;obtain⟨bx,aa⟩:∃bx,bx=decide (Sg.nameB x=p.1):=⟨_,rfl⟩
     rw[← aa]at aG;have aT:=QA aa;clear hb5 aX K x0 hu aa;cases bb
     ·go_wp2_with fail;go_roundg (l.length-(j+1))
      case measure=>rw[aL.out];omega
      case rel=>exact⟨j+1,by omega,rfl,by simp,by
       rw[W.out,← Bool.or_assoc,← Z.out,Bool.false_or,← aT.out],am.out⟩
     ·go_wp2_with fail;go_roundg (l.length-(j+1))
      case measure=>rw[aL.out];omega
      case rel=>exact⟨j+1,by omega,rfl,by simp,by rw[W.out,← Bool.or_assoc,← Z.out,Bool.true_or],am.out⟩
    ·have av:(l.length:Int)≤(j:Int):=by omega
     have ao:Hid (Fs.keepN l p.1=bb):=QA (by rw[aq.out,Z.out,List.take_of_length_le (by omega)]);have E:=QA (J.out.below N.out);have a2:=z0;clear m1 z0;cases bb
     ·have K:wr.cell? ⟨b,o+i*2,none⟩=some (.string s):=(N.out.cell aJ).trans a2;have b0:wr.cell? ⟨w.heap.size,0,none⟩=some (.int .i64 A.room):=AA E.out.a 0 _ rfl;have b1:wr.cell? ⟨w.heap.size,1,none⟩=some C.fv:=AA E.out.a 1 _ rfl;have b2:wr.cell? ⟨w.heap.size,2,none⟩=some C.dv:=AA E.out.a 2 _ rfl;have b3:wr.cell? ⟨w.heap.size,3,none⟩=some C.sv:=AA E.out.a 3 _ rfl;have b4:wr.cell? ⟨w.heap.size,4,none⟩=some C.cv:=AA E.out.a 4 _ rfl;have b5:wr.cell? ⟨w.heap.size,5,none⟩=some (.int .i64 A.steps):=AA E.out.a 5 _ rfl;have b6:wr.cell? ⟨w.heap.size,6,none⟩=some (.int .i64 A.left):=AA E.out.a 6 _ rfl;have b7:wr.cell? ⟨w.heap.size,7,none⟩=some C.pv:=AA E.out.a 7 _ rfl;go_wp2_with fail;refine AK (λw'=>w'.cell? ⟨w.heap.size,0,none⟩=some (.int .i64 A.room)∧w'.cell? ⟨w.heap.size,1,none⟩=some C.fv∧w'.cell? ⟨w.heap.size,2,none⟩=some C.dv∧w'.cell? ⟨w.heap.size,3,none⟩=some C.sv∧w'.cell? ⟨w.heap.size,4,none⟩=some C.cv∧w'.cell? ⟨w.heap.size,5,none⟩=some (.int .i64 A.steps)∧w'.cell? ⟨w.heap.size,6,none⟩=some (.int .i64 A.left)∧w'.cell? ⟨w.heap.size,7,none⟩=some C.pv∧w'.cell? ⟨b,o+i*2,none⟩=some (.string s)) 6 (by kernel_rfl) ?_;have hS:wr.drew.cell? ⟨w.heap.size,0,none⟩=some (.int .i64 A.room)∧wr.drew.cell? ⟨w.heap.size,1,none⟩=some C.fv∧wr.drew.cell? ⟨w.heap.size,2,none⟩=some C.dv∧wr.drew.cell? ⟨w.heap.size,3,none⟩=some C.sv∧wr.drew.cell? ⟨w.heap.size,4,none⟩=some C.cv∧wr.drew.cell? ⟨w.heap.size,5,none⟩=some (.int .i64 A.steps)∧wr.drew.cell? ⟨w.heap.size,6,none⟩=some (.int .i64 A.left)∧wr.drew.cell? ⟨w.heap.size,7,none⟩=some C.pv∧wr.drew.cell? ⟨b,o+i*2,none⟩=some (.string s):=⟨b0,b1,b2,b3,b4,b5,b6,b7,K⟩
      refine AX (i:=0) (v:=(.agg #[.int .i64 A.room,C.fv,C.dv,C.sv,C.cv,.int .i64 A.steps,.int .i64 A.left,C.pv])) [6,7,8,9,10,11] (by kernel_rfl) (by kernel_rfl) (by decide) rfl (by kernel_rfl) (by kernel_rfl) (by kernel_rfl) (λ_ _ _ h=>h) (Or.inl ⟨by rfl,λw hSw=>by go_simp⟩) hS ?_;simp only[Act.put,QD,QK,QI,QJ,QC,QH,QG];refine AX (i:=1) (v:=(.slice (some ⟨b,o,none⟩) st.dir.length dc)) [3,4,5,6,7,8,9,10,11] (by kernel_rfl) (by kernel_rfl) (by decide) rfl (by kernel_rfl) (by kernel_rfl) (by kernel_rfl) (λ_ _ _ h=>h) (Or.inl ⟨by rfl,λw hSw=>by go_simp⟩) hS ?_;simp only[Act.put,QD,QK,QI,QJ,QC,QH,QG];refine AX (i:=2) (v:=(.int .i64 (i:Nat))) [3,4,5,6,7,8,9,10,11] (by kernel_rfl) (by kernel_rfl) (by decide) rfl (by kernel_rfl) (by kernel_rfl) (by kernel_rfl) (λ_ _ _ h=>h) (Or.inl ⟨by rfl,λw hSw=>by go_simp⟩) hS ?_;simp only[Act.put,QD,QK,QI,QJ,QC,QH,QG];refine AX (i:=3) (v:=(.pointer (some ⟨b,o+i*2,none⟩))) [4,5,6,7,8,9,10,11] (by kernel_rfl) (by kernel_rfl) (by decide) rfl (by kernel_rfl) (by kernel_rfl) (by kernel_rfl) (λ_ _ _ h=>h) (Or.inl ⟨by rfl,λw hSw=>by go_simp⟩) hS ?_;simp only[Act.put,QD,QK,QI,QJ,QC,QH,QG];refine AX (i:=4) (v:=(.pointer (some ⟨b,o+i*2,none⟩))) [5,6,7,8,9,10,11] (by kernel_rfl) (by kernel_rfl) (by decide) rfl (by kernel_rfl) (by kernel_rfl) (by kernel_rfl) (λ_ _ _ h=>h) (Or.inl ⟨by rfl,λw hSw=>by go_simp⟩) hS ?_;simp only[Act.put,QD,QK,QI,QJ,QC,QH,QG];refine AX (i:=5) (v:=(.string s)) [6,7,8,9,10,11] (by kernel_rfl) (by kernel_rfl) (by decide) rfl (by kernel_rfl) (by kernel_rfl) (by kernel_rfl) (λ_ _ _ h=>h) (Or.inl ⟨by rfl,λw hSw=>by go_simp⟩) hS ?_;simp only[Act.put,QD,QK,QI,QJ,QC,QH,QG];have aA:Below wr.heap.size wr wr.drew:=Below.drew (Below.refl _ _);have ag:=QA (E.out.below aA);clear b0 b1 b2 b3 b4 b5 b6 b7 K hS aA;refine TO (i:=6) ?_;refine AF (by decide) (λK6 HK6=>?_);simp only[QE,QL,QF,QN];have HC:=QA ((CJ A C s wr.drew ag.out.rf (O.out.rok (by omega)) (aW.out)).mono λ_ _ h=>(show ROp A C (Fs.remove A p.1) _ _ _ by rw[← Q.out];exact h));go_wp2_with fail;refine HC.out.mono ?_;rintro e w3 ⟨hb3,V2,rfl,hl3⟩;obtain⟨⟨D,B⟩,hE⟩:∃q,q=Fs.remove A p.1:=⟨_,rfl⟩
      have I:=O.out.remove p.1;have hd:=HD.out;rw[← hE]at hl3 I hd ⊢;simp only at hl3 I hd ⊢;rw[if_neg (by rw[ao.out];simp)]at hd;have h3:=ag.out.below hb3;have h4:=ag.out.put hb3 hl3;obtain⟨W4,G⟩:∃q,q=rput w3 w.heap.size D V2:=⟨_,rfl⟩
      rw[← G]at h4;have H3:=QA h3;have L:=QA h4;have ah:=QA G.symm;have a0:=QA I;have aB:=QA hd;clear hb3 hl3 hE h3 h4 G I HC hd;go_wp2_with fail;refine HK6.out _ _ ⟨λh=>absurd h (by decide),?_⟩;clear HK6;refine TA (i:=7) (v:=(.tuple #[.agg (AG D V2),.int .i64 B])) rfl (Or.inl ⟨by rfl,λw _=>by go_simp⟩) ?_;simp only[Act.put,QD,QK,QI,QJ,QC,QH,QG];refine TA (i:=8) (v:=(.agg (AG D V2))) rfl (Or.inl ⟨by rfl,λw _=>by go_simp⟩) ?_;simp only[Act.put,QD,QK,QI,QJ,QC,QH,QG];refine TA (i:=9) (v:=(.int .i64 B)) rfl (Or.inl ⟨by rfl,λw _=>by go_simp⟩) ?_;simp only[Act.put,QD,QK,QI,QJ,QC,QH,QG];refine TO (i:=10) ?_;refine AF (by decide) (λK7 HK7=>?_);simp only[QE,QL,QF,QN];go_wp2_with (first|(refine AB rfl _ _ rfl _ D V2 L.out.one _ rfl rfl rfl H3.out.a ?_;rw[ah.out])|fail);refine HK7.out _ _ ⟨λh=>absurd h (by decide),?_⟩;clear HK7;refine TA (i:=11) (v:=(.int .i64 B)) rfl (Or.inl ⟨by rfl,λw _=>by go_simp⟩) ?_;simp only[Act.put,QD,QK,QI,QJ,QC,QH,QG];refine AM (by kernel_rfl) ?_ _;by_cases hc:B=0;rotate_left
      ·have U:Hid (Fs.clean st ver l=(D,n,B)):=QA (by rw[← T.out,aB.out,if_pos hc]);have bq:(B != 0)=true:=by rw[bne_iff_ne];exact hc
       have bm:decide (B=0)=false:=decide_eq_false hc;clear hc;go_wp2_with (first|(refine AD rfl _ rfl _ _ _ rfl L.out.a ?_)|(refine AB rfl _ _ rfl _ D V2 L.out.one fs0 rfl rfl rfl L.out.b ?_)|fail);rw[U.out];exact L.out.fin3 n B rfl rfl rfl rfl
      subst hc;have M:Hid (Fs.cleanGo l ((st.dir.drop (i+1)).map (·.1)) D (n+1)=Fs.clean st ver l):=QA (by rw[← T.out,aB.out,if_neg (by simp)]);have aI:n≤64:=by omega
      go_wp2_with fail;go_roundg (st.dir.length-(i+1))
      case measure=>rw[HK.out];omega
      case rel=>exact⟨i+1,n+1,D,V2,by omega,rfl,by simp,by simp,by omega,L.out,a0.out.mono (by omega),M.out⟩
     ·have M:Hid (Fs.cleanGo l ((st.dir.drop (i+1)).map (·.1)) A n=Fs.clean st ver l):=QA (by rw[← T.out,HD.out,if_pos ao.out]);go_wp2_with fail;go_roundg (st.dir.length-(i+1))
      case measure=>rw[HK.out];omega
      case rel=>exact⟨i+1,n,A,C,by omega,rfl,by simp,rfl,by omega,E.out,O.out.mono (by omega),M.out⟩
  ·have au:(st.dir.length:Int)≤(i:Int):=by omega
   have F:=T.out;rw[ZC (by omega)]at F;have aI:n≤64:=by omega
   by_cases hn1:n=0
   ·subst hn1;have U:Hid (Fs.clean st ver l=(A,0,0)):=QA F.symm;clear F;go_wp2_with (first|(refine AD rfl _ rfl _ _ _ rfl J.out.a ?_)|(refine AB rfl _ _ rfl _ A C J.out.one fs0 rfl rfl rfl J.out.b ?_)|fail);rw[U.out];exact J.out.fin3 0 0 rfl rfl rfl rfl
   ·have U:Hid (Fs.clean st ver l=((Fs.syncDir A).1,n,(Fs.syncDir A).2)):=QA (F.symm.trans (by unfold Fs.cleanGo;rw[List.map_nil];simp only;rw[if_neg hn1]));have e1:((n:Int)==0)=false:=by rw[beq_eq_false_iff_ne];omega
    have e2:decide ((n:Int)=0)=false:=decide_eq_false (by omega);have HC:=QA (Bf A C wr J.out.rf (O.out.rok (by omega)).left (O.out.rok (by omega)).plan);clear F;go_wp2_with (first|(refine AD rfl _ rfl _ _ _ rfl J.out.a ?_)|fail);refine HC.out.mono ?_;rintro e w3 ⟨hb3,V2,rfl,hl3⟩;obtain⟨⟨D,B⟩,hE⟩:∃q,q=Fs.syncDir A:=⟨_,rfl⟩
    rw[← hE]at hl3 U ⊢;simp only at hl3 U ⊢;have h3:=J.out.below hb3;have h4:=J.out.put hb3 hl3;obtain⟨W4,G⟩:∃q,q=rput w3 w.heap.size D V2:=⟨_,rfl⟩
    rw[← G]at h4;have H3:=QA h3;have L:=QA h4;have ah:=QA G.symm;clear hb3 hl3 hE h3 h4 G HC;go_wp2_with (first|(refine AB rfl _ _ rfl _ D V2 L.out.one _ rfl rfl rfl H3.out.a ?_;rw[ah.out])|(refine AD rfl _ rfl _ _ _ rfl L.out.a ?_)|(refine AB rfl _ _ rfl _ D V2 L.out.one fs0 rfl rfl rfl L.out.b ?_)|fail);rw[U.out];exact L.out.fin3 n B rfl rfl rfl rfl
open Go.Maps Go.WideMaps
theorem DJ {Q:Ending→World→Prop} {a:Act} {W:World} (g:Nat) (ver c:Int) (sv:Value) (h2:a.tmps[2]?=some (.pointer (some ⟨g,0,none⟩))) (h3:a.tmps[3]?=some (.int .i64 c)) (hd:a.defers=[])
  (hW:W.heap[g]?=some (.cells #[.int .i64 ver,sv] 37 (0,0))) (hQ:Q (.returned (.tuple #[.agg #[.int .i64 ver,sv],.int .i64 c])) W):bodyPost Tryz.prog Tryz.f14 Q .ret a W:=by
 have A:W.cell? ⟨g,0,none⟩=some (.int .i64 ver):=AA hW 0 _ rfl;have o:W.cell? ⟨g,1,none⟩=some sv:=AA hW 1 _ rfl;exact bodyPost_ret (v:=.tuple #[.agg #[.int .i64 ver,sv],.int .i64 c]) (by simp[results,Tryz.results14,go_sem,h2,h3,A,o]) hd hQ
def Gq (st:Fs.St) (w:World) (e:Ending) (w':World):Prop :=
 Below w.heap.size w w'∧∃sv,e=.returned (.tuple #[.agg #[.int .i64 (Mf.load st).1.1,sv],.int .i64 (Mf.load st).2])∧Ae w' w.heap.size sv (Mf.load st).1.2
theorem FI (base B:Nat) (st:Fs.St) (V:FsV) (own:Nat→Tag) (w:World) (h:Ad base B st V own w) (hE:EX base w) (hbase:base≤w.heap.size) (k:Nat) (hS:Fs.Sound st k) :
  Calls Tryz.prog 14 #[.pointer (some ⟨B,0,none⟩)] w (Gq st w):=by
 have U:Below w.heap.size w (w.alloc (.cells #[.int .i64 0,.slice none 0 0] 37)):=(Below.refl _ _).alloc (QM _) _;have P:=AH w (.cells #[.int .i64 0,.slice none 0 0] 37);have H:=QA h;have HE:=QA hE;have G:=QA U;have L:=QA P;have C:=hS.full;have Q:=QA C;clear h hE U P C;go_enter Tryz.func14,Tryz.ntmps14;go_wp2_with fail;refine (D4 base B st V own EP _ (H.out.kept (AL G.out)) (by decide) (λf hf=>by have:=(Q.out f hf).2;omega)).mono ?_;rintro e w1 ⟨hb1,hres⟩;have D:=QA (G.out.trans (hb1.mono G.out.size));have o:w1.heap[w.heap.size]?=some (.cells #[.int .i64 0,.slice none 0 0] 37 (0,0)):=by rw[hb1.block _ (AE L.out)];exact L.out
 have N:=QA o;have I:w.heap.size<w1.heap.size:=AE o;have aa:w.heap.size+1≤w1.heap.size:=I;rw[show EP.data.toList=Mf.final from rfl]at hres;clear hb1;rcases hres with⟨h0,f,v2,hf,rfl,ho2⟩|⟨h0,rfl⟩
 ·have W:Fs.fileAt st Mf.final=f.1:=by unfold Fs.fileAt;rw[hf]
  have ah:=(Q.out f (QZ hf)).2;obtain⟨da,dn,dc,Y,ac⟩:=Au.form3 ho2;subst Y;have X:=QA ho2;have F:Hid (Mf.load st=match Mf.read f.1 with|some m=>(m,0)|none=>((0,[]),2)):=by
   unfold Mf.load;rw[if_neg (by simp[h0]),W];exact QA rfl
  clear hf h0 ho2 W o;go_wp2_with fail;refine (FJ _ f.1 w1 base (HE.out.below (D.out.mono hbase)) (Nat.le_trans hbase D.out.size) X.out.byts (by omega)).mono ?_;rintro e w2 ⟨hb2,hres⟩;have T:=QA (D.out.trans (hb2.mono D.out.size));have A:w2.heap[w.heap.size]?=some (.cells #[.int .i64 0,.slice none 0 0] 37 (0,0)):=by rw[hb2.block _ I];exact N.out
  have S:=QA A;have p0:w2.frozen? ⟨w.heap.size,0,none⟩=false:=AC A 0;have p1:w2.frozen? ⟨w.heap.size,1,none⟩=false:=AC A 1;have z0:w2.cell? ⟨w.heap.size,0,none⟩=some (.int .i64 0):=AA A 0 _ rfl;have z1:w2.cell? ⟨w.heap.size,1,none⟩=some (.slice none 0 0):=AA A 1 _ rfl;clear hb2 A;rcases hres with⟨v,l,sv,hrd,rfl,hoi⟩|⟨hrd,rfl⟩
  ·rw[hrd]at F;obtain⟨K,M,O,Z,ab⟩:=Ae.form3 hoi;subst Z;have R:=QA hoi;clear hoi hrd;go_wp2_with fail;refine DJ w.heap.size v 0 (.slice K M O) rfl rfl rfl (heap_set (heap_set S.out _) _) ?_;refine⟨((T.out.setCell (p:=⟨w.heap.size,0,none⟩) (QM _) _).setCell (p:=⟨w.heap.size,1,none⟩) (QM _) _),.slice K M O,by rw[F.out],?_⟩;rw[F.out];refine AQ (R.out.mono2 (by omega)) (λg hg=>?_);have:=(World.ownsRow.lt R.out g hg).1;rw[Below.heap_setCell _ _ _ _ (by show g≠w.heap.size;omega),Below.heap_setCell _ _ _ _ (by show g≠w.heap.size;omega)]
  ·rw[hrd]at F;clear hrd;go_wp2_with fail;refine DJ w.heap.size 0 2 _ rfl rfl rfl (heap_set (heap_set S.out _) _) ?_;exact⟨((T.out.setCell (p:=⟨w.heap.size,0,none⟩) (QM _) _).setCell (p:=⟨w.heap.size,1,none⟩) (QM _) _),.slice none 0 0,by rw[F.out],by rw[F.out];exact World.ownsRow_nil _ _ _ _⟩
 ·have F:Hid (Mf.load st=((0,[]),Fs.openE st Mf.final)):=by unfold Mf.load;rw[if_pos h0];exact QA rfl
  have p0:w1.frozen? ⟨w.heap.size,0,none⟩=false:=AC o 0;have p1:w1.frozen? ⟨w.heap.size,1,none⟩=false:=AC o 1;have z0:w1.cell? ⟨w.heap.size,0,none⟩=some (.int .i64 0):=AA o 0 _ rfl;have z1:w1.cell? ⟨w.heap.size,1,none⟩=some (.slice none 0 0):=AA o 1 _ rfl;obtain⟨E,J⟩:∃E,E=Fs.openE st Mf.final:=⟨_,rfl⟩
  rw[← J]at h0 F ⊢;have ag:(E != 0)=true:=by rw[bne_iff_ne];exact h0
  clear o h0 J;go_wp2_with fail;refine DJ w.heap.size 0 E _ rfl rfl rfl (heap_set (heap_set N.out _) _) ?_;exact⟨((D.out.setCell (p:=⟨w.heap.size,0,none⟩) (QM _) _).setCell (p:=⟨w.heap.size,1,none⟩) (QM _) _),.slice none 0 0,by rw[F.out],by rw[F.out];exact World.ownsRow_nil _ _ _ _⟩
open Go.Maps Go.WideMaps
theorem Bn (a b:Value) (l m:List Int) (w:World) (ha:Be w a l) (hb:Be w b m) (hl:l.length≤1000000000) (hm:m.length≤1000000000) :
  Calls Tryz.prog 18 #[a,b] w λe w'=>e=.returned (.bool (decide (l=m)))∧Below w.heap.size w w':=by
 obtain⟨V,ac,rfl⟩:=ha.form;obtain⟨Z,W,rfl⟩:=hb.form;have O:=QA ha;have N:=QA hb;clear ha hb;go_enter Tryz.func18,Tryz.ntmps18;by_cases hlen:l.length=m.length
 ·have R:((l.length:Int) != (m.length:Int))=false:=by rw[hlen];simp
  have E:(l.length != m.length)=false:=by rw[hlen];simp
  have o:=QA hlen;clear hlen;go_wp2_with fail
  go_loopg [13] l.length (λk s13 wr=>∃j:Nat,j≤l.length∧k=l.length-j∧s13=.int .i64 (j:Nat)∧l.take j=m.take j∧∃n,wr=w.drewN n)
  case atStart=>exact⟨0,ZS _,rfl,rfl,by simp,0,rfl⟩
  case round =>
   obtain⟨j,U,I,rfl,C,nd,rfl⟩:=hrel;have M:=QA I;have D:=QA C;clear I C;have Q:(0:Int)≤(j:Int):=Int.natCast_nonneg _;by_cases hjn:j<l.length
   ·have A:(j:Int)<(l.length:Int):=by omega
    have K:(j:Int)<(m.length:Int):=by have:=o.out;omega
    obtain⟨x,G⟩:∃x,l[j]?=some x:=⟨_,ZG hjn⟩
    obtain⟨y,F⟩:∃y,m[j]?=some y:=⟨_,ZG (by omega)⟩
    obtain⟨g1,o1,rfl,S,c1⟩:=O.out.at G;obtain⟨g2,X,rfl,T,Y⟩:=N.out.at F;have L:=QA G;have H:=QA F;clear G F;go_wp2_with fail;refine AO [] (by kernel_rfl) (by kernel_rfl) ?_;simp only[Ap,QF,QN,QE,QL,Nat.sub_zero,Nat.reduceSub,Nat.reduceAdd]
    repeat (go_big_quiet_step (fail))
    refine wpQuiet_nil ?_;rintro _ ⟨nq,rfl⟩;by_cases hxy:x=y
    ·subst hxy;go_wp2_with fail;go_roundg (l.length-(j+1))
     case measure=>rw[M.out];omega
     case rel=>exact⟨j+1,by omega,rfl,by simp,by rw[List.take_add_one,List.take_add_one,D.out,L.out,H.out],nd+nq,by first|rfl|(simp[World.drewN];omega)⟩
    ·have P:(x != y)=true:=by rw[bne_iff_ne];exact hxy
     have B:Hid (decide (l=m)=false):=QA (decide_eq_false (λe=>hxy (by have:=L.out;rw[e,H.out]at this;exact (Option.some.inj this).symm)));clear hxy;go_wp2_with fail;go_ret;exact⟨by rw[B.out];rfl,Below.drewN (Below.drewN (Below.refl _ _) _) _⟩
   ·have A:(l.length:Int)≤(j:Int):=by omega
    have B:Hid (decide (l=m)=true):=by
     have J:=D.out;rw[List.take_of_length_le (by omega),List.take_of_length_le (by have:=o.out;omega)]at J;exact QA (decide_eq_true J)
    go_wp2_with fail;go_ret;exact⟨by rw[B.out];rfl,Below.drewN (Below.refl _ _) _⟩
 ·have R:((l.length:Int) != (m.length:Int))=true:=by rw[bne_iff_ne];omega
  have E:(l.length != m.length)=true:=by rw[bne_iff_ne];exact hlen
  have B:Hid (decide (l=m)=false):=QA (decide_eq_false (λe=>hlen (by rw[e])));clear hlen;go_wp2_with fail;go_ret;exact⟨by rw[B.out];rfl,Below.refl _ _⟩
theorem Fh (v:Int) (a:Option Addr) (n c:Nat) (w:World) :
  Calls Tryz.prog 11 #[.agg #[.int .i64 v,.slice a n c]] w λe w'=>e=.returned (.agg #[.int .i64 v,.slice a n c])∧Below w.heap.size w w':=by
 go_enter Tryz.func11,Tryz.ntmps11;go_wp2_with fail;have o:=AH (w.alloc (.cells #[.int .i64 v,.slice a n c] 37)) (.cells #[.int .i64 v,.slice a n c] 48);rw[show (w.alloc (.cells #[.int .i64 v,.slice a n c] 37)).heap.size=w.heap.size+1 by simp]at o;have A:=AA o 0 _ rfl;have B:=AA o 1 _ rfl;refine bodyPost_ret (v:=.agg #[.int .i64 v,.slice a n c]) (by simp[results,Tryz.results11,go_sem,A,B]) rfl ?_;exact⟨rfl,((Below.refl _ _).alloc (QM _) _).alloc (by simp) _⟩
theorem Gj (v u:Int) (a b:Value) (l m:List Int) (w:World) (ha:Be w a l) (hb:Be w b m) (hl:l.length≤1000000000) (hm:m.length≤1000000000) :
  Calls Tryz.prog 16 #[.agg #[.int .i64 v,a],.agg #[.int .i64 u,b]] w λe w'=>e=.returned (.bool (decide (v=u∧l=m)))∧Below w.heap.size w w':=by
 obtain⟨G,D,rfl⟩:=ha.form;obtain⟨I,C,rfl⟩:=hb.form;have o:Below w.heap.size w ((w.alloc (.cells #[.int .i64 v,.slice G l.length D] 37)).alloc (.cells #[.int .i64 u,.slice I m.length C] 48)):=((Below.refl _ _).alloc (QM _) _).alloc (by simp) _;have H:=QA (ha.below o);have E:=QA (hb.below o);have A:=QA o;clear ha hb o;go_enter Tryz.func16,Tryz.ntmps16;by_cases hvu:v=u
 ·subst hvu;have J:(v==v)=true:=by simp
  go_wp2_with fail;refine (Bn _ _ l m _ H.out E.out hl hm).mono ?_;rintro e w1 ⟨rfl,hb1⟩;have B:=QA (A.out.trans (hb1.mono A.out.size));clear hb1;go_wp2_with fail;go_ret;refine⟨congrArg (λb=>Ending.returned (.bool b)) ?_,B.out⟩;by_cases h:l=m<;>simp[h]
 ·have J:(v==u)=false:=by rw[beq_eq_false_iff_ne];exact hvu
  have F:Hid (decide (v=u∧l=m)=false):=QA (decide_eq_false (λh=>hvu h.1));clear hvu;go_wp2_with fail;go_ret;exact⟨by rw[F.out];rfl,A.out⟩
namespace Mf
theorem GW:pay [3,1,12]=[51,10,49,10,49,50,10]:=by
 have B:=Lib.itoa_nonneg 3;have A:=Lib.itoa_nonneg 1;have o:=Lib.itoa_nonneg 12;rw[Lib.decDigits_one (by omega)]at B A;rw[Lib.decDigits_two (by omega) (by omega)]at o;unfold pay;simp only[List.flatMap_cons,List.flatMap_nil];rw[show (3:Int)=((3:Nat):Int) from rfl,B,show (1:Int)=((1:Nat):Int) from rfl,A,show (12:Int)=((12:Nat):Int) from rfl,o];rfl
theorem JL:good 3 [1,12]=true:=by decide
theorem enc3:(enc 3 [1,12]).length=16∧((enc 3 [1,12]).drop 5).take 7=[51,10,49,10,49,50,10]:=by
 have o:(enc 3 [1,12]).length=16:=by unfold enc;rw[Fr.bytes_len,GW];rfl
 have A:Fr.pay (enc 3 [1,12])=pay [3,1,12]:=Fr.pay_bytes;refine⟨o,?_⟩;rw[← GW,← A];unfold Fr.pay;rw[o]
theorem saved3:∃st,Mf.save (Fs.new 1000) 3 [1,12]=(st,0)∧Mf.load st=((3,[1,12]),0)∧Fs.openE st final=0∧Fs.fileAt st final=enc 3 [1,12]∧Fs.Sound st 20∧Fs.PlanOK st:=by
 obtain⟨A,_,_,_,_,E⟩:=save_calm (st:=Fs.new 1000) ⟨rfl,rfl⟩ (Fs.Inv.new 1000) JL (by decide) (M:=0) (λn b h=>by rw[Fs.look_new]at h;cases h) (by decide) (λf hf=>by cases hf);have o:=E final;rw[if_pos rfl]at o;obtain⟨C,D⟩:=Fs.look_some o;obtain⟨F,B⟩:=B4 (st:=Fs.new 1000) (k:=0) (Fs.Sound.new ⟨by decide,by decide⟩ 0) (λz hz=>by cases hz) 3 [1,12];exact⟨(save (Fs.new 1000) 3 [1,12]).1,Prod.ext rfl A,load_look JL o,Fs.openE_of Bo C,D,F.mono (by omega),B⟩
end Mf
theorem GC (w:World) (B:Nat) (hE:EX B w) (hB:B≤w.heap.size) :
  Calls Tryz.prog 4 #[] w λe w'=>e=.returned (.bool true)∧Below w.heap.size w w':=by
 have HE:=QA hE;clear hE;obtain⟨st,G,O,Y,P,ab,ak⟩:=Mf.saved3;have aj:=QA G;have ao:=QA O;have ap:=QA Y;have au:=QA P;have W:=QA ab;clear G O Y P ab ak;go_enter Tryz.func4,Tryz.ntmps4;go_wp2_with fail;refine (FB 1000 w).mono ?_;rintro e w1 ⟨hb1,hres⟩;have aD:=QA hb1;rcases hres with⟨h,rfl⟩|⟨_,rfl,V,hok⟩
 ·omega
 ·have M:=hb1.size;have o:Below w1.heap.size w1 (w1.alloc (.cells #[.int .i64 1,.int .i64 12] 3)):=(Below.refl _ _).alloc (QM _) _;have ag:Hid (Be (w1.alloc (.cells #[.int .i64 1,.int .i64 12] 3)) (.slice (some ⟨w1.heap.size,0,none⟩) 2 2) [1,12]) :=
   QA (Ae.nums (base:=w1.heap.size) (World.ownsRow_lit (base:=w1.heap.size) (e:=3) (size:=1) w1 #[.int .i64 1,.int .i64 12] 2 (QM _) (by unfold maxLen;omega) rfl))
  have ah:=QA ((HE.out.below (hb1.mono hB)).mono hB);have ad:=QA (hok.kept (AL o));have L:=QA (hb1.trans (o.mono M));have Z:=QA (ah.out.below (o.mono M));clear hb1 hok o;go_wp2_with fail;refine (FP w.heap.size (w.heap.size+2) (Fs.new 1000) V _ 3 _ [1,12] _ ad.out Z.out.sg L.out.size 0 (Fs.Sound.new ⟨by decide,by decide⟩ 0) (by omega) (λz hz=>by cases hz) ag.out (by simp)).mono ?_;rintro e w2 ⟨rfl,hp2⟩;rw[aj.out]at hp2 ⊢;have I:=hp2.below0 ad.out L.out.size;obtain⟨V2,H,h2,_,_⟩:=hp2;have H2:=QA h2;have K:=QA (L.out.trans I);have al:=QA (Z.out.below I);clear I h2;go_wp2_with fail;refine (FI w.heap.size (w.heap.size+2) st V2 H w2 H2.out al.out K.out.size 20 W.out).mono ?_;rintro e w3 ⟨hb3,sv,rfl,hoi⟩;rw[ao.out]at hoi ⊢;obtain⟨A,C,F,G,aB⟩:=Ae.form3 hoi;subst G;have an:=QA hoi;have X:=QA (K.out.trans (hb3.mono K.out.size));have E:Below w3.heap.size w3 (w3.alloc (.cells #[.int .i64 3,.slice A C F] 37)):=(Below.refl _ _).alloc (QM _) _;have aa:=QA (X.out.trans (E.mono X.out.size));have H3:=QA (H2.out.kept (AL (hb3.trans (E.mono hb3.size))));have Q:=AH w3 (.cells #[.int .i64 3,.slice A C F] 37);have ae:=QA Q;have U:=QA (an.out.keep E);clear hb3 hoi E Q;go_wp2_with fail;refine (D4 w.heap.size (w.heap.size+2) st V2 H EP _ H3.out (by decide) (λf hf=>by have:=(W.out.full f hf).2;omega)).mono ?_;rintro e w4 ⟨hb4,hres⟩;rw[show EP.data.toList=Mf.final from rfl]at hres;rcases hres with⟨_,f,v2,hf,rfl,ho2⟩|⟨hx,_⟩
  ·have aq:f.1=Mf.enc 3 [1,12]:=by have:=au.out;unfold Fs.fileAt at this;rw[hf]at this;exact this
   rw[aq]at ho2;obtain⟨g,c,S⟩:=Bl ho2 (by rw[Mf.enc3.1];omega);rw[Mf.enc3.1]at S;subst S;have T:=QA (aa.out.trans (hb4.mono aa.out.size));have J:w4.heap[w3.heap.size]?=some (.cells #[.int .i64 3,.slice A C F] 37 (0,0)):=by rw[hb4.block _ (AE ae.out)];exact ae.out
   have y0:w4.cell? ⟨w3.heap.size,0,none⟩=some (.int .i64 3):=AA J 0 _ rfl;have y1:w4.cell? ⟨w3.heap.size,1,none⟩=some (.slice A C F):=AA J 1 _ rfl;have D:Below w4.heap.size w4 (w4.alloc (.cells #[.int .i64 1,.int .i64 12] 3)):=(Below.refl _ _).alloc (QM _) _;have R:=QA (T.out.trans (D.mono T.out.size));have ar:=QA ((U.out.keep hb4).keep D).nums;have ac:Hid (Be (w4.alloc (.cells #[.int .i64 1,.int .i64 12] 3)) (.slice (some ⟨w4.heap.size,0,none⟩) 2 2) [1,12]) :=
    QA (Ae.nums (base:=w4.heap.size) (World.ownsRow_lit (base:=w4.heap.size) (e:=3) (size:=1) w4 #[.int .i64 1,.int .i64 12] 2 (QM _) (by unfold maxLen;omega) rfl))
   have am:=QA (ho2.byts.below D);have aA:16≤c:=by
    obtain⟨_,c9,e9,af⟩:=ho2.byts.form;simp only[Value.slice.injEq]at e9;rw[Mf.enc3.1]at af;omega
   clear hb4 ho2 hf J D;go_wp2_with fail;refine (Bn _ _ [1,12] [1,12] _ ar.out ac.out (by simp) (by simp)).mono ?_;rintro e w5 ⟨rfl,hb5⟩;rw[decide_eq_true rfl];have ai:=QA (R.out.trans (hb5.mono R.out.size));have N:Al w5 (.slice (some ⟨g,5,none⟩) 7 (c-5)) [51,10,49,10,49,50,10]:=by
    have h1:=(am.out.below hb5).part 5 12 (c-5) (by omega) (by rw[Mf.enc3.1];omega) (by omega) (some ⟨g,0+5,none⟩) (.inl rfl);rw[show 12-5=7 from rfl,Mf.enc3.2]at h1;exact h1
   have aH:=Cq N;have ax:(12:Int)≤(c:Int):=by omega
   have aF:c≠5:=by omega
   clear hb5 N;go_wp2_with fail;go_ret;exact⟨rfl,ai.out⟩
  ·exact absurd ap.out hx
end Go.Proofs.YtmlekglfdiacpaaGreatDoor
