/-
  Manifests: numbers in memory; Check, walked. Manifests: Encode, walked. Manifests: steps one behind the other ('first'), walked. Manifests: Save, walked. Manifests: Save, walked (whole). 'ManifestLast': what holds from round to round (plain). Cleaning (plain); in calm weather. The store on a file system (plain): open, write, compact, in any weather.
-/
import Derived.Test.YtjldahcckmmenaaGreatDoorZc8
import Derived.Test.YtjldahcckmmenaaGreatDoorZc9
import Derived.Test.YtjldahcckmmenaaGreatDoorZc6
import Derived.Lib.SlicesS
import Derived.Test.YtjldahcckmmenaaGreatDoorZc2
open Go.Lib renaming hid → QA
open List renaming length_cons → QO, mem_cons_of_mem → QT, length_map → QV, drop_eq_getElem_cons → ZB, getElem?_eq_getElem → ZG
open Nat renaming le_refl → QM, le_trans → QQ, zero_le → ZS, lt_of_lt_of_le → ZT
namespace Go.Proofs.YtjldahcckmmenaaGreatDoor
set_option maxRecDepth 100000
set_option maxHeartbeats 4000000
set_option linter.unusedSimpArgs false
set_option linter.unusedVariables false
open Go Go.RowKit
open Go.Maps Go.WideMaps
theorem Mf.good_bad {v:Int} {l:List Int} (h:v<1∨2147483647<v∨l.length<1∨32<l.length):Mf.good v l=false:=by
 cases hg:Mf.good v l
 ·rfl
 ·have:=Mf.good_out hg;omega
theorem Mf.good_incr {v:Int} {l:List Int} (h1:1≤v) (h2:v≤2147483647) (h3:1≤l.length) (h4:l.length≤32):Mf.good v l=Mf.incr 0 l:=by
 unfold Mf.good;rw[decide_eq_true h1,decide_eq_true h2,decide_eq_true h3,decide_eq_true h4];rfl
theorem Mf.incr_drop {l:List Int} {j:Nat} {x:Int} (h:l[j]?=some x) (last:Int):Mf.incr last (l.drop j)=(decide (last<x)&&(decide (x≤2147483647)&&Mf.incr x (l.drop (j+1)))):=by
 obtain⟨o,A⟩:=List.getElem?_eq_some_iff.1 h;rw[ZB o,A,Mf.incr]
def Mf.chk (v:Int) (l:List Int):Int:=if Mf.good v l then 0 else 1
theorem FA (ver:Int) (sv:Value) (l:List Int) (w:World) (hS:D9 w sv l) (hl:l.length≤1000000000) :
  Calls Tryz.prog 72 #[.agg #[.int .i64 ver,sv]] w λe w'=>e=.returned (.int .i64 (Mf.chk ver l))∧Below w.heap.size w w':=by
 obtain⟨I,N,rfl⟩:=hS.form;have C:Below w.heap.size w (w.alloc (.cells #[.int .i64 ver,.slice I l.length N] 47)):=(Below.refl _ _).alloc (QM _) _;have Y:=QA (hS.below C);have J:=AJ w (.cells #[.int .i64 ver,.slice I l.length N] 47);have y0:=AA J 0 _ rfl;have y1:=AA J 1 _ rfl;have H:=QA C;have U:(0:Int)≤(l.length:Int):=Int.natCast_nonneg _;clear hS J C;go_enter Tryz.func72,Tryz.ntmps72;by_cases h1:ver<1
 ·skip
  have B:Hid (Mf.chk ver l=1):=by unfold Mf.chk;rw[Mf.good_bad (by omega)];exact QA rfl
  go_wp2_with fail;go_ret;exact⟨congrArg (λx=>Ending.returned (.int .i64 x)) B.out.symm,(Below.refl _ _).alloc (QM _) _⟩
 have O:1≤ver:=by omega
 by_cases h2:2147483647<ver
 ·skip
  have B:Hid (Mf.chk ver l=1):=by unfold Mf.chk;rw[Mf.good_bad (by omega)];exact QA rfl
  go_wp2_with fail;go_ret;exact⟨congrArg (λx=>Ending.returned (.int .i64 x)) B.out.symm,(Below.refl _ _).alloc (QM _) _⟩
 have M:ver≤2147483647:=by omega
 by_cases h3:l.length<1
 ·have W:(l.length:Int)<1:=by omega
  have B:Hid (Mf.chk ver l=1):=by unfold Mf.chk;rw[Mf.good_bad (by omega)];exact QA rfl
  go_wp2_with fail;go_ret;exact⟨congrArg (λx=>Ending.returned (.int .i64 x)) B.out.symm,(Below.refl _ _).alloc (QM _) _⟩
 have T:(1:Int)≤(l.length:Int):=by omega
 by_cases h4:32<l.length
 ·have Z:(32:Int)<(l.length:Int):=by omega
  have B:Hid (Mf.chk ver l=1):=by unfold Mf.chk;rw[Mf.good_bad (by omega)];exact QA rfl
  go_wp2_with fail;go_ret;exact⟨congrArg (λx=>Ending.returned (.int .i64 x)) B.out.symm,(Below.refl _ _).alloc (QM _) _⟩
 have aa:(l.length:Int)≤32:=by omega
 have Q:Hid (Mf.good ver l=Mf.incr 0 l):=QA (Mf.good_incr O M (by omega) (by omega));clear h1 h2 h3 h4;go_wp2_with fail
 go_loopg [3,29] l.length (λk s3 s29 wr=>∃(j:Nat) (A:Int),j≤l.length∧k=l.length-j∧s29=.int .i64 (j:Nat)∧s3=.int .i64 A∧Mf.incr A (l.drop j)=Mf.incr 0 l∧wr=w.alloc (.cells #[.int .i64 ver,.slice I l.length N] 47))
 case atStart=>exact⟨0,0,ZS _,rfl,rfl,rfl,rfl,rfl⟩
 case round =>
  obtain⟨j,A,hj,P,rfl,rfl,E,rfl⟩:=hrel;have X:=QA P;have D:=QA E;clear P E;have S:(0:Int)≤(j:Int):=Int.natCast_nonneg _;by_cases hjn:j<l.length
  ·have F:(j:Int)<(l.length:Int):=by omega
   obtain⟨x,L⟩:∃x,l[j]?=some x:=⟨_,ZG hjn⟩
   obtain⟨g,o,rfl,hg,hc⟩:=Y.out.at L;have R:=QA (Mf.incr_drop L A);clear L;by_cases C:x≤A∨2147483647<x
   ·have B:Hid (Mf.chk ver l=1):=by
     unfold Mf.chk;rw[Q.out,← D.out,R.out];rcases C with C|C
     ·rw[decide_eq_false (by omega)];exact QA rfl
     ·rw[decide_eq_false (p:=x≤2147483647) (by omega),Bool.false_and,Bool.and_false];exact QA rfl
    rcases C with C|C
    ·go_wp2_with fail;go_ret;exact⟨congrArg (λx=>Ending.returned (.int .i64 x)) B.out.symm,H.out⟩
    ·by_cases G:x≤A
     ·go_wp2_with fail;go_ret;exact⟨congrArg (λx=>Ending.returned (.int .i64 x)) B.out.symm,H.out⟩
     ·have V:A<x:=by omega
      go_wp2_with fail;go_ret;exact⟨congrArg (λx=>Ending.returned (.int .i64 x)) B.out.symm,H.out⟩
   ·have K:A<x:=by omega
    have G:x≤2147483647:=by omega
    clear C;go_wp2_with fail;go_roundg (l.length-(j+1))
    case measure=>rw[X.out];omega
    case rel=>exact⟨j+1,x,by omega,rfl,by simp,rfl,by rw[← D.out,R.out,decide_eq_true K,decide_eq_true G];rfl,rfl⟩
  ·have F:(l.length:Int)≤(j:Int):=by omega
   have B:Hid (Mf.chk ver l=0):=by
    unfold Mf.chk;rw[Q.out,← D.out,List.drop_of_length_le (by omega)];exact QA rfl
   go_wp2_with fail;go_ret;exact⟨congrArg (λx=>Ending.returned (.int .i64 x)) B.out.symm,H.out⟩
open Go.Maps Go.WideMaps
def Jg (v:Int) (l:List Int) (w:World) (e:Ending) (w':World):Prop :=
 Below w.heap.size w w'∧((Mf.good v l=true∧∃b,e=.returned (.tuple #[b,.int .i64 0])∧Ae w' w.heap.size b (Mf.enc v l)) ∨
  (Mf.good v l=false∧e=.returned (.tuple #[.slice none 0 0,.int .i64 1])))
theorem Mf.pay_take {ns:List Int} {j:Nat} {x:Int} (h:ns[j]?=some x):Mf.pay (ns.take (j+1))=Mf.pay (ns.take j)++(Lib.itoa x++[10]):=by
 unfold Mf.pay;rw[List.take_add_one,h,List.flatMap_append];simp
theorem D4 (ver:Int) (sv:Value) (l:List Int) (w:World) (B:Nat) (hE:Ay B w) (hBw:B≤w.heap.size) (hS:D9 w sv l) (hl:l.length≤1000000000) :
  Calls Tryz.prog 86 #[.agg #[.int .i64 ver,sv]] w (Jg ver l w):=by
 obtain⟨sa,sc,rfl⟩:=hS.form;have hb:Below w.heap.size w (w.alloc (.cells #[.int .i64 ver,.slice sa l.length sc] 47)):=(Below.refl _ _).alloc (QM _) _;have hr:=AJ w (.cells #[.int .i64 ver,.slice sa l.length sc] 47);have y0:=AA hr 0 _ rfl;have y1:=AA hr 1 _ rfl;have HS:=QA hS;have HE:=QA hE;have aO:B≤w.heap.size:=hBw;have HB:=QA hb;have HR:=QA hr;clear hS hr hb hE;go_enter Tryz.func86,Tryz.ntmps86;go_wp2_with fail;refine (FA ver _ l _ (HS.out.below HB.out) hl).mono ?_;rintro e w1 ⟨rfl,hb1⟩;have E:=QA (HB.out.trans (hb1.mono HB.out.size));have H:w1.heap[w.heap.size]?=some (.cells #[.int .i64 ver,.slice sa l.length sc] 47 (0,0)):=by rw[hb1.block _ (AC HR.out)];exact HR.out
 have z0:w1.cell? ⟨w.heap.size,0,none⟩=some (.int .i64 ver):=AA H 0 _ rfl;have T:(w1.alloc (.cells #[.int .i64 ver] 3)).heap[w.heap.size]?=some (.cells #[.int .i64 ver,.slice sa l.length sc] 47 (0,0)):=by rw[Lib.alloc_old _ _ _ (AC H)];exact H
 have z1:(w1.alloc (.cells #[.int .i64 ver] 3)).cell? ⟨w.heap.size,1,none⟩=some (.slice sa l.length sc):=AA T 1 _ rfl;have aS:=hb1.size;clear hb1 H T y0 y1;cases K:Mf.good ver l
 ·have S:Mf.chk ver l=1:=by unfold Mf.chk;rw[K];rfl
  rw[S];have HG:=QA K;clear K S;go_wp2_with fail;refine bodyPost_ret (v:=.tuple #[.slice none 0 0,.int .i64 1]) (by simp[results,Tryz.results86,go_sem]) rfl ?_;exact⟨E.out,.inr ⟨HG.out,rfl⟩⟩
 ·have S:Mf.chk ver l=0:=by unfold Mf.chk;rw[K];rfl
  rw[S];have HG:=QA K;have V:=(Mf.good_out K).2.1;clear K S;have O:=(E.out).alloc E.out.size (.cells #[.int .i64 ver] 3);have M:=QA O;have ai:=QA (Ah.one w1 ver w.heap.size E.out.size);have aM:=QA (HS.out.below O);clear O;go_wp2_with (first|(at_builtin;refine AX rfl _ _ rfl w.heap.size (.slice (some ⟨w1.heap.size,0,none⟩) 1 1) _ rfl ai.out _ l rfl aM.out V.1 (by simp;omega) M.out.size ?_;intro d' w2 hown hgrow hloc;obtain⟨da,G,dc,aD,ad⟩:=Ah.form3 hown;subst aD;have ar:=QA hown;have aF:=QA hgrow;clear hown hgrow hloc)|fail);have C:=QA (below_grown M.out M.out.size ai.out aF.out);have aP:=QA ar.out.nums;have U:Hid (([ver]++l:List Int).length=G):=QA ad.out.symm;have a9:G≤33:=by rw[ad.out];simp;omega
  have aA:=QA (Mf.good_all HG.out);have aI:=QA (HE.out.below (C.out.mono aO));clear z0 z1
  go_loopg [5,20] G (λk s5 s20 wr=>∃(j:Nat) (F:List (List UInt8×Value)),j≤G∧k=G-j∧s20=.int .i64 (j:Nat)∧PO wr w2.heap.size s5 F∧(F.map (·.1)).flatten=Mf.pay (([ver]++l).take j)∧F.length=j∧(∀p∈F,p.1.length≤100)∧Below w2.heap.size w2 wr)
  case atStart=>exact⟨0,[],ZS _,rfl,rfl,PO.nil _ _,rfl,rfl,λp D=>by (cases D),Below.refl _ _⟩
  case round =>
   obtain⟨j,F,hj,hk,rfl,Z,au,ac,ae,am⟩:=hrel;have HK:=QA hk;have ap:=QA Z;have aa:=QA au;have J:=QA ac;have ao:=QA ae;have A:=QA am;clear hk Z au ac ae am;have a7:(0:Int)≤(j:Int):=Int.natCast_nonneg _;by_cases hjn:j<G
   ·have aj:(j:Int)<(G:Int):=by omega
    obtain⟨x,R⟩:∃x,([ver]++l:List Int)[j]?=some x:=⟨_,ZG (by rw[U.out];exact hjn)⟩
    have aX:=aA.out x (List.mem_of_getElem? R);have ay:=QA (Mf.pay_take R);obtain⟨g,o,rfl,K,S⟩:=(aP.out.below A.out).at R;clear R;go_wp2_with fail;refine (Tryz.strconv_Itoa x (by omega) (by omega) wr (aI.out.below (A.out.mono (by have:=C.out.size;omega))).tab).mono ?_;rintro e w3 ⟨rfl,kk,oss,hw3⟩;have ab:Below wr.heap.size wr w3:=by rw[hw3];exact Lib.below_grow wr.heap.size wr (QM _) kk oss
    have N:=QA ab;clear hw3 ab;obtain⟨s,hs⟩:∃s:ByteArray,s=⟨(Lib.itoa x).toArray⟩:=⟨_,rfl⟩
    have Q:=Lib.itoa_length_le x (by omega) (by omega);have aY:(s.size:Int)≤21:=by
     rw[hs];show ((Lib.itoa x).toArray.size:Int)≤21;simp;omega
    rw[← hs];have aJ:=QA hs;clear hs Q;have a4:=run_bytes_of_string (P:=Tryz.prog) w3 9 41 5 (s++⟨#[10]⟩) Tryz.underlying9 Tryz.underlying41 Tryz.underlying5;have L:(s++⟨#[10]⟩:ByteArray).size=s.size+1:=by rw[ByteArray.size_append];rfl
    have aN:Hid (∀(fz:Nat×Nat),AZ (w3.drew.alloc (.cells (bytesRow (s++⟨#[10]⟩) (grownCap w3 (s.size+1) 0 5)) 5 fz)) (.slice (some ⟨w3.heap.size,0,none⟩) (s.size+1) (grownCap w3 (s.size+1) 0 5)) (Lib.itoa x++[10])):=by
     refine QA λfz=>?_
     have h1:=Gv w3 (s++⟨#[10]⟩) (grownCap w3 (s.size+1) 0 5) (by rw[L];exact grownCap_ge _ _ _ _) fz;rw[L]at h1;have h2:(s++⟨#[10]⟩:ByteArray).data.toList=Lib.itoa x++[10]:=by rw[aJ.out];simp
     rw[h2]at h1;exact h1
    have az:Hid ((Lib.itoa x++[10]).length≤100):=by
     refine QA ?_;have:=Lib.itoa_length_le x (by omega) (by omega);simp;omega
    clear L;have I:=QA (ap.out.keep N.out);have al:w2.heap.size≤w3.heap.size:=QQ A.out.size N.out.size;have ah:=QA (A.out.trans (N.out.mono A.out.size));obtain⟨i0,hi,aB,aL,aK⟩:=info_parts G7;have aU:j≤33:=by omega
    go_wp2_with (first|(at_builtin;refine wpList_append_own_at _ rfl _ _ 92 rfl w2.heap.size 41 i0 (.slice none 0 0) 1 24 Tryz.underlying92 hi aB aL aK rfl (by decide) u5 F.length (F.map (·.2)) rfl ((I.out.keep (DK _ _ _)).row) ⟨w3.heap.size+1,0,none⟩ 1 1 [.slice (some ⟨w3.heap.size,0,none⟩) (s.size+1) (grownCap w3 (s.size+1) 0 5)] rfl rfl (Gc _ _ _ _) (λu hu=>by simp at hu;subst hu;rfl) (by rw[J.out];unfold maxLen;omega) (by rw[J.out];omega) (by simp;omega) ?_;intro v' w5 hrow hgrow hnil hloc;clear hnil;have X:=QA (PO.more (I.out.keep (DK _ _ _)) (J8 (aN.out _) _) (by simp;omega) (LD I.out) hrow hgrow hloc);have ax:=QA (below_grown (ah.out.trans ((DK _ _ _).mono al)) (by simp;omega) (I.out.keep (DK _ _ _)).row hgrow);clear hrow hgrow hloc)|fail);go_roundg (G-(j+1))
    case measure=>rw[HK.out];omega
    case rel=>exact⟨j+1,_,by omega,rfl,by simp,X.out,by rw[List.map_append,List.flatten_append,aa.out,ay.out];simp,by rw[List.length_append,J.out];rfl,λp D=>by
     rcases List.mem_append.1 D with D|D
     ·exact ao.out p D
     ·simp only[List.mem_singleton]at D;subst D;exact az.out,ax.out⟩
   ·have aj:(G:Int)≤(j:Int):=by omega
    have ak:Hid ((F.map (·.1)).flatten=Mf.pay (ver::l)):=by
     rw[aa.out,List.take_of_length_le (by rw[U.out];omega)];exact QA rfl
    have aQ:=QA (Mf.enc_ok HG.out);have W:=QA ap.out.prts;obtain⟨pa,pc,Y⟩:=W.out.form;rw[QV]at Y;subst Y;go_wp2_with fail;refine (Ed 9 _ (F.map (·.1)) wr W.out (by rw[QV,J.out];omega) (λq hq=>by
     obtain⟨p,D,rfl⟩:=List.mem_map.1 hq;have:=ao.out p D;omega)).mono ?_
    rintro e w6 ⟨hb6,hres⟩;have aG:=QA (C.out.trans ((A.out.trans (hb6.mono A.out.size)).mono C.out.size));rw[ak.out,aQ.out]at hres;have af:w.heap.size≤wr.heap.size:=QQ C.out.size A.out.size;rcases hres with⟨_,b,rfl,hob⟩|⟨R,_⟩
    ·have aH:=QA hob;clear hob hb6;go_wp2_with fail;refine bodyPost_ret (v:=.tuple #[b,.int .i64 0]) (by simp[results,Tryz.results86,go_sem]) rfl ?_;exact⟨aG.out,.inl ⟨HG.out,b,rfl,aH.out.mono af⟩⟩
    ·exact absurd rfl R
open Go.Maps Go.WideMaps
structure FnV where
 val:Value
 k:FuncId
 fst:Array Value
 cap:Array Value
def Bo (own0 own:Nat→Tag) (w0 w:World):Prop:=w0.heap.size≤w.heap.size∧∀b,b<w0.heap.size→own0 b=.other→own b=.other∧w.heap[b]?=w0.heap[b]?
theorem Bo.refl (own:Nat→Tag) (w:World):Bo own own w w:=⟨QM _,λ_ _ h=>⟨h,rfl⟩⟩
theorem AM.others {base B:Nat} {st:Fs.St} {own:Nat→Tag} {w w':World} (h:AM base B st own w w'):∃V' own',Aa base B st V' own' w'∧(∀k,k<w.heap.size→own' k=own k)∧Kept own (·≠.other) w w':=h
theorem Bo.next {own0 own own':Nat→Tag} {w0 w w':World} (h:Bo own0 own w0 w) (ho:∀k,k<w.heap.size→own' k=own k) (hk:Kept own (·≠.other) w w'):Bo own0 own' w0 w' :=
 ⟨QQ h.1 hk.size,λb hb h0=>by
  obtain⟨A,B⟩:=h.2 b hb h0;have o:=ZT hb h.1;exact⟨(ho b o).trans A,(hk.block b o (by rw[A];simp)).trans B⟩⟩
theorem Ix (base B:Nat) (fs:List (Fs.St→Fs.St×Int)) (ks:List FnV) (gs:Nat) (J:Nat→Fs.St→Prop) (st0:Fs.St) (V0:FsV) (own0:Nat→Tag) (w0:World) (h0:Aa base B st0 V0 own0 w0) (hJ0:J 0 st0)
  (hn:ks.length=fs.length) (hn2:fs.length≤1000) (hgs:gs<w0.heap.size) (hgo:own0 gs=.other) (hcell:∀(j:Nat) x,ks[j]?=some x→w0.cell? ⟨gs,j,none⟩=some x.val∧x.val=.func (.func x.k) x.fst x.cap∧∀w,Sem.run Tryz.prog (callFunc x.k (x.fst++x.cap)) w=.ok (.enter x.k (x.fst++x.cap)) w)
  (hcall:∀(j:Nat) f x,fs[j]?=some f→ks[j]?=some x→∀st V own w,Aa base B st V own w→J j st→Bo own0 own w0 w→Calls Tryz.prog x.k (x.fst++x.cap) w λe w'=>e=.returned (.int .i64 (f st).2)∧AM base B (f st).1 own w w')
  (hJ:∀(j:Nat) f st,fs[j]?=some f→J j st→(f st).2=0→J (j+1) (f st).1) :
  Calls Tryz.prog 87 #[.slice (some ⟨gs,0,none⟩) fs.length fs.length] w0 λe w'=>e=.returned (.int .i64 (Fs.first fs st0).2)∧AM base B (Fs.first fs st0).1 own0 w0 w':=by
 have O:=QA hcell;have P:=QA hcall;have HJ:=QA hJ;have H0:=QA h0;have ae:=QA hJ0;clear hcell hcall hJ h0 hJ0;go_enter Tryz.func87,Tryz.ntmps87;go_wp2_with fail
 go_loopg [8] fs.length (λk s8 wr=>∃(j:Nat) (st:Fs.St) (V:FsV) (own:Nat→Tag),j≤fs.length∧k=fs.length-j∧s8=.int .i64 (j:Nat)∧Aa base B st V own wr∧J j st∧(∀k,k<w0.heap.size→own k=own0 k)∧Kept own0 (·≠.other) w0 wr∧Fs.first (fs.drop j) st=Fs.first fs st0)
 case atStart=>exact⟨0,st0,V0,own0,ZS _,rfl,rfl,H0.out,ae.out,λ_ _=>rfl,Kept.refl _ _ _,rfl⟩
 case round =>
  obtain⟨j,st,V,own,hj,R,rfl,Y,X,M,E,L⟩:=hrel;have HK:=QA R;have Q:=QA Y;have S:=QA X;have A:=QA M;have o:=QA E;have K:=QA L;clear R Y X M E L;have aq:(0:Int)≤(j:Int):=Int.natCast_nonneg _;by_cases hjn:j<fs.length
  ·have W:(j:Int)<(fs.length:Int):=by omega
   obtain⟨f,hf⟩:∃f,fs[j]?=some f:=⟨_,ZG hjn⟩
   obtain⟨x,hx⟩:∃x,ks[j]?=some x:=⟨_,ZG (by rw[hn];exact hjn)⟩
   obtain⟨c1,c2,c3⟩:=O.out j x hx;have H:Bo own0 own w0 wr:=⟨o.out.size,λb hb N=>⟨(A.out b hb).trans N,o.out.block b hb (by rw[N];simp)⟩⟩
   have af:wr.cell? ⟨gs,j,none⟩=some (.func (.func x.k) x.fst x.cap):=by
    rw[World.cell?_of_block (H.2 gs hgs hgo).2,c1,c2]
   have HC:=QA (P.out j f x hf hx st V own wr Q.out S.out H);have HD:Hid (Fs.first fs st0=if (f st).2≠0 then f st else Fs.first (fs.drop (j+1)) (f st).1):=by
    rw[← K.out];obtain⟨N,h2⟩:=List.getElem?_eq_some_iff.1 hf;rw[ZB N,h2,Fs.first];exact QA rfl
   have HF:=QA hf;obtain⟨k,fst,cap,T⟩:∃k fst cap,x.k=k∧x.fst=fst∧x.cap=cap:=⟨_,_,_,rfl,rfl,rfl⟩
   obtain⟨e1,e2,e3⟩:=T;rw[e1,e2,e3]at af c3 HC;clear e1 e2 e3 hx hf c1 c2 H;go_wp2_with fail;refine HC.out.mono ?_;rintro e w1 ⟨rfl,hp⟩;obtain⟨V1,G,N,Z,D⟩:=hp;have F:Hid (∀k,k<w0.heap.size→G k=own0 k):=QA λk R=>(Z k (ZT R o.out.size)).trans (A.out k R)
   have U:Hid (Kept own0 (·≠.other) w0 w1):=by
    refine QA ⟨D.os.trans o.out.os,D.tape.trans o.out.tape,D.output.trans o.out.output,QQ o.out.size D.size,λb hb ht=>?_⟩;rw[D.block b (ZT hb o.out.size) (by rw[A.out b hb];exact ht)];exact o.out.block b hb ht
   have H1:=QA N;obtain⟨C,hC⟩:∃C,C=(f st).2:=⟨_,rfl⟩
   rw[← hC];have I:=QA hC;clear hC N Z D;by_cases hC0:C=0
   ·subst hC0;have HN:=QA (HJ.out j f st HF.out S.out I.out.symm);go_wp2_with fail;go_roundg (fs.length-(j+1))
    case measure=>rw[HK.out];omega
    case rel=>exact⟨j+1,(f st).1,V1,G,by omega,rfl,by simp,H1.out,HN.out,F.out,U.out,by rw[HD.out,if_neg (by rw[← I.out];simp)]⟩
   ·have aA:(C != 0)=true:=by rw[bne_iff_ne];exact hC0
    have ai:(C==0)=false:=by rw[beq_eq_false_iff_ne];exact hC0
    have HE:Hid (Fs.first fs st0=f st):=by rw[HD.out,if_pos (by rw[← I.out];exact hC0)];exact QA rfl
    clear hC0;go_wp2_with fail;go_ret;rw[HE.out];exact⟨by rw[← I.out];rfl,V1,G,H1.out,F.out,U.out⟩
  ·have W:(fs.length:Int)≤(j:Int):=by omega
   have HE:Hid (Fs.first fs st0=(st,0)):=by rw[← K.out,List.drop_of_length_le (by omega),Fs.first];exact QA rfl
   go_wp2_with fail;go_ret;rw[HE.out];exact⟨rfl,V,own,Q.out,A.out,o.out⟩
open Go.Maps Go.WideMaps
theorem Cp {w:World} {a:Option Addr} {n c:Nat} {ls:List ByteArray} (h:DX w (.slice a n c) ls) (hn:n≤1000000) (x:ByteArray) :
  Calls Tryz.prog 43 #[.slice a n c,.string x] w λe w'=>e=.returned (.bool (Lib.containsS ls x))∧w'=w:=by
 obtain⟨G,H,C,A⟩:=h;simp only[Value.slice.injEq]at C;obtain⟨rfl,rfl,rfl⟩:=C;cases ls with
 | nil=>exact (Tryz.slices_Contains_string_empty a c x w).mono (by rintro e w' ⟨rfl,rfl⟩;exact⟨rfl,rfl⟩)
 | cons y r =>
  obtain⟨b,o,F,_,_⟩:=A 0 y rfl;subst F;refine (Tryz.slices_Contains_string b o (y::r).length c (y::r) x w (QM _) (by omega) ?_).mono ?_
  ·intro j hj;obtain⟨I,B,D,_,E⟩:=A j (y::r)[j] (ZG hj);simp only[Option.some.injEq,Addr.mk.injEq,and_true]at D;obtain⟨rfl,rfl⟩:=D;rw[E,List.getD_eq_getElem?_getD,ZG hj];rfl
  ·rintro e w' ⟨rfl,rfl⟩;refine⟨congrArg (λb=>Ending.returned (.bool b)) ?_,rfl⟩;rw[List.take_of_length_le (QM _)]
theorem Gn {d:Fs.Names} {n:List UInt8}:Lib.containsS (strsOf (Fs.keys d)) (⟨n.toArray⟩:ByteArray)=Fs.mhas d n:=by
 rw[Bool.eq_iff_iff,Lib.containsS_iff,← Fs.keys_mem];unfold strsOf;rw[List.mem_map];constructor
 ·rintro⟨x,hx,e⟩;have:x=n:=by
   have:=congrArg (λb:ByteArray=>b.data.toList) e
   simpa using this
  rw[← this];exact hx
 ·exact λh=>⟨n,h,rfl⟩
def EE:ByteArray:=⟨#[109,97,110,105,102,101,115,116,46,116,109,112]⟩
def Hb:ByteArray:=⟨#[109,97,110,105,102,101,115,116]⟩
theorem DX.len {w:World} {a:Option Addr} {n c:Nat} {ls:List ByteArray} (h:DX w (.slice a n c) ls):n=ls.length:=by
 obtain⟨B,C,o,A⟩:=h;simp only[Value.slice.injEq]at o;exact o.2.1
theorem EQ (d:Fs.Names):(strsOf (Fs.keys d)).length=d.length:=by unfold strsOf;rw[QV,Fs.keys_len]
section
variable (base B : Nat) (st : Fs.St) (V : FsV) (own : Nat → Tag) (w : World) (h : Aa base B st V own w) (hbase : base ≤ w.heap.size) (k : Nat) (hS : Fs.Sound st k) (hk : k ≤ 700000) (fb : Nat) (hf : w.cell? ⟨fb, 0, none⟩ = some (.pointer (some ⟨B, 0, none⟩)))
include h hbase hS hk hf
set_option linter.unusedSectionVars false
set_option maxHeartbeats 1000000
set_option maxRecDepth 100000
theorem Ia:Calls Tryz.prog 88 #[.pointer (some ⟨fb,0,none⟩)] w λe w'=>e=.returned (.int .i64 (Mf.clear st).2)∧AM base B (Mf.clear st).1 own w w':=by
 have H:=QA h;have P:=hS.ndir;have I:=hS.nf;have G:=hS.nc;have E:=B7 hf;clear h;go_enter Tryz.func88,Tryz.ntmps88;go_wp2_with fail;refine (Bu base B st V own w H.out (by omega)).mono ?_;rintro e w1 ⟨v,rfl,hStr,_,hb1⟩;obtain⟨a,c,O⟩:=hStr.form;subst O;have M:=QA (H.out.kept (AB hb1));have o:=QA hb1;have J:w1.cell? ⟨fb,0,none⟩=some (.pointer (some ⟨B,0,none⟩)):=by rw[hb1.cell E];exact hf
 have L:=hb1.size;have A:=QA hStr;obtain⟨N,D⟩:∃N,N=(strsOf (Fs.keys st.dir)).length:=⟨_,rfl⟩
 have C:N≤1000000:=by rw[D,EQ];omega
 rw[← D]at A ⊢;clear hb1 D hStr;go_wp2_with fail;refine (Cp A.out C _).mono ?_;rintro e w2 ⟨rfl,hw2⟩;subst hw2;rw[show (⟨#[109,97,110,105,102,101,115,116,46,116,109,112]⟩:ByteArray)=⟨Mf.draft.toArray⟩ from rfl,Gn];cases hh:Fs.mhas st.dir Mf.draft
 ·have F:Hid (Mf.clear st=(st,0)):=by unfold Mf.clear;rw[hh];exact QA rfl
  clear hh;go_wp2_with fail;go_ret;rw[F.out];exact⟨rfl,AM.of H.out o.out⟩
 ·have F:Hid (Mf.clear st=Fs.remove st Mf.draft):=by unfold Mf.clear;rw[if_pos hh];exact QA rfl
  clear hh;go_wp2_with fail;refine (Ej base B st V own EE w2 M.out (by omega) (by decide) (by omega) (by omega) (by omega)).mono ?_;rintro e w3 ⟨rfl,hp⟩;have K:=QA hp;clear hp;go_wp2_with fail;go_ret;rw[F.out];exact⟨rfl,AM.step (AB o.out) (λ_ _=>rfl) K.out⟩
theorem IY:Calls Tryz.prog 89 #[.pointer (some ⟨fb,0,none⟩)] w λe w'=>e=.returned (.int .i64 (Fs.create st Mf.draft).2)∧AM base B (Fs.create st Mf.draft).1 own w w':=by
 have o:=hS.ndir;have C:=hS.nf;have A:=hS.nc;go_enter Tryz.func89,Tryz.ntmps89;go_wp2_with fail;refine (EY base B st V own EE w h (by decide) (by omega) (by omega) (by omega)).mono ?_;rintro e w3 ⟨rfl,hp⟩;have D:=QA hp;clear hp;go_wp2_with fail;go_ret;exact⟨rfl,D.out⟩
theorem IP:Calls Tryz.prog 91 #[.pointer (some ⟨fb,0,none⟩)] w λe w'=>e=.returned (.int .i64 (Fs.sync st Mf.draft).2)∧AM base B (Fs.sync st Mf.draft).1 own w w':=by
 go_enter Tryz.func91,Tryz.ntmps91;go_wp2_with fail;refine (GL base B st V own EE w h (by decide)).mono ?_;rintro e w3 ⟨rfl,hp⟩;have o:=QA hp;clear hp;go_wp2_with fail;go_ret;exact⟨rfl,o.out⟩
theorem IR:Calls Tryz.prog 92 #[.pointer (some ⟨fb,0,none⟩)] w λe w'=>e=.returned (.int .i64 (Fs.rename st Mf.draft Mf.final).2)∧AM base B (Fs.rename st Mf.draft Mf.final).1 own w w':=by
 have o:=hS.ndir;have C:=hS.nf;have A:=hS.nc;go_enter Tryz.func92,Tryz.ntmps92;go_wp2_with fail;refine (Hm base B st V own EE Hb w h hbase (by decide) (by decide) (by omega) (by omega) (by omega)).mono ?_;rintro e w3 ⟨rfl,hp⟩;have D:=QA hp;clear hp;go_wp2_with fail;go_ret;exact⟨rfl,D.out⟩
theorem Ik (bb:Nat) (bv:Value) (b:List UInt8) (hbv:BytesIn w own bv b) (hc:w.cell? ⟨bb,0,none⟩=some bv) (hl:b.length≤1000000) (hp:Fs.PlanOK st) :
  Calls Tryz.prog 90 #[.pointer (some ⟨fb,0,none⟩),.pointer (some ⟨bb,0,none⟩)] w λe w'=>e=.returned (.int .i64 (Fs.append st Mf.draft b).2)∧AM base B (Fs.append st Mf.draft b).1 own w w':=by
 have F:=hS.ndir;have D:=hS.nf;have C:=hS.nc;have A:=QA hbv;obtain⟨g,o,c,rfl,_⟩:=hbv;go_enter Tryz.func90,Tryz.ntmps90;go_wp2_with fail;refine (EK base B st V own EE _ b w h A.out (by decide) (λf hf=>(hS.full f hf).2) hl (by omega) (by omega) hS.room hp.how hbase).mono ?_;rintro e w3 ⟨rfl,hp⟩;have E:=QA hp;clear hp;go_wp2_with fail;go_ret;exact⟨rfl,E.out⟩
end
open Go.Maps Go.WideMaps
theorem Ae.bytesIn {w:World} {base:Nat} {own:Nat→Tag} {v:Value} {l:List UInt8} (h:Ae w base v l) (hl:0<l.length) (ho:∀k,base≤k→own k=.other):BytesIn w own v l:=by
 obtain⟨g,c,F⟩:=BX h hl;subst F;have o:=h.lt g rfl;obtain⟨_,I,C,E⟩:=h.byts.form;have A:l.length≤c:=by simp only[Value.slice.injEq]at C;omega
 refine⟨g,0,c,rfl,A,o.2,ho g o.1,λi x hx=>?_⟩;obtain⟨b,D,G,H,B⟩:=h.byts.at hx;cases G;exact B
theorem BytesIn.others {w w':World} {own own':Nat→Tag} {v:Value} {l:List UInt8} (h:BytesIn w own v l) (ho:Bo own own' w w'):BytesIn w' own' v l:=by
 obtain⟨g,o,c,F,D,A,E,B⟩:=h;obtain⟨C,G⟩:=ho.2 g A E;exact⟨g,o,c,F,D,ZT A ho.1,C,λi x hi=>by rw[World.cell?_of_block G];exact B i x hi⟩
theorem Im (cap:Array Value) (w:World):Sem.run Tryz.prog (callFunc 88 cap) w=.ok (.enter 88 cap) w:=by kernel_rfl
theorem Io (cap:Array Value) (w:World):Sem.run Tryz.prog (callFunc 89 cap) w=.ok (.enter 89 cap) w:=by kernel_rfl
theorem Iu (cap:Array Value) (w:World):Sem.run Tryz.prog (callFunc 90 cap) w=.ok (.enter 90 cap) w:=by kernel_rfl
theorem Ii (cap:Array Value) (w:World):Sem.run Tryz.prog (callFunc 91 cap) w=.ok (.enter 91 cap) w:=by kernel_rfl
theorem Ir (cap:Array Value) (w:World):Sem.run Tryz.prog (callFunc 92 cap) w=.ok (.enter 92 cap) w:=by kernel_rfl
theorem I4 (cap:Array Value) (w:World):Sem.run Tryz.prog (callFunc 70 cap) w=.ok (.enter 70 cap) w:=by kernel_rfl
def As (B fb bb:Nat):List FnV :=
 [⟨.func (.func 88) #[] #[.pointer (some ⟨fb,0,none⟩)],88,#[],#[.pointer (some ⟨fb,0,none⟩)]⟩,
  ⟨.func (.func 89) #[] #[.pointer (some ⟨fb,0,none⟩)],89,#[],#[.pointer (some ⟨fb,0,none⟩)]⟩,
  ⟨.func (.func 90) #[] #[.pointer (some ⟨fb,0,none⟩),.pointer (some ⟨bb,0,none⟩)],90,#[],#[.pointer (some ⟨fb,0,none⟩),.pointer (some ⟨bb,0,none⟩)]⟩,
  ⟨.func (.func 91) #[] #[.pointer (some ⟨fb,0,none⟩)],91,#[],#[.pointer (some ⟨fb,0,none⟩)]⟩,
  ⟨.func (.func 92) #[] #[.pointer (some ⟨fb,0,none⟩)],92,#[],#[.pointer (some ⟨fb,0,none⟩)]⟩,
  ⟨.func (.func 70) #[.pointer (some ⟨B,0,none⟩)] #[],70,#[.pointer (some ⟨B,0,none⟩)],#[]⟩]
theorem HH (B fb bb:Nat):∀(j:Nat) x,(As B fb bb)[j]?=some x→x.val=.func (.func x.k) x.fst x.cap∧∀w,Sem.run Tryz.prog (callFunc x.k (x.fst++x.cap)) w=.ok (.enter x.k (x.fst++x.cap)) w
 | 0,x,h=>by simp[As]at h;subst h;exact⟨rfl,λw=>Im _ w⟩
 | 1,x,h=>by simp[As]at h;subst h;exact⟨rfl,λw=>Io _ w⟩
 | 2,x,h=>by simp[As]at h;subst h;exact⟨rfl,λw=>Iu _ w⟩
 | 3,x,h=>by simp[As]at h;subst h;exact⟨rfl,λw=>Ii _ w⟩
 | 4,x,h=>by simp[As]at h;subst h;exact⟨rfl,λw=>Ir _ w⟩
 | 5,x,h=>by simp[As]at h;subst h;exact⟨rfl,λw=>I4 _ w⟩
 | j+6,x,h=>by simp[As]at h
def Es (k j:Nat) (st:Fs.St):Prop:=Fs.Sound st (k+2*j)∧Fs.PlanOK st
theorem EF (k:Nat) (b:List UInt8):∀(j:Nat) f st,(Mf.steps b)[j]?=some f→Es k j st→Es k (j+1) (f st).1
 | 0,f,st,h,hj=>by
  simp[Mf.steps]at h;subst h;unfold Mf.clear;split
  ·exact⟨hj.1.remove _,hj.2.of (Fs.plan_remove _ _)⟩
  ·exact⟨hj.1.mono (by omega),hj.2⟩
 | 1,f,st,h,hj=>by simp[Mf.steps]at h;subst h;exact⟨hj.1.create _,hj.2.of (Fs.plan_create _ _)⟩
 | 2,f,st,h,hj=>by simp[Mf.steps]at h;subst h;exact⟨(hj.1.append _ _).mono (by omega),hj.2.of (Fs.plan_append _ _ _)⟩
 | 3,f,st,h,hj=>by simp[Mf.steps]at h;subst h;exact⟨(hj.1.sync _).mono (by omega),hj.2.of (Fs.plan_sync _ _)⟩
 | 4,f,st,h,hj=>by simp[Mf.steps]at h;subst h;exact⟨hj.1.rename _ _,hj.2.of (Fs.plan_rename _ _ _)⟩
 | 5,f,st,h,hj=>by simp[Mf.steps]at h;subst h;exact⟨hj.1.syncDir.mono (by omega),hj.2.of (Fs.plan_syncDir _)⟩
 | j+6,f,st,h,hj=>by simp[Mf.steps]at h
theorem D1 {k n:Nat}:∀(fs:List (Fs.St→Fs.St×Int)) (j:Nat) (st:Fs.St),(∀(i:Nat) f st,fs[i]?=some f→Es k (j+i) st→Es k (j+i+1) (f st).1)→j+fs.length≤n→Es k j st→Es k n (Fs.first fs st).1
 | [],j,st,_,hn,h=>⟨h.1.mono (by simp at hn;omega),h.2⟩
 | f::r,j,st,hf,hn,h=>by
  have o:=hf 0 f st rfl h;rw[Fs.first];rw[QO]at hn;split
  ·exact⟨o.1.mono (by omega),o.2⟩
  ·exact D1 r (j+1) _ (λi g s hg hs=>by
    have:=hf (i+1) g s (by simpa using hg) (by rw[show j+(i+1)=j+1+i by omega];exact hs);rw[show j+(i+1)+1=j+1+i+1 by omega]at this;exact this) (by omega) o
theorem Bs {st:Fs.St} {k:Nat} (hS:Fs.Sound st k) (hP:Fs.PlanOK st) (v:Int) (l:List Int):Fs.Sound (Mf.save st v l).1 (k+12)∧Fs.PlanOK (Mf.save st v l).1:=by
 unfold Mf.save;split
 ·exact⟨hS.mono (by omega),hP⟩
 ·exact D1 (n:=6) _ 0 st (λi f s hf hs=>by
   rw[Nat.zero_add]at hs ⊢;exact EF k _ i f s hf hs) (by simp[Mf.steps]) ⟨hS,hP⟩
theorem KP (v:Int) (l:List Int):0<(Mf.enc v l).length:=by unfold Mf.enc;rw[Fr.bytes_len];omega
theorem Ee (base B:Nat) (st:Fs.St) (V:FsV) (own:Nat→Tag) (ver:Int) (sv:Value) (l:List Int) (w:World) (h:Aa base B st V own w) (hE:Ay base w) (hbase:base≤w.heap.size) (k:Nat) (hS:Fs.Sound st k) (hk:k≤600000) (hP:Fs.PlanOK st)
  (hN:D9 w sv l) (hl:l.length≤1000000000) :
  Calls Tryz.prog 61 #[.pointer (some ⟨B,0,none⟩),.agg #[.int .i64 ver,sv]] w λe w'=>e=.returned (.int .i64 (Mf.save st ver l).2)∧AM base B (Mf.save st ver l).1 own w w':=by
 obtain⟨O,P,rfl⟩:=hN.form;have e1:(w.alloc (.cells #[.pointer (some ⟨B,0,none⟩)] 28)).heap.size=w.heap.size+1:=by simp
 have Q:Below w.heap.size w ((w.alloc (.cells #[.pointer (some ⟨B,0,none⟩)] 28)).alloc (.cells #[.int .i64 ver,.slice O l.length P] 47)):=((Below.refl _ _).alloc (QM _) _).alloc (by simp) _;have L:=AJ (w.alloc (.cells #[.pointer (some ⟨B,0,none⟩)] 28)) (.cells #[.int .i64 ver,.slice O l.length P] 47);rw[e1]at L;have W:((w.alloc (.cells #[.pointer (some ⟨B,0,none⟩)] 28)).alloc (.cells #[.int .i64 ver,.slice O l.length P] 47)).cell? ⟨w.heap.size,0,none⟩=some (.pointer (some ⟨B,0,none⟩)):=by
  rw[World.cell?_of_block (Lib.alloc_old _ _ _ (by simp))];exact Al w _ _ 0 _ rfl
 have y0:((w.alloc (.cells #[.pointer (some ⟨B,0,none⟩)] 28)).alloc (.cells #[.int .i64 ver,.slice O l.length P] 47)).cell? ⟨w.heap.size+1,0,none⟩=some (.int .i64 ver):=AA L 0 _ rfl;have y1:((w.alloc (.cells #[.pointer (some ⟨B,0,none⟩)] 28)).alloc (.cells #[.int .i64 ver,.slice O l.length P] 47)).cell? ⟨w.heap.size+1,1,none⟩=some (.slice O l.length P):=AA L 1 _ rfl;have H:=QA h;have HE:=QA hE;have HN:=QA hN;have J:=QA Q;have S:=QA W;clear h hE hN Q L e1 W;go_enter Tryz.func61,Tryz.ntmps61;go_wp2_with fail;refine (D4 ver _ l _ base (HE.out.below (J.out.mono hbase)) (QQ hbase J.out.size) (HN.out.below J.out) hl).mono ?_;rintro e w1 ⟨hb1,hres⟩;have I:=QA (J.out.trans (hb1.mono J.out.size));have H1:=QA (H.out.kept (AB I.out));have X:w1.cell? ⟨w.heap.size,0,none⟩=some (.pointer (some ⟨B,0,none⟩)):=by rw[hb1.cell (B7 S.out)];exact S.out
 have an:w.heap.size+2≤w1.heap.size:=by have:=hb1.size;simp at this;omega
 clear hb1 y0 y1;rcases hres with⟨hg,b,rfl,hob⟩|⟨hg,rfl⟩
 ·obtain⟨C,D,A,ad,ai⟩:=Ae.form3 hob;subst ad;have ab:=QA hob;have HG:=QA hg;clear hg hob;have ac:(w1.alloc (.cells #[.slice C D A] 41)).cell? ⟨w.heap.size,0,none⟩=some (.pointer (some ⟨B,0,none⟩)):=by rw[World.cell?_of_block (Lib.alloc_old _ _ _ (show w.heap.size<w1.heap.size by omega))];exact X
  have M:(w1.alloc (.cells #[.slice C D A] 41)).cell? ⟨w1.heap.size,0,none⟩=some (.slice C D A):=Al _ _ _ 0 _ rfl;have o:Below w1.heap.size w1 ((w1.alloc (.cells #[.slice C D A] 41)).alloc (.cells ((As B w.heap.size w1.heap.size).map (·.val)).toArray 73)):=((Below.refl _ _).alloc (QM _) _).alloc (by simp) _;have U:=QA (H1.out.kept (AB o));have G:∀(j:Nat) x,(As B w.heap.size w1.heap.size)[j]?=some x→((w1.alloc (.cells #[.slice C D A] 41)).alloc (.cells ((As B w.heap.size w1.heap.size).map (·.val)).toArray 73)).cell? ⟨w1.heap.size+1,j,none⟩=some x.val∧x.val=.func (.func x.k) x.fst x.cap∧∀w,Sem.run Tryz.prog (callFunc x.k (x.fst++x.cap)) w=.ok (.enter x.k (x.fst++x.cap)) w:=λj x hx=>by
   refine⟨?_,HH B _ _ j x hx⟩;have e2:(w1.alloc (.cells #[.slice C D A] 41)).heap.size=w1.heap.size+1:=by simp
   rw[← e2];exact Al _ _ _ j _ (by simp[hx])
  have ae:Hid (BytesIn ((w1.alloc (.cells #[.slice C D A] 41)).alloc (.cells ((As B w.heap.size w1.heap.size).map (·.val)).toArray 73)) own (.slice C D A) (Mf.enc ver l)) :=
   QA (((ab.out.bytesIn (KP ver l) (λk hk=>H.out.fresh k (by simp at hk;omega))).kept (AB (T:=(·≠.other)) o) (by simp)))
  have aa:Hid (((w1.alloc (.cells #[.slice C D A] 41)).alloc (.cells ((As B w.heap.size w1.heap.size).map (·.val)).toArray 73)).cell? ⟨w.heap.size,0,none⟩=some (.pointer (some ⟨B,0,none⟩))):=by
   rw[World.cell?_of_block (Lib.alloc_old _ _ _ (by simp;omega))];exact QA ac
  have Y:Hid (((w1.alloc (.cells #[.slice C D A] 41)).alloc (.cells ((As B w.heap.size w1.heap.size).map (·.val)).toArray 73)).cell? ⟨w1.heap.size,0,none⟩=some (.slice C D A)):=by
   rw[World.cell?_of_block (Lib.alloc_old _ _ _ (by simp))];exact QA M
  have K:=QA (Ix base B (Mf.steps (Mf.enc ver l)) (As B w.heap.size w1.heap.size) (w1.heap.size+1) (Es k) st V own _ U.out ⟨hS,hP⟩ rfl (by simp[Mf.steps]) (by simp;try omega) (H.out.fresh _ (by omega)) G
   (by
    intro j f x hf hx st' V' own' w' hok hJ hO;have E:w'.cell? ⟨w.heap.size,0,none⟩=some (.pointer (some ⟨B,0,none⟩)):=by
     rw[World.cell?_of_block (hO.2 w.heap.size (by simp;omega) (H.out.fresh _ (QM _))).2];exact aa.out
    have Z:w'.cell? ⟨w1.heap.size,0,none⟩=some (.slice C D A):=by
     rw[World.cell?_of_block (hO.2 w1.heap.size (by simp;omega) (H.out.fresh _ (by omega))).2];exact Y.out
    have F:base≤w'.heap.size:=by have:=hO.1;simp at this;omega
    match j,hf,hx with
    | 0,hf,hx=>simp[Mf.steps]at hf;simp[As]at hx;subst hf hx;exact Ia base B st' V' own' w' hok F _ hJ.1 (by omega) _ E
    | 1,hf,hx=>simp[Mf.steps]at hf;simp[As]at hx;subst hf hx;exact IY base B st' V' own' w' hok F _ hJ.1 (by omega) _ E
    | 2,hf,hx =>
     simp[Mf.steps]at hf;simp[As]at hx;subst hf hx;exact Ik base B st' V' own' w' hok F _ hJ.1 (by omega) _ E _ _ _ (ae.out.others hO) Z (by have:=Mf.enc_len HG.out;omega) hJ.2
    | 3,hf,hx=>simp[Mf.steps]at hf;simp[As]at hx;subst hf hx;exact IP base B st' V' own' w' hok F _ hJ.1 (by omega) _ E
    | 4,hf,hx=>simp[Mf.steps]at hf;simp[As]at hx;subst hf hx;exact IR base B st' V' own' w' hok F _ hJ.1 (by omega) _ E
    | 5,hf,hx=>simp[Mf.steps]at hf;simp[As]at hx;subst hf hx;exact CY base B st' V' own' w' hok
    | j+6,hf,hx=>simp[Mf.steps]at hf)
   (λj f s hf hs _=>EF k _ j f s hf hs))
  have R:=QA (I.out.trans (o.mono I.out.size));have N:Hid (Mf.save st ver l=Fs.first (Mf.steps (Mf.enc ver l)) st):=by unfold Mf.save;rw[if_neg (by rw[HG.out];simp)];exact QA rfl
  clear G o M;go_wp2_with fail;refine K.out.mono ?_;rintro e w3 ⟨rfl,hp⟩;have HP:=QA hp;clear hp;go_wp2_with fail;go_ret;rw[N.out];exact⟨rfl,AM.step (AB R.out) (λ_ _=>rfl) HP.out⟩
 ·have N:Hid (Mf.save st ver l=(st,1)):=by unfold Mf.save;rw[if_pos hg];exact QA rfl
  clear hg;go_wp2_with fail;go_ret;rw[N.out];exact⟨rfl,AM.of H.out (I.out.trans (((Below.refl _ _).alloc (QM _) _).mono I.out.size))⟩
namespace Fs
structure Az (i:Nat) (st:St) (last:Int×List Int):Prop where
 calm:Calm st
 inv:Inv st
 sound:Sound st (20*i)
 room:st.room=60000
 len:∀n b,look st n=some b→b.length≤800+i
 dir:st.dir.length≤i+(if mhas st.dir Mf.final then 1 else 0)
 zero:last.1=0→look st Mf.final=none
 cur:last.1≠0→Mf.good last.1 last.2=true∧look st Mf.final=some (Mf.enc last.1 last.2)
theorem Az.new:Az 0 (Fs.new 60000) (0,[]) :=
 ⟨⟨rfl,rfl⟩,Inv.new _,Sound.new ⟨by decide,by decide⟩ _,rfl,λn b h=>(by rw[look_new]at h;cases h),ZS _,λ_=>rfl,λh=>absurd rfl h⟩
theorem Az.next {i:Nat} {st:St} {last:Int×List Int} (h:Az i st last):Az (i+1) st last :=
 ⟨h.calm,h.inv,h.sound.mono (by omega),h.room,λn b hb=>by have:=h.len n b hb;omega,by have:=h.dir;omega,h.zero,h.cur⟩
theorem Az.plan {i:Nat} {st:St} {last:Int×List Int} (h:Az i st last):PlanOK st:=λz hz=>by rw[h.calm.2]at hz;cases hz
theorem has_look {st:St} {n:List UInt8}:mhas st.dir n=(look st n).isSome:=by
 unfold look;cases mhas st.dir n<;>rfl
theorem Az.save {i:Nat} {st:St} {last:Int×List Int} (h:Az i st last) (hi:i<20) (v:Int) (l:List Int) :
  (Mf.good v l=true∧(Mf.save st v l).2=0∧Az i { st with } last∧∀k,k=i→(Calm (Mf.save st v l).1∧Inv (Mf.save st v l).1∧Sound (Mf.save st v l).1 (20*i+12)∧(Mf.save st v l).1.room=60000∧(∀n b,look (Mf.save st v l).1 n=some b→b.length≤800+i) ∧
   (Mf.save st v l).1.dir.length≤i+1∧look (Mf.save st v l).1 Mf.final=some (Mf.enc v l)))∨(Mf.good v l=false∧Mf.save st v l=(st,1)):=by
 cases hg:Mf.good v l
 ·exact .inr ⟨rfl,by unfold Mf.save;rw[if_pos hg]⟩
 ·have F:st.dir.length≤i+1:=by have:=h.dir;split at this<;>omega
  have I:(st.dir.length+1)*(800+i)≤22*820:=Nat.mul_le_mul (by omega) (by omega);obtain⟨D,o,J,B,H,A⟩:=Mf.save_calm h.calm h.inv hg (by omega) (M:=800+i) h.len (by rw[h.room];omega) (λf hf=>(h.sound.full f hf).2);obtain⟨C,E⟩:=Bs h.sound h.plan v l;refine .inl ⟨rfl,D,h,λk _=>⟨o.calm,o.inv,C,o.room.trans h.room,λn b hb=>?_,?_,by rw[A,if_pos rfl]⟩⟩
  ·rw[A]at hb;by_cases hn:n=Mf.final
   ·rw[if_pos hn]at hb;have:=Mf.enc_len hg;have e:Mf.enc v l=b:=Option.some.inj hb;rw[← e];omega
   ·rw[if_neg hn]at hb;by_cases hn2:n=Mf.draft
    ·rw[if_pos hn2]at hb;cases hb
    ·rw[if_neg hn2]at hb;exact h.len n b hb
  ·cases hf:mhas st.dir Mf.final
   ·have:=h.dir;rw[hf]at this;simp at this;omega
   ·have G:=B hf;have:=h.dir;rw[hf]at this;simp at this;omega
structure Cn (i:Nat) (st:St) (last:Int×List Int):Prop where
 calm:Calm st
 inv:Inv st
 sound:Sound st (20*i+12)
 room:st.room=60000
 len:∀n b,look st n=some b→b.length≤800+i
 dir:st.dir.length≤i+(if mhas st.dir Mf.final then 1 else 0)
 zero:last.1=0→look st Mf.final=none
 cur:last.1≠0→Mf.good last.1 last.2=true∧look st Mf.final=some (Mf.enc last.1 last.2)
theorem Cn.next {i:Nat} {st:St} {last:Int×List Int} (h:Cn i st last):Az (i+1) st last :=
 ⟨h.calm,h.inv,h.sound.mono (by omega),h.room,λn b hb=>by have:=h.len n b hb;omega,by have:=h.dir;omega,h.zero,h.cur⟩
theorem Cn.plan {i:Nat} {st:St} {last:Int×List Int} (h:Cn i st last):PlanOK st:=λz hz=>by rw[h.calm.2]at hz;cases hz
def other (st:St) (s:List UInt8) (rm:Bool):St :=
 if rm then (remove (append (create st s).1 s [1]).1 s).1 else (append (create st s).1 s [1]).1
theorem IX {st:St} {s:List UInt8} (hg:Fs.good s=false) (rm:Bool):other st s rm=st:=by
 have A:(create st s).1=st:=by unfold create;rw[if_pos hg]
 have o:openE st s≠0:=by unfold openE;rw[if_pos hg];decide
 have B:(append st s [1]).1=st:=by unfold append;rw[if_pos o]
 have C:(remove st s).1=st:=by unfold remove;rw[if_pos o]
 unfold other;rw[A,B,C];split<;>rfl
theorem Cn.other {i:Nat} {st:St} {last:Int×List Int} (h:Cn i st last) (hi:i<20) {s:List UInt8} (hs:s≠Mf.final) (rm:Bool):Az (i+1) (other st s rm) last∧Sound (create st s).1 (20*i+14)∧PlanOK (create st s).1∧Sound (append (create st s).1 s [1]).1 (20*i+14):=by
 have I:=h.sound.create s;have A:=I.append s [1];have K:=h.plan.of (plan_create st s);refine⟨?_,I,K,A⟩;cases hg:Fs.good s
 ·rw[IX hg];exact h.next
 have Z:st.dir.length≤i+1:=by have:=h.dir;split at this<;>omega
 obtain⟨o,X,W,P,L,S,d1,⟨old,V,o2⟩,Q⟩:∃o,(create st s).1=o∧Calm o∧Inv o∧o.room=60000∧(∀n b,look o n=some b→b.length≤800+i)∧o.dir.length≤st.dir.length+1 ∧
   (∃old,look o s=some old∧old.length≤800+i)∧∀m,m≠s→look o m=look st m:=by
  cases hh:mhas st.dir s
  ·obtain⟨a1,a2,a3,a4⟩:=calm_create h.calm h.inv hg hh (by omega);refine⟨_,rfl,a2.calm,a2.inv,a2.room.trans h.room,λn b hb=>?_,by omega,⟨[],by rw[a4,if_pos rfl],by simp⟩,λm hm=>by rw[a4,if_neg hm]⟩;rw[a4]at hb;by_cases hn:n=s
   ·rw[if_pos hn]at hb;have e:[]=b:=Option.some.inj hb;rw[← e];simp
   ·rw[if_neg hn]at hb;exact h.len n b hb
  ·have e:(create st s).1=st:=by unfold create;rw[if_neg (by rw[hg];simp),if_pos hh]
   refine⟨st,e,h.calm,h.inv,h.room,h.len,Nat.le_succ _,?_,λm _=>rfl⟩;have:look st s=some (fileAt st s):=by unfold look;rw[if_pos hh]
   exact⟨_,this,h.len s _ this⟩
 have hu:used o≤o.dir.length*(800+i):=used_look P S;have T:o.dir.length*(800+i)≤22*820:=Nat.mul_le_mul (by omega) (by omega);obtain⟨b1,H,R,_,J⟩:=calm_append (b:=[1]) W P hg V (by simp;omega) (by rw[L];simp;omega);have C:∀(s':St),s'.dir.length≤o.dir.length→(mhas s'.dir Mf.final=mhas st.dir Mf.final)→s'.dir.length≤(i+1)+(if mhas s'.dir Mf.final then 1 else 0):=by
  intro s' h1 h2;rw[h2];have:=h.dir;omega
 have E:mhas (append o s [1]).1.dir Mf.final=mhas st.dir Mf.final:=by
  rw[has_look,J,if_neg (λe=>hs e.symm),Q Mf.final (λe=>hs e.symm),← has_look]
 have F:look (append o s [1]).1 Mf.final=look st Mf.final:=by rw[J,if_neg (λe=>hs e.symm),Q Mf.final (λe=>hs e.symm)]
 have D:∀n b,look (append o s [1]).1 n=some b→b.length≤800+(i+1):=by
  intro n b hb;rw[J]at hb;by_cases hn:n=s
  ·rw[if_pos hn]at hb;have e:old++[1]=b:=Option.some.inj hb;rw[← e];simp;omega
  ·rw[if_neg hn]at hb;have:=S n b hb;omega
 unfold Fs.other;rw[X]at A ⊢;cases rm
 ·rw[if_neg (by simp)];refine⟨H.calm,H.inv,A.mono (by omega),H.room.trans L,D,C _ (by rw[R];exact QM _) E,λe=>by rw[F];exact h.zero e,λe=>by rw[F];exact h.cur e⟩
 ·rw[if_pos rfl];have M:mhas (append o s [1]).1.dir s=true:=by rw[has_look,J,if_pos rfl];rfl
  obtain⟨Y,N,U,_,O⟩:=calm_remove H.calm H.inv hg M;have G:mhas (remove (append o s [1]).1 s).1.dir Mf.final=mhas st.dir Mf.final:=by
   rw[has_look,O,if_neg (λe=>hs e.symm),← has_look];exact E
  have B:look (remove (append o s [1]).1 s).1 Mf.final=look st Mf.final:=by rw[O,if_neg (λe=>hs e.symm)];exact F
  refine⟨N.calm,N.inv,(A.remove s).mono (by omega),N.room.trans (H.room.trans L),λn b hb=>?_,C _ (by rw[U,R];exact mdel_len _ _) G,λe=>?_,λe=>?_⟩
  ·rw[O]at hb;by_cases hn:n=s
   ·rw[if_pos hn]at hb;cases hb
   ·rw[if_neg hn]at hb;exact D n b hb
  ·show look (remove (append o s [1]).1 s).1 Mf.final=none;rw[B];exact h.zero e
  ·show _∧look (remove (append o s [1]).1 s).1 Mf.final=_;rw[B];exact h.cur e
theorem Az.load {i:Nat} {st:St} {last:Int×List Int} (h:Az i st last):(last.1=0→Mf.load st=((0,[]),3))∧(last.1≠0→Mf.load st=(last,0)) :=
 ⟨λe=>Mf.load_none (h.zero e),λe=>Mf.load_look (h.cur e).1 (h.cur e).2⟩
end Fs
namespace Fs
def keepN (l:List Int) (n:List UInt8):Bool:=decide (n=Mf.final)||l.contains (Sg.idOf n)
def cleanGo (l:List Int):List (List UInt8)→St→Nat→St×Nat×Int
 | [],st,n=>if n=0 then (st,0,0) else ((syncDir st).1,n,(syncDir st).2)
 | x::r,st,n=>if keepN l x then cleanGo l r st n else if (remove st x).2≠0 then ((remove st x).1,n,(remove st x).2) else cleanGo l r (remove st x).1 (n+1)
def clean (st:St) (v:Int) (l:List Int):St×Nat×Int:=if Mf.good v l=false then (st,0,1) else cleanGo l (keys st.dir) st 0
theorem GA {l:Names} {k:List UInt8} (hn:l.Pairwise (λp q=>p.1≠q.1)) (h:mhas l k=true):(mdel l k).length+1=l.length:=by
 induction l with
 | nil=>cases h
 | cons y r ih =>
  rw[List.pairwise_cons]at hn;by_cases hy:y.1=k
  ·have o:mhas r k=false:=by
    cases hx:mhas r k
    ·rfl
    ·obtain⟨p,A,e⟩:=mhas_mem.1 hx;exact absurd (hy.trans e.symm) (hn.1 p A)
   have:mdel (y::r) k=mdel r k:=by unfold mdel;rw[List.filter_cons_of_neg (by simp[hy])]
   rw[this,Df o];rfl
  ·have o:mhas r k=true:=by
    unfold mhas at h ⊢;rw[List.any_cons]at h
    simpa [hy] using h
   have:=ih hn.2 o;unfold mdel at this ⊢;rw[List.filter_cons_of_pos (by simp[hy]),QO,QO];omega
theorem B3 {l:List Int}:∀(r:List (List UInt8)) (st:St) (n k:Nat),Sound st k→PlanOK st→Sound (cleanGo l r st n).1 (k+2*r.length)∧PlanOK (cleanGo l r st n).1
 | [],st,n,k,hs,hp=>by
  unfold cleanGo;split
  ·exact⟨hs,hp⟩
  ·exact⟨hs.syncDir,hp.of (plan_syncDir st)⟩
 | x::r,st,n,k,hs,hp=>by
  unfold cleanGo;have A:=hs.remove x;have o:=hp.of (plan_remove st x);split
  ·obtain⟨a,b⟩:=B3 r st n k hs hp;exact⟨a.mono (by rw[QO];omega),b⟩
  split
  ·exact⟨A.mono (by rw[QO];omega),o⟩
  ·obtain⟨a,b⟩:=B3 r (remove st x).1 (n+1) (k+2) A o;exact⟨a.mono (by rw[QO];omega),b⟩
theorem clean_sound {st:St} {k:Nat} (hs:Sound st k) (hp:PlanOK st) (v:Int) (l:List Int):Sound (clean st v l).1 (k+2*k)∧PlanOK (clean st v l).1:=by
 unfold clean;split
 ·exact⟨hs.mono (by omega),hp⟩
 ·obtain⟨a,b⟩:=B3 (l:=l) (keys st.dir) st 0 k hs hp;refine⟨a.mono ?_,b⟩;have:=hs.ndir;rw[keys_len];omega
theorem GK {st:St} {n:List UInt8}:mhas st.dir n=true↔∃b,look st n=some b:=by
 rw[has_look];cases look st n<;>simp
theorem CO {l:List Int}:∀(r:List (List UInt8)) (st:St) (n:Nat),Calm st→Inv st→r.Nodup→(∀x∈r,mhas st.dir x=true) →
  (cleanGo l r st n).2.2=0∧Calm (cleanGo l r st n).1∧Inv (cleanGo l r st n).1∧(cleanGo l r st n).1.room=st.room∧(cleanGo l r st n).2.1+(cleanGo l r st n).1.dir.length=n+st.dir.length ∧
   ∀m,look (cleanGo l r st n).1 m=if m∈r∧keepN l m=false then none else look st m
 | [],st,n,hc,hi,_,_=>by
  unfold cleanGo;split
  ·rename_i h;subst h;exact⟨rfl,hc,hi,rfl,rfl,λm=>by rw[if_neg (λh=>by cases h.1)]⟩
  ·obtain⟨a1,a2,E,a4,o⟩:=calm_syncDir hc hi;exact⟨a1,a2.calm,a2.inv,a2.room,by rw[E],λm=>by rw[if_neg (λh=>by cases h.1)];exact o m⟩
 | x::r,st,n,hc,hi,hd,hh=>by
  rw[List.nodup_cons]at hd;unfold cleanGo;cases hk:keepN l x
  ·have F:=hh x List.mem_cons_self;obtain⟨p,L,e⟩:=mhas_mem.1 F;have K:good x=true:=by rw[← e];exact hi.gd p L
   obtain⟨a1,a2,E,a4,o⟩:=calm_remove hc hi K F;rw[if_neg (by simp),if_neg (by simp[a1])];obtain⟨G,H,C,D,B,I⟩:=CO (l:=l) r (remove st x).1 (n+1) a2.calm a2.inv hd.2 (λy hy=>by
    have A:y≠x:=λe=>hd.1 (by rw[← e];exact hy)
    obtain⟨b,J⟩:=GK.1 (hh y (QT _ hy));exact GK.2 ⟨b,by rw[o,if_neg A];exact J⟩)
   refine⟨G,H,C,D.trans a2.room,?_,λm=>?_⟩
   ·rw[B,E];have:=GA hi.nd F;omega
   ·rw[I,o];by_cases hm:m=x
    ·subst hm;rw[if_neg (λh=>hd.1 h.1),if_pos rfl,if_pos ⟨List.mem_cons_self,hk⟩]
    ·rw[if_neg hm];by_cases h2:m∈r∧keepN l m=false
     ·rw[if_pos h2,if_pos ⟨QT _ h2.1,h2.2⟩]
     ·rw[if_neg h2,if_neg (λh=>h2 ⟨by rcases List.mem_cons.1 h.1 with e|e;exact absurd e hm;exact e,h.2⟩)]
  ·rw[if_pos rfl];obtain⟨G,H,C,D,B,I⟩:=CO (l:=l) r st n hc hi hd.2 (λy hy=>hh y (QT _ hy));refine⟨G,H,C,D,B,λm=>?_⟩;rw[I];by_cases h2:m∈r∧keepN l m=false
   ·rw[if_pos h2,if_pos ⟨QT _ h2.1,h2.2⟩]
   ·rw[if_neg h2,if_neg (λh=>h2 ⟨by
     rcases List.mem_cons.1 h.1 with e|e
     ·rw[e,hk]at h;cases h.2
     ·exact e,h.2⟩)]
theorem clean_calm {st:St} (hc:Calm st) (hi:Inv st) {v:Int} {l:List Int} (hg:Mf.good v l=true) :
  (clean st v l).2.2=0∧Calm (clean st v l).1∧Inv (clean st v l).1∧(clean st v l).1.room=st.room∧(clean st v l).2.1+(clean st v l).1.dir.length=st.dir.length ∧
   ∀m,look (clean st v l).1 m=if keepN l m then look st m else none:=by
 have e:clean st v l=cleanGo l (keys st.dir) st 0:=by unfold clean;rw[if_neg (by rw[hg];simp)]
 rw[e];obtain⟨C,o,A,B,E,D⟩:=CO (l:=l) (keys st.dir) st 0 hc hi (Hj hi.nd) (λx hx=>keys_mem.1 hx);refine⟨C,o,A,B,by omega,λm=>?_⟩;rw[D];cases hk:keepN l m
 ·by_cases hm:m∈keys st.dir
  ·rw[if_pos ⟨hm,rfl⟩];rfl
  ·rw[if_neg (λh=>hm h.1)];have:mhas st.dir m=false:=by
    cases hx:mhas st.dir m
    ·rfl
    ·exact absurd (keys_mem.2 hx) hm
   unfold look;rw[this];rfl
 ·rw[if_neg (λh=>by cases h.2),if_pos rfl]
theorem idOf_name {n:List UInt8} {v:Int} (h:Sg.idOf n=v) (hv:v≠0):Sg.nameB v=n∧Sg.nameE v=0:=by
 unfold Sg.idOf at h;cases ha:Lib.atoiAll (Lib.trimPrefix n Sg.seg) with
 | ok u =>
  rw[ha]at h;simp only at h;split at h
  ·rename_i hc;rw[← h];exact⟨hc.2.2,hc.2.1⟩
  ·exact absurd h.symm hv
 | _=>rw[ha]at h;exact absurd h.symm hv
end Fs
namespace Sto
structure St where
 ver:Int
 segs:List Int
 E:Ents
 dead:Bool
def active (s:St):Int:=s.segs.getLastD 0
def compactGo (id:Int):Ents→Fs.St→Fs.St×Int
 | [],f=>(f,0)
 | e::r,f=>if (Sg.append f id 1 (bytes e)).2≠0 then Sg.append f id 1 (bytes e) else compactGo id r (Sg.append f id 1 (bytes e)).1
def compact (f:Fs.St) (s:St):Fs.St×St×Int :=
 let c:=Sg.create f (active s+1)
 if c.2≠0 then (c.1,s,c.2)
 else
  let r:=compactGo (active s+1) s.E c.1
  if r.2≠0 then (r.1,s,r.2)
  else
   let m:=Mf.save r.1 (wrap64 (s.ver+1)) [active s+1]
   if m.2≠0 then (m.1,s,m.2)
   else
    let d:=Fs.clean m.1 (wrap64 (s.ver+1)) [active s+1]
    (d.1,{ s with ver:=wrap64 (s.ver+1),segs:=[active s+1] },d.2.2)
def room (f:Fs.St) (s:St):Fs.St×St×Int :=
 if s.segs.length=32 then compact f s
 else
  let c:=Sg.create f (active s+1)
  if c.2≠0 then (c.1,s,c.2)
  else
   let m:=Mf.save c.1 (wrap64 (s.ver+1)) (s.segs++[active s+1])
   (m.1,if m.2=0 then { s with ver:=wrap64 (s.ver+1),segs:=s.segs++[active s+1] } else s,m.2)
def met (s:St) (e:Int):St:={ s with dead:=s.dead||decide (e≠0) }
def write (f:Fs.St) (s:St) (ops:List Op):Fs.St×St×Int :=
 if s.dead then (f,s,23)
 else if chk ops≠0 then (f,s,chk ops)
 else if 50000<live (chgs s.E ops) then (f,s,8)
 else if ops.length=0 then (f,s,0)
 else
  let r:=if Fs.openE f (Sg.nameB (active s))=0∧4096<(Fs.fileAt f (Sg.nameB (active s))).length then room f s else (f,s,0)
  let s1:=met r.2.1 r.2.2
  if r.2.2≠0 then (r.1,s1,r.2.2)
  else
   let a:=Sg.append r.1 (active s1) 1 (flat ops)
   (a.1,if a.2=0 then { met s1 0 with E:=chgs s.E ops } else met s1 a.2,a.2)
end Sto
end Go.Proofs.YtjldahcckmmenaaGreatDoor
