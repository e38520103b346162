/-
  Manifests: numbers in memory; Check, walked. Manifests: Encode, walked. Manifests: steps one behind the other ('first'), walked. Manifests: Save, walked. Manifests: Save, walked (whole). 'ManifestLast': what holds from round to round (plain). Cleaning (plain); in calm weather. The store on a file system (plain): open, write, compact, in any weather.
-/
import Derived.Test.YtjldahcckmmenaaGreatDoorZd8
import Derived.Test.YtjldahcckmmenaaGreatDoorZd9
import Derived.Test.YtjldahcckmmenaaGreatDoorZd6
import Derived.Lib.SlicesS
import Derived.Test.YtjldahcckmmenaaGreatDoorZd2
open Go.Lib renaming hid → QA
open List renaming length_cons → QO, mem_cons_of_mem → QT, length_map → QV, drop_eq_getElem_cons → ZB, getElem?_eq_getElem → ZG
open Nat renaming le_refl → QM, le_trans → QQ, zero_le → ZS, lt_of_lt_of_le → ZT
namespace Go.Proofs.YtjldahcckmmenaaGreatDoor
set_option maxRecDepth 100000
set_option maxHeartbeats 4000000
set_option linter.unusedSimpArgs false
set_option linter.unusedVariables false
open Go Go.RowKit
open Go.Maps Go.WideMaps
theorem Mf.good_bad {v:Int} {l:List Int} (h:v<1∨2147483647<v∨l.length<1∨32<l.length):Mf.good v l=false:=by
 cases hg:Mf.good v l
 ·rfl
 ·have:=Mf.good_out hg;omega
theorem Mf.good_incr {v:Int} {l:List Int} (h1:1≤v) (h2:v≤2147483647) (h3:1≤l.length) (h4:l.length≤32):Mf.good v l=Mf.incr 0 l:=by
 unfold Mf.good;rw[decide_eq_true h1,decide_eq_true h2,decide_eq_true h3,decide_eq_true h4];rfl
theorem Mf.incr_drop {l:List Int} {j:Nat} {x:Int} (h:l[j]?=some x) (last:Int):Mf.incr last (l.drop j)=(decide (last<x)&&(decide (x≤2147483647)&&Mf.incr x (l.drop (j+1)))):=by
 obtain⟨o,A⟩:=List.getElem?_eq_some_iff.1 h;rw[ZB o,A,Mf.incr]
def Mf.chk (v:Int) (l:List Int):Int:=if Mf.good v l then 0 else 1
theorem E3 (ver:Int) (sv:Value) (l:List Int) (w:World) (hS:Dq w sv l) (hl:l.length≤1000000000) :
  Calls Tryz.prog 72 #[.agg #[.int .i64 ver,sv]] w λe w'=>e=.returned (.int .i64 (Mf.chk ver l))∧Below w.heap.size w w':=by
 obtain⟨K,I,rfl⟩:=hS.form;have C:Below w.heap.size w (w.alloc (.cells #[.int .i64 ver,.slice K l.length I] 47)):=(Below.refl _ _).alloc (QM _) _;have T:=QA (hS.below C);have J:=AK w (.cells #[.int .i64 ver,.slice K l.length I] 47);have y0:=AA J 0 _ rfl;have y1:=AA J 1 _ rfl;have H:=QA C;have W:(0:Int)≤(l.length:Int):=Int.natCast_nonneg _;clear hS J C;go_enter Tryz.func72,Tryz.ntmps72;by_cases h1:ver<1
 ·skip
  have B:Hid (Mf.chk ver l=1):=by unfold Mf.chk;rw[Mf.good_bad (by omega)];exact QA rfl
  go_wp2_with fail;go_ret;exact⟨congrArg (λx=>Ending.returned (.int .i64 x)) B.out.symm,(Below.refl _ _).alloc (QM _) _⟩
 have O:1≤ver:=by omega
 by_cases h2:2147483647<ver
 ·skip
  have B:Hid (Mf.chk ver l=1):=by unfold Mf.chk;rw[Mf.good_bad (by omega)];exact QA rfl
  go_wp2_with fail;go_ret;exact⟨congrArg (λx=>Ending.returned (.int .i64 x)) B.out.symm,(Below.refl _ _).alloc (QM _) _⟩
 have L:ver≤2147483647:=by omega
 by_cases h3:l.length<1
 ·have X:(l.length:Int)<1:=by omega
  have B:Hid (Mf.chk ver l=1):=by unfold Mf.chk;rw[Mf.good_bad (by omega)];exact QA rfl
  go_wp2_with fail;go_ret;exact⟨congrArg (λx=>Ending.returned (.int .i64 x)) B.out.symm,(Below.refl _ _).alloc (QM _) _⟩
 have Z:(1:Int)≤(l.length:Int):=by omega
 by_cases h4:32<l.length
 ·have U:(32:Int)<(l.length:Int):=by omega
  have B:Hid (Mf.chk ver l=1):=by unfold Mf.chk;rw[Mf.good_bad (by omega)];exact QA rfl
  go_wp2_with fail;go_ret;exact⟨congrArg (λx=>Ending.returned (.int .i64 x)) B.out.symm,(Below.refl _ _).alloc (QM _) _⟩
 have V:(l.length:Int)≤32:=by omega
 have P:Hid (Mf.good ver l=Mf.incr 0 l):=QA (Mf.good_incr O L (by omega) (by omega));clear h1 h2 h3 h4;go_wp2_with fail
 go_loopg [3,29] l.length (λk s3 s29 wr=>∃(j:Nat) (A:Int),j≤l.length∧k=l.length-j∧s29=.int .i64 (j:Nat)∧s3=.int .i64 A∧Mf.incr A (l.drop j)=Mf.incr 0 l∧wr=w.alloc (.cells #[.int .i64 ver,.slice K l.length I] 47))
 case atStart=>exact⟨0,0,ZS _,rfl,rfl,rfl,rfl,rfl⟩
 case round =>
  obtain⟨j,A,hj,Q,rfl,rfl,E,rfl⟩:=hrel;have S:=QA Q;have D:=QA E;clear Q E;have aa:(0:Int)≤(j:Int):=Int.natCast_nonneg _;by_cases hjn:j<l.length
  ·have G:(j:Int)<(l.length:Int):=by omega
   obtain⟨x,M⟩:∃x,l[j]?=some x:=⟨_,ZG hjn⟩
   obtain⟨g,o,rfl,hg,hc⟩:=T.out.at M;have R:=QA (Mf.incr_drop M A);clear M;by_cases C:x≤A∨2147483647<x
   ·have B:Hid (Mf.chk ver l=1):=by
     unfold Mf.chk;rw[P.out,← D.out,R.out];rcases C with C|C
     ·rw[decide_eq_false (by omega)];exact QA rfl
     ·rw[decide_eq_false (p:=x≤2147483647) (by omega),Bool.false_and,Bool.and_false];exact QA rfl
    rcases C with C|C
    ·go_wp2_with fail;go_ret;exact⟨congrArg (λx=>Ending.returned (.int .i64 x)) B.out.symm,H.out⟩
    ·by_cases F:x≤A
     ·go_wp2_with fail;go_ret;exact⟨congrArg (λx=>Ending.returned (.int .i64 x)) B.out.symm,H.out⟩
     ·have Y:A<x:=by omega
      go_wp2_with fail;go_ret;exact⟨congrArg (λx=>Ending.returned (.int .i64 x)) B.out.symm,H.out⟩
   ·have N:A<x:=by omega
    have F:x≤2147483647:=by omega
    clear C;go_wp2_with fail;go_roundg (l.length-(j+1))
    case measure=>rw[S.out];omega
    case rel=>exact⟨j+1,x,by omega,rfl,by simp,rfl,by rw[← D.out,R.out,decide_eq_true N,decide_eq_true F];rfl,rfl⟩
  ·have G:(l.length:Int)≤(j:Int):=by omega
   have B:Hid (Mf.chk ver l=0):=by
    unfold Mf.chk;rw[P.out,← D.out,List.drop_of_length_le (by omega)];exact QA rfl
   go_wp2_with fail;go_ret;exact⟨congrArg (λx=>Ending.returned (.int .i64 x)) B.out.symm,H.out⟩
open Go.Maps Go.WideMaps
def I7 (v:Int) (l:List Int) (w:World) (e:Ending) (w':World):Prop :=
 Below w.heap.size w w'∧((Mf.good v l=true∧∃b,e=.returned (.tuple #[b,.int .i64 0])∧Ag w' w.heap.size b (Mf.enc v l)) ∨
  (Mf.good v l=false∧e=.returned (.tuple #[.slice none 0 0,.int .i64 1])))
theorem Mf.pay_take {ns:List Int} {j:Nat} {x:Int} (h:ns[j]?=some x):Mf.pay (ns.take (j+1))=Mf.pay (ns.take j)++(Lib.itoa x++[10]):=by
 unfold Mf.pay;rw[List.take_add_one,h,List.flatMap_append];simp
theorem De (ver:Int) (sv:Value) (l:List Int) (w:World) (B:Nat) (hE:Aq B w) (hBw:B≤w.heap.size) (hS:Dq w sv l) (hl:l.length≤1000000000) :
  Calls Tryz.prog 86 #[.agg #[.int .i64 ver,sv]] w (I7 ver l w):=by
 obtain⟨U,sc,rfl⟩:=hS.form;have hb:Below w.heap.size w (w.alloc (.cells #[.int .i64 ver,.slice U l.length sc] 47)):=(Below.refl _ _).alloc (QM _) _;have hr:=AK w (.cells #[.int .i64 ver,.slice U l.length sc] 47);have y0:=AA hr 0 _ rfl;have y1:=AA hr 1 _ rfl;have HS:=QA hS;have HE:=QA hE;have aJ:B≤w.heap.size:=hBw;have HB:=QA hb;have HR:=QA hr;clear hS hr hb hE;go_enter Tryz.func86,Tryz.ntmps86;go_wp2_with fail;refine (E3 ver _ l _ (HS.out.below HB.out) hl).mono ?_;rintro e w1 ⟨rfl,hb1⟩;have F:=QA (HB.out.trans (hb1.mono HB.out.size));have J:w1.heap[w.heap.size]?=some (.cells #[.int .i64 ver,.slice U l.length sc] 47 (0,0)):=by rw[hb1.block _ (AC HR.out)];exact HR.out
 have z0:w1.cell? ⟨w.heap.size,0,none⟩=some (.int .i64 ver):=AA J 0 _ rfl;have ab:(w1.alloc (.cells #[.int .i64 ver] 3)).heap[w.heap.size]?=some (.cells #[.int .i64 ver,.slice U l.length sc] 47 (0,0)):=by rw[Lib.alloc_old _ _ _ (AC J)];exact J
 have z1:(w1.alloc (.cells #[.int .i64 ver] 3)).cell? ⟨w.heap.size,1,none⟩=some (.slice U l.length sc):=AA ab 1 _ rfl;have aT:=hb1.size;clear hb1 J ab y0 y1;cases K:Mf.good ver l
 ·have S:Mf.chk ver l=1:=by unfold Mf.chk;rw[K];rfl
  rw[S];have V:=QA K;clear K S;go_wp2_with fail;refine bodyPost_ret (v:=.tuple #[.slice none 0 0,.int .i64 1]) (by simp[results,Tryz.results86,go_sem]) rfl ?_;exact⟨F.out,.inr ⟨V.out,rfl⟩⟩
 ·have S:Mf.chk ver l=0:=by unfold Mf.chk;rw[K];rfl
  rw[S];have V:=QA K;have aa:=(Mf.good_out K).2.1;clear K S;have M:=(F.out).alloc F.out.size (.cells #[.int .i64 ver] 3);have N:=QA M;have am:=QA (Am.one w1 ver w.heap.size F.out.size);have aH:=QA (HS.out.below M);clear M;go_wp2_with (first|(at_builtin;refine AX rfl _ _ rfl w.heap.size (.slice (some ⟨w1.heap.size,0,none⟩) 1 1) _ rfl am.out _ l rfl aH.out aa.1 (by simp;omega) N.out.size ?_;intro d' w2 hown hgrow hloc;obtain⟨da,H,dc,aO,ag⟩:=Am.form3 hown;subst aO;have W:=QA hown;have aD:=QA hgrow;clear hown hgrow hloc)|fail);have C:=QA (below_grown N.out N.out.size am.out aD.out);have aA:=QA W.out.nums;have Z:Hid (([ver]++l:List Int).length=H):=QA ag.out.symm;have a3:H≤33:=by rw[ag.out];simp;omega
  have aK:=QA (Mf.good_all V.out);have aP:=QA (HE.out.below (C.out.mono aJ));clear z0 z1
  go_loopg [5,20] H (λk s5 s20 wr=>∃(j:Nat) (G:List (List UInt8×Value)),j≤H∧k=H-j∧s20=.int .i64 (j:Nat)∧PO wr w2.heap.size s5 G∧(G.map (·.1)).flatten=Mf.pay (([ver]++l).take j)∧G.length=j∧(∀p∈G,p.1.length≤100)∧Below w2.heap.size w2 wr)
  case atStart=>exact⟨0,[],ZS _,rfl,rfl,PO.nil _ _,rfl,rfl,λp D=>by (cases D),Below.refl _ _⟩
  case round =>
   obtain⟨j,G,hj,hk,rfl,af,ae,ao,ac,ai⟩:=hrel;have HK:=QA hk;have au:=QA af;have an:=QA ae;have I:=QA ao;have T:=QA ac;have A:=QA ai;clear hk af ae ao ac ai;have a2:(0:Int)≤(j:Int):=Int.natCast_nonneg _;by_cases hjn:j<H
   ·have aq:(j:Int)<(H:Int):=by omega
    obtain⟨x,R⟩:∃x,([ver]++l:List Int)[j]?=some x:=⟨_,ZG (by rw[Z.out];exact hjn)⟩
    have aX:=aK.out x (List.mem_of_getElem? R);have aL:=QA (Mf.pay_take R);obtain⟨g,o,rfl,K,S⟩:=(aA.out.below A.out).at R;clear R;go_wp2_with fail;refine (Tryz.strconv_Itoa x (by omega) (by omega) wr (aP.out.below (A.out.mono (by have:=C.out.size;omega))).tab).mono ?_;rintro e w3 ⟨rfl,kk,oss,hw3⟩;have ar:Below wr.heap.size wr w3:=by rw[hw3];exact Lib.below_grow wr.heap.size wr (QM _) kk oss
    have O:=QA ar;clear hw3 ar;obtain⟨s,hs⟩:∃s:ByteArray,s=⟨(Lib.itoa x).toArray⟩:=⟨_,rfl⟩
    have L:=Lib.itoa_length_le x (by omega) (by omega);have a9:(s.size:Int)≤21:=by
     rw[hs];show ((Lib.itoa x).toArray.size:Int)≤21;simp;omega
    rw[← hs];have aI:=QA hs;clear hs L;have a1:=run_bytes_of_string (P:=Tryz.prog) w3 9 41 5 (s++⟨#[10]⟩) Tryz.underlying9 Tryz.underlying41 Tryz.underlying5;have Q:(s++⟨#[10]⟩:ByteArray).size=s.size+1:=by rw[ByteArray.size_append];rfl
    have az:Hid (∀(fz:Nat×Nat),AZ (w3.drew.alloc (.cells (bytesRow (s++⟨#[10]⟩) (grownCap w3 (s.size+1) 0 5)) 5 fz)) (.slice (some ⟨w3.heap.size,0,none⟩) (s.size+1) (grownCap w3 (s.size+1) 0 5)) (Lib.itoa x++[10])):=by
     refine QA λfz=>?_
     have h1:=Gh w3 (s++⟨#[10]⟩) (grownCap w3 (s.size+1) 0 5) (by rw[Q];exact grownCap_ge _ _ _ _) fz;rw[Q]at h1;have h2:(s++⟨#[10]⟩:ByteArray).data.toList=Lib.itoa x++[10]:=by rw[aI.out];simp
     rw[h2]at h1;exact h1
    have aG:Hid ((Lib.itoa x++[10]).length≤100):=by
     refine QA ?_;have:=Lib.itoa_length_le x (by omega) (by omega);simp;omega
    clear Q;have E:=QA (au.out.keep O.out);have ak:w2.heap.size≤w3.heap.size:=QQ A.out.size O.out.size;have ap:=QA (A.out.trans (O.out.mono A.out.size));obtain⟨i0,hi,aQ,aM,aF⟩:=info_parts D1;have aR:j≤33:=by omega
    go_wp2_with (first|(at_builtin;refine wpList_append_own_at _ rfl _ _ 92 rfl w2.heap.size 41 i0 (.slice none 0 0) 1 24 Tryz.underlying92 hi aQ aM aF rfl (by decide) u5 G.length (G.map (·.2)) rfl ((E.out.keep (Cy _ _ _)).row) ⟨w3.heap.size+1,0,none⟩ 1 1 [.slice (some ⟨w3.heap.size,0,none⟩) (s.size+1) (grownCap w3 (s.size+1) 0 5)] rfl rfl (Gi _ _ _ _) (λu hu=>by simp at hu;subst hu;rfl) (by rw[I.out];unfold maxLen;omega) (by rw[I.out];omega) (by simp;omega) ?_;intro v' w5 hrow hgrow hnil hloc;clear hnil;have Y:=QA (PO.more (E.out.keep (Cy _ _ _)) (KN (az.out _) _) (by simp;omega) (LE E.out) hrow hgrow hloc);have aE:=QA (below_grown (ap.out.trans ((Cy _ _ _).mono ak)) (by simp;omega) (E.out.keep (Cy _ _ _)).row hgrow);clear hrow hgrow hloc)|fail);go_roundg (H-(j+1))
    case measure=>rw[HK.out];omega
    case rel=>exact⟨j+1,_,by omega,rfl,by simp,Y.out,by rw[List.map_append,List.flatten_append,an.out,aL.out];simp,by rw[List.length_append,I.out];rfl,λp D=>by
     rcases List.mem_append.1 D with D|D
     ·exact T.out p D
     ·simp only[List.mem_singleton]at D;subst D;exact aG.out,aE.out⟩
   ·have aq:(H:Int)≤(j:Int):=by omega
    have ah:Hid ((G.map (·.1)).flatten=Mf.pay (ver::l)):=by
     rw[an.out,List.take_of_length_le (by rw[Z.out];omega)];exact QA rfl
    have ay:=QA (Mf.enc_ok V.out);have X:=QA au.out.prts;obtain⟨pa,pc,aj⟩:=X.out.form;rw[QV]at aj;subst aj;go_wp2_with fail;refine (Ed 9 _ (G.map (·.1)) wr X.out (by rw[QV,I.out];omega) (λq hq=>by
     obtain⟨p,D,rfl⟩:=List.mem_map.1 hq;have:=T.out p D;omega)).mono ?_
    rintro e w6 ⟨hb6,hres⟩;have aB:=QA (C.out.trans ((A.out.trans (hb6.mono A.out.size)).mono C.out.size));rw[ah.out,ay.out]at hres;have ad:w.heap.size≤wr.heap.size:=QQ C.out.size A.out.size;rcases hres with⟨_,b,rfl,hob⟩|⟨R,_⟩
    ·have aN:=QA hob;clear hob hb6;go_wp2_with fail;refine bodyPost_ret (v:=.tuple #[b,.int .i64 0]) (by simp[results,Tryz.results86,go_sem]) rfl ?_;exact⟨aB.out,.inl ⟨V.out,b,rfl,aN.out.mono ad⟩⟩
    ·exact absurd rfl R
open Go.Maps Go.WideMaps
structure FnV where
 val:Value
 k:FuncId
 fst:Array Value
 cap:Array Value
def Bf (own0 own:Nat→Tag) (w0 w:World):Prop:=w0.heap.size≤w.heap.size∧∀b,b<w0.heap.size→own0 b=.other→own b=.other∧w.heap[b]?=w0.heap[b]?
theorem Bf.refl (own:Nat→Tag) (w:World):Bf own own w w:=⟨QM _,λ_ _ h=>⟨h,rfl⟩⟩
theorem AQ.others {base B:Nat} {st:Fs.St} {own:Nat→Tag} {w w':World} (h:AQ base B st own w w'):∃V' own',Aa base B st V' own' w'∧(∀k,k<w.heap.size→own' k=own k)∧Kept own (·≠.other) w w':=h
theorem Bf.next {own0 own own':Nat→Tag} {w0 w w':World} (h:Bf own0 own w0 w) (ho:∀k,k<w.heap.size→own' k=own k) (hk:Kept own (·≠.other) w w'):Bf own0 own' w0 w' :=
 ⟨QQ h.1 hk.size,λb hb h0=>by
  obtain⟨A,B⟩:=h.2 b hb h0;have o:=ZT hb h.1;exact⟨(ho b o).trans A,(hk.block b o (by rw[A];simp)).trans B⟩⟩
theorem IA (base B:Nat) (fs:List (Fs.St→Fs.St×Int)) (ks:List FnV) (gs:Nat) (J:Nat→Fs.St→Prop) (st0:Fs.St) (V0:FsV) (own0:Nat→Tag) (w0:World) (h0:Aa base B st0 V0 own0 w0) (hJ0:J 0 st0)
  (hn:ks.length=fs.length) (hn2:fs.length≤1000) (hgs:gs<w0.heap.size) (hgo:own0 gs=.other) (hcell:∀(j:Nat) x,ks[j]?=some x→w0.cell? ⟨gs,j,none⟩=some x.val∧x.val=.func (.func x.k) x.fst x.cap∧∀w,Sem.run Tryz.prog (callFunc x.k (x.fst++x.cap)) w=.ok (.enter x.k (x.fst++x.cap)) w)
  (hcall:∀(j:Nat) f x,fs[j]?=some f→ks[j]?=some x→∀st V own w,Aa base B st V own w→J j st→Bf own0 own w0 w→Calls Tryz.prog x.k (x.fst++x.cap) w λe w'=>e=.returned (.int .i64 (f st).2)∧AQ base B (f st).1 own w w')
  (hJ:∀(j:Nat) f st,fs[j]?=some f→J j st→(f st).2=0→J (j+1) (f st).1) :
  Calls Tryz.prog 87 #[.slice (some ⟨gs,0,none⟩) fs.length fs.length] w0 λe w'=>e=.returned (.int .i64 (Fs.first fs st0).2)∧AQ base B (Fs.first fs st0).1 own0 w0 w':=by
 have P:=QA hcell;have O:=QA hcall;have HJ:=QA hJ;have H0:=QA h0;have ac:=QA hJ0;clear hcell hcall hJ h0 hJ0;go_enter Tryz.func87,Tryz.ntmps87;go_wp2_with fail
 go_loopg [8] fs.length (λk s8 wr=>∃(j:Nat) (st:Fs.St) (V:FsV) (own:Nat→Tag),j≤fs.length∧k=fs.length-j∧s8=.int .i64 (j:Nat)∧Aa base B st V own wr∧J j st∧(∀k,k<w0.heap.size→own k=own0 k)∧Kept own0 (·≠.other) w0 wr∧Fs.first (fs.drop j) st=Fs.first fs st0)
 case atStart=>exact⟨0,st0,V0,own0,ZS _,rfl,rfl,H0.out,ac.out,λ_ _=>rfl,Kept.refl _ _ _,rfl⟩
 case round =>
  obtain⟨j,st,V,own,hj,R,rfl,X,Z,K,F,M⟩:=hrel;have HK:=QA R;have S:=QA X;have Q:=QA Z;have A:=QA K;have o:=QA F;have L:=QA M;clear R X Z K F M;have aA:(0:Int)≤(j:Int):=Int.natCast_nonneg _;by_cases hjn:j<fs.length
  ·have W:(j:Int)<(fs.length:Int):=by omega
   obtain⟨f,hf⟩:∃f,fs[j]?=some f:=⟨_,ZG hjn⟩
   obtain⟨x,hx⟩:∃x,ks[j]?=some x:=⟨_,ZG (by rw[hn];exact hjn)⟩
   obtain⟨c1,c2,c3⟩:=P.out j x hx;have E:Bf own0 own w0 wr:=⟨o.out.size,λb hb N=>⟨(A.out b hb).trans N,o.out.block b hb (by rw[N];simp)⟩⟩
   have ae:wr.cell? ⟨gs,j,none⟩=some (.func (.func x.k) x.fst x.cap):=by
    rw[World.cell?_of_block (E.2 gs hgs hgo).2,c1,c2]
   have HC:=QA (O.out j f x hf hx st V own wr S.out Q.out E);have HD:Hid (Fs.first fs st0=if (f st).2≠0 then f st else Fs.first (fs.drop (j+1)) (f st).1):=by
    rw[← L.out];obtain⟨N,h2⟩:=List.getElem?_eq_some_iff.1 hf;rw[ZB N,h2,Fs.first];exact QA rfl
   have HF:=QA hf;obtain⟨k,fst,cap,U⟩:∃k fst cap,x.k=k∧x.fst=fst∧x.cap=cap:=⟨_,_,_,rfl,rfl,rfl⟩
   obtain⟨e1,e2,e3⟩:=U;rw[e1,e2,e3]at ae c3 HC;clear e1 e2 e3 hx hf c1 c2 E;go_wp2_with fail;refine HC.out.mono ?_;rintro e w1 ⟨rfl,hp⟩;obtain⟨V1,H,N,Y,D⟩:=hp;have G:Hid (∀k,k<w0.heap.size→H k=own0 k):=QA λk R=>(Y k (ZT R o.out.size)).trans (A.out k R)
   have T:Hid (Kept own0 (·≠.other) w0 w1):=by
    refine QA ⟨D.os.trans o.out.os,D.tape.trans o.out.tape,D.output.trans o.out.output,QQ o.out.size D.size,λb hb ht=>?_⟩;rw[D.block b (ZT hb o.out.size) (by rw[A.out b hb];exact ht)];exact o.out.block b hb ht
   have H1:=QA N;obtain⟨C,hC⟩:∃C,C=(f st).2:=⟨_,rfl⟩
   rw[← hC];have I:=QA hC;clear hC N Y D;by_cases hC0:C=0
   ·subst hC0;have HN:=QA (HJ.out j f st HF.out Q.out I.out.symm);go_wp2_with fail;go_roundg (fs.length-(j+1))
    case measure=>rw[HK.out];omega
    case rel=>exact⟨j+1,(f st).1,V1,H,by omega,rfl,by simp,H1.out,HN.out,G.out,T.out,by rw[HD.out,if_neg (by rw[← I.out];simp)]⟩
   ·have ay:(C != 0)=true:=by rw[bne_iff_ne];exact hC0
    have an:(C==0)=false:=by rw[beq_eq_false_iff_ne];exact hC0
    have HE:Hid (Fs.first fs st0=f st):=by rw[HD.out,if_pos (by rw[← I.out];exact hC0)];exact QA rfl
    clear hC0;go_wp2_with fail;go_ret;rw[HE.out];exact⟨by rw[← I.out];rfl,V1,H,H1.out,G.out,T.out⟩
  ·have W:(fs.length:Int)≤(j:Int):=by omega
   have HE:Hid (Fs.first fs st0=(st,0)):=by rw[← L.out,List.drop_of_length_le (by omega),Fs.first];exact QA rfl
   go_wp2_with fail;go_ret;rw[HE.out];exact⟨rfl,V,own,S.out,A.out,o.out⟩
open Go.Maps Go.WideMaps
theorem Ci {w:World} {a:Option Addr} {n c:Nat} {ls:List ByteArray} (h:DG w (.slice a n c) ls) (hn:n≤1000000) (x:ByteArray) :
  Calls Tryz.prog 43 #[.slice a n c,.string x] w λe w'=>e=.returned (.bool (Lib.containsS ls x))∧w'=w:=by
 obtain⟨G,H,A,C⟩:=h;simp only[Value.slice.injEq]at A;obtain⟨rfl,rfl,rfl⟩:=A;cases ls with
 | nil=>exact (Tryz.slices_Contains_string_empty a c x w).mono (by rintro e w' ⟨rfl,rfl⟩;exact⟨rfl,rfl⟩)
 | cons y r =>
  obtain⟨b,o,E,_,_⟩:=C 0 y rfl;subst E;refine (Tryz.slices_Contains_string b o (y::r).length c (y::r) x w (QM _) (by omega) ?_).mono ?_
  ·intro j hj;obtain⟨I,B,D,_,F⟩:=C j (y::r)[j] (ZG hj);simp only[Option.some.injEq,Addr.mk.injEq,and_true]at D;obtain⟨rfl,rfl⟩:=D;rw[F,List.getD_eq_getElem?_getD,ZG hj];rfl
  ·rintro e w' ⟨rfl,rfl⟩;refine⟨congrArg (λb=>Ending.returned (.bool b)) ?_,rfl⟩;rw[List.take_of_length_le (QM _)]
theorem GZ {d:Fs.Names} {n:List UInt8}:Lib.containsS (strsOf (Fs.keys d)) (⟨n.toArray⟩:ByteArray)=Fs.mhas d n:=by
 rw[Bool.eq_iff_iff,Lib.containsS_iff,← Fs.keys_mem];unfold strsOf;rw[List.mem_map];constructor
 ·rintro⟨x,hx,e⟩;have:x=n:=by
   have:=congrArg (λb:ByteArray=>b.data.toList) e
   simpa using this
  rw[← this];exact hx
 ·exact λh=>⟨n,h,rfl⟩
def ET:ByteArray:=⟨#[109,97,110,105,102,101,115,116,46,116,109,112]⟩
def G4:ByteArray:=⟨#[109,97,110,105,102,101,115,116]⟩
theorem DG.len {w:World} {a:Option Addr} {n c:Nat} {ls:List ByteArray} (h:DG w (.slice a n c) ls):n=ls.length:=by
 obtain⟨A,B,o,C⟩:=h;simp only[Value.slice.injEq]at o;exact o.2.1
theorem EY (d:Fs.Names):(strsOf (Fs.keys d)).length=d.length:=by unfold strsOf;rw[QV,Fs.keys_len]
section
variable (base B : Nat) (st : Fs.St) (V : FsV) (own : Nat → Tag) (w : World) (h : Aa base B st V own w) (hbase : base ≤ w.heap.size) (k : Nat) (hS : Fs.Sound st k) (hk : k ≤ 700000) (fb : Nat) (hf : w.cell? ⟨fb, 0, none⟩ = some (.pointer (some ⟨B, 0, none⟩)))
include h hbase hS hk hf
set_option linter.unusedSectionVars false
set_option maxHeartbeats 1000000
set_option maxRecDepth 100000
theorem IK:Calls Tryz.prog 88 #[.pointer (some ⟨fb,0,none⟩)] w λe w'=>e=.returned (.int .i64 (Mf.clear st).2)∧AQ base B (Mf.clear st).1 own w w':=by
 have H:=QA h;have P:=hS.ndir;have L:=hS.nf;have I:=hS.nc;have C:=Bz hf;clear h;go_enter Tryz.func88,Tryz.ntmps88;go_wp2_with fail;refine (Bc base B st V own w H.out (by omega)).mono ?_;rintro e w1 ⟨v,rfl,hStr,_,hb1⟩;obtain⟨a,c,O⟩:=hStr.form;subst O;have M:=QA (H.out.kept (AB hb1));have A:=QA hb1;have K:w1.cell? ⟨fb,0,none⟩=some (.pointer (some ⟨B,0,none⟩)):=by rw[hb1.cell C];exact hf
 have J:=hb1.size;have o:=QA hStr;obtain⟨N,F⟩:∃N,N=(strsOf (Fs.keys st.dir)).length:=⟨_,rfl⟩
 have E:N≤1000000:=by rw[F,EY];omega
 rw[← F]at o ⊢;clear hb1 F hStr;go_wp2_with fail;refine (Ci o.out E _).mono ?_;rintro e w2 ⟨rfl,hw2⟩;subst hw2;rw[show (⟨#[109,97,110,105,102,101,115,116,46,116,109,112]⟩:ByteArray)=⟨Mf.draft.toArray⟩ from rfl,GZ];cases hh:Fs.mhas st.dir Mf.draft
 ·have D:Hid (Mf.clear st=(st,0)):=by unfold Mf.clear;rw[hh];exact QA rfl
  clear hh;go_wp2_with fail;go_ret;rw[D.out];exact⟨rfl,AQ.of H.out A.out⟩
 ·have D:Hid (Mf.clear st=Fs.remove st Mf.draft):=by unfold Mf.clear;rw[if_pos hh];exact QA rfl
  clear hh;go_wp2_with fail;refine (ED base B st V own ET w2 M.out (by omega) (by decide) (by omega) (by omega) (by omega)).mono ?_;rintro e w3 ⟨rfl,hp⟩;have G:=QA hp;clear hp;go_wp2_with fail;go_ret;rw[D.out];exact⟨rfl,AQ.step (AB A.out) (λ_ _=>rfl) G.out⟩
theorem Ip:Calls Tryz.prog 89 #[.pointer (some ⟨fb,0,none⟩)] w λe w'=>e=.returned (.int .i64 (Fs.create st Mf.draft).2)∧AQ base B (Fs.create st Mf.draft).1 own w w':=by
 have C:=hS.ndir;have o:=hS.nf;have D:=hS.nc;go_enter Tryz.func89,Tryz.ntmps89;go_wp2_with fail;refine (EV base B st V own ET w h (by decide) (by omega) (by omega) (by omega)).mono ?_;rintro e w3 ⟨rfl,hp⟩;have A:=QA hp;clear hp;go_wp2_with fail;go_ret;exact⟨rfl,A.out⟩
theorem IB:Calls Tryz.prog 91 #[.pointer (some ⟨fb,0,none⟩)] w λe w'=>e=.returned (.int .i64 (Fs.sync st Mf.draft).2)∧AQ base B (Fs.sync st Mf.draft).1 own w w':=by
 go_enter Tryz.func91,Tryz.ntmps91;go_wp2_with fail;refine (F2 base B st V own ET w h (by decide)).mono ?_;rintro e w3 ⟨rfl,hp⟩;have o:=QA hp;clear hp;go_wp2_with fail;go_ret;exact⟨rfl,o.out⟩
theorem Io:Calls Tryz.prog 92 #[.pointer (some ⟨fb,0,none⟩)] w λe w'=>e=.returned (.int .i64 (Fs.rename st Mf.draft Mf.final).2)∧AQ base B (Fs.rename st Mf.draft Mf.final).1 own w w':=by
 have C:=hS.ndir;have o:=hS.nf;have D:=hS.nc;go_enter Tryz.func92,Tryz.ntmps92;go_wp2_with fail;refine (G8 base B st V own ET G4 w h hbase (by decide) (by decide) (by omega) (by omega) (by omega)).mono ?_;rintro e w3 ⟨rfl,hp⟩;have A:=QA hp;clear hp;go_wp2_with fail;go_ret;exact⟨rfl,A.out⟩
theorem IV (bb:Nat) (bv:Value) (b:List UInt8) (hbv:BytesIn w own bv b) (hc:w.cell? ⟨bb,0,none⟩=some bv) (hl:b.length≤1000000) (hp:Fs.PlanOK st) :
  Calls Tryz.prog 90 #[.pointer (some ⟨fb,0,none⟩),.pointer (some ⟨bb,0,none⟩)] w λe w'=>e=.returned (.int .i64 (Fs.append st Mf.draft b).2)∧AQ base B (Fs.append st Mf.draft b).1 own w w':=by
 have F:=hS.ndir;have E:=hS.nf;have D:=hS.nc;have A:=QA hbv;obtain⟨g,o,c,rfl,_⟩:=hbv;go_enter Tryz.func90,Tryz.ntmps90;go_wp2_with fail;refine (EE base B st V own ET _ b w h A.out (by decide) (λf hf=>(hS.full f hf).2) hl (by omega) (by omega) hS.room hp.how hbase).mono ?_;rintro e w3 ⟨rfl,hp⟩;have C:=QA hp;clear hp;go_wp2_with fail;go_ret;exact⟨rfl,C.out⟩
end
open Go.Maps Go.WideMaps
theorem Ag.bytesIn {w:World} {base:Nat} {own:Nat→Tag} {v:Value} {l:List UInt8} (h:Ag w base v l) (hl:0<l.length) (ho:∀k,base≤k→own k=.other):BytesIn w own v l:=by
 obtain⟨g,c,E⟩:=Bj h hl;subst E;have o:=h.lt g rfl;obtain⟨_,H,C,F⟩:=h.byts.form;have A:l.length≤c:=by simp only[Value.slice.injEq]at C;omega
 refine⟨g,0,c,rfl,A,o.2,ho g o.1,λi x hx=>?_⟩;obtain⟨b,B,G,I,D⟩:=h.byts.at hx;cases G;exact D
theorem BytesIn.others {w w':World} {own own':Nat→Tag} {v:Value} {l:List UInt8} (h:BytesIn w own v l) (ho:Bf own own' w w'):BytesIn w' own' v l:=by
 obtain⟨g,o,c,C,F,A,B,G⟩:=h;obtain⟨D,E⟩:=ho.2 g A B;exact⟨g,o,c,C,F,ZT A ho.1,D,λi x hi=>by rw[World.cell?_of_block E];exact G i x hi⟩
theorem IY (cap:Array Value) (w:World):Sem.run Tryz.prog (callFunc 88 cap) w=.ok (.enter 88 cap) w:=by kernel_rfl
theorem Ic (cap:Array Value) (w:World):Sem.run Tryz.prog (callFunc 89 cap) w=.ok (.enter 89 cap) w:=by kernel_rfl
theorem Ir (cap:Array Value) (w:World):Sem.run Tryz.prog (callFunc 90 cap) w=.ok (.enter 90 cap) w:=by kernel_rfl
theorem II (cap:Array Value) (w:World):Sem.run Tryz.prog (callFunc 91 cap) w=.ok (.enter 91 cap) w:=by kernel_rfl
theorem IO (cap:Array Value) (w:World):Sem.run Tryz.prog (callFunc 92 cap) w=.ok (.enter 92 cap) w:=by kernel_rfl
theorem Iz (cap:Array Value) (w:World):Sem.run Tryz.prog (callFunc 70 cap) w=.ok (.enter 70 cap) w:=by kernel_rfl
def Ay (B fb bb:Nat):List FnV :=
 [⟨.func (.func 88) #[] #[.pointer (some ⟨fb,0,none⟩)],88,#[],#[.pointer (some ⟨fb,0,none⟩)]⟩,
  ⟨.func (.func 89) #[] #[.pointer (some ⟨fb,0,none⟩)],89,#[],#[.pointer (some ⟨fb,0,none⟩)]⟩,
  ⟨.func (.func 90) #[] #[.pointer (some ⟨fb,0,none⟩),.pointer (some ⟨bb,0,none⟩)],90,#[],#[.pointer (some ⟨fb,0,none⟩),.pointer (some ⟨bb,0,none⟩)]⟩,
  ⟨.func (.func 91) #[] #[.pointer (some ⟨fb,0,none⟩)],91,#[],#[.pointer (some ⟨fb,0,none⟩)]⟩,
  ⟨.func (.func 92) #[] #[.pointer (some ⟨fb,0,none⟩)],92,#[],#[.pointer (some ⟨fb,0,none⟩)]⟩,
  ⟨.func (.func 70) #[.pointer (some ⟨B,0,none⟩)] #[],70,#[.pointer (some ⟨B,0,none⟩)],#[]⟩]
theorem Gs (B fb bb:Nat):∀(j:Nat) x,(Ay B fb bb)[j]?=some x→x.val=.func (.func x.k) x.fst x.cap∧∀w,Sem.run Tryz.prog (callFunc x.k (x.fst++x.cap)) w=.ok (.enter x.k (x.fst++x.cap)) w
 | 0,x,h=>by simp[Ay]at h;subst h;exact⟨rfl,λw=>IY _ w⟩
 | 1,x,h=>by simp[Ay]at h;subst h;exact⟨rfl,λw=>Ic _ w⟩
 | 2,x,h=>by simp[Ay]at h;subst h;exact⟨rfl,λw=>Ir _ w⟩
 | 3,x,h=>by simp[Ay]at h;subst h;exact⟨rfl,λw=>II _ w⟩
 | 4,x,h=>by simp[Ay]at h;subst h;exact⟨rfl,λw=>IO _ w⟩
 | 5,x,h=>by simp[Ay]at h;subst h;exact⟨rfl,λw=>Iz _ w⟩
 | j+6,x,h=>by simp[Ay]at h
def Ee (k j:Nat) (st:Fs.St):Prop:=Fs.Sound st (k+2*j)∧Fs.PlanOK st
theorem Dy (k:Nat) (b:List UInt8):∀(j:Nat) f st,(Mf.steps b)[j]?=some f→Ee k j st→Ee k (j+1) (f st).1
 | 0,f,st,h,hj=>by
  simp[Mf.steps]at h;subst h;unfold Mf.clear;split
  ·exact⟨hj.1.remove _,hj.2.of (Fs.plan_remove _ _)⟩
  ·exact⟨hj.1.mono (by omega),hj.2⟩
 | 1,f,st,h,hj=>by simp[Mf.steps]at h;subst h;exact⟨hj.1.create _,hj.2.of (Fs.plan_create _ _)⟩
 | 2,f,st,h,hj=>by simp[Mf.steps]at h;subst h;exact⟨(hj.1.append _ _).mono (by omega),hj.2.of (Fs.plan_append _ _ _)⟩
 | 3,f,st,h,hj=>by simp[Mf.steps]at h;subst h;exact⟨(hj.1.sync _).mono (by omega),hj.2.of (Fs.plan_sync _ _)⟩
 | 4,f,st,h,hj=>by simp[Mf.steps]at h;subst h;exact⟨hj.1.rename _ _,hj.2.of (Fs.plan_rename _ _ _)⟩
 | 5,f,st,h,hj=>by simp[Mf.steps]at h;subst h;exact⟨hj.1.syncDir.mono (by omega),hj.2.of (Fs.plan_syncDir _)⟩
 | j+6,f,st,h,hj=>by simp[Mf.steps]at h
theorem Di {k n:Nat}:∀(fs:List (Fs.St→Fs.St×Int)) (j:Nat) (st:Fs.St),(∀(i:Nat) f st,fs[i]?=some f→Ee k (j+i) st→Ee k (j+i+1) (f st).1)→j+fs.length≤n→Ee k j st→Ee k n (Fs.first fs st).1
 | [],j,st,_,hn,h=>⟨h.1.mono (by simp at hn;omega),h.2⟩
 | f::r,j,st,hf,hn,h=>by
  have o:=hf 0 f st rfl h;rw[Fs.first];rw[QO]at hn;split
  ·exact⟨o.1.mono (by omega),o.2⟩
  ·exact Di r (j+1) _ (λi g s hg hs=>by
    have:=hf (i+1) g s (by simpa using hg) (by rw[show j+(i+1)=j+1+i by omega];exact hs);rw[show j+(i+1)+1=j+1+i+1 by omega]at this;exact this) (by omega) o
theorem Cp {st:Fs.St} {k:Nat} (hS:Fs.Sound st k) (hP:Fs.PlanOK st) (v:Int) (l:List Int):Fs.Sound (Mf.save st v l).1 (k+12)∧Fs.PlanOK (Mf.save st v l).1:=by
 unfold Mf.save;split
 ·exact⟨hS.mono (by omega),hP⟩
 ·exact Di (n:=6) _ 0 st (λi f s hf hs=>by
   rw[Nat.zero_add]at hs ⊢;exact Dy k _ i f s hf hs) (by simp[Mf.steps]) ⟨hS,hP⟩
theorem J2 (v:Int) (l:List Int):0<(Mf.enc v l).length:=by unfold Mf.enc;rw[Fr.bytes_len];omega
theorem EM (base B:Nat) (st:Fs.St) (V:FsV) (own:Nat→Tag) (ver:Int) (sv:Value) (l:List Int) (w:World) (h:Aa base B st V own w) (hE:Aq base w) (hbase:base≤w.heap.size) (k:Nat) (hS:Fs.Sound st k) (hk:k≤600000) (hP:Fs.PlanOK st)
  (hN:Dq w sv l) (hl:l.length≤1000000000) :
  Calls Tryz.prog 61 #[.pointer (some ⟨B,0,none⟩),.agg #[.int .i64 ver,sv]] w λe w'=>e=.returned (.int .i64 (Mf.save st ver l).2)∧AQ base B (Mf.save st ver l).1 own w w':=by
 obtain⟨P,O,rfl⟩:=hN.form;have e1:(w.alloc (.cells #[.pointer (some ⟨B,0,none⟩)] 28)).heap.size=w.heap.size+1:=by simp
 have W:Below w.heap.size w ((w.alloc (.cells #[.pointer (some ⟨B,0,none⟩)] 28)).alloc (.cells #[.int .i64 ver,.slice P l.length O] 47)):=((Below.refl _ _).alloc (QM _) _).alloc (by simp) _;have L:=AK (w.alloc (.cells #[.pointer (some ⟨B,0,none⟩)] 28)) (.cells #[.int .i64 ver,.slice P l.length O] 47);rw[e1]at L;have R:((w.alloc (.cells #[.pointer (some ⟨B,0,none⟩)] 28)).alloc (.cells #[.int .i64 ver,.slice P l.length O] 47)).cell? ⟨w.heap.size,0,none⟩=some (.pointer (some ⟨B,0,none⟩)):=by
  rw[World.cell?_of_block (Lib.alloc_old _ _ _ (by simp))];exact Ak w _ _ 0 _ rfl
 have y0:((w.alloc (.cells #[.pointer (some ⟨B,0,none⟩)] 28)).alloc (.cells #[.int .i64 ver,.slice P l.length O] 47)).cell? ⟨w.heap.size+1,0,none⟩=some (.int .i64 ver):=AA L 0 _ rfl;have y1:((w.alloc (.cells #[.pointer (some ⟨B,0,none⟩)] 28)).alloc (.cells #[.int .i64 ver,.slice P l.length O] 47)).cell? ⟨w.heap.size+1,1,none⟩=some (.slice P l.length O):=AA L 1 _ rfl;have H:=QA h;have HE:=QA hE;have HN:=QA hN;have J:=QA W;have U:=QA R;clear h hE hN W L e1 R;go_enter Tryz.func61,Tryz.ntmps61;go_wp2_with fail;refine (De ver _ l _ base (HE.out.below (J.out.mono hbase)) (QQ hbase J.out.size) (HN.out.below J.out) hl).mono ?_;rintro e w1 ⟨hb1,hres⟩;have E:=QA (J.out.trans (hb1.mono J.out.size));have H1:=QA (H.out.kept (AB E.out));have ad:w1.cell? ⟨w.heap.size,0,none⟩=some (.pointer (some ⟨B,0,none⟩)):=by rw[hb1.cell (Bz U.out)];exact U.out
 have ao:w.heap.size+2≤w1.heap.size:=by have:=hb1.size;simp at this;omega
 clear hb1 y0 y1;rcases hres with⟨hg,b,rfl,hob⟩|⟨hg,rfl⟩
 ·obtain⟨D,A,C,ab,al⟩:=Ag.form3 hob;subst ab;have Y:=QA hob;have HG:=QA hg;clear hg hob;have ae:(w1.alloc (.cells #[.slice D A C] 41)).cell? ⟨w.heap.size,0,none⟩=some (.pointer (some ⟨B,0,none⟩)):=by rw[World.cell?_of_block (Lib.alloc_old _ _ _ (show w.heap.size<w1.heap.size by omega))];exact ad
  have M:(w1.alloc (.cells #[.slice D A C] 41)).cell? ⟨w1.heap.size,0,none⟩=some (.slice D A C):=Ak _ _ _ 0 _ rfl;have o:Below w1.heap.size w1 ((w1.alloc (.cells #[.slice D A C] 41)).alloc (.cells ((Ay B w.heap.size w1.heap.size).map (·.val)).toArray 73)):=((Below.refl _ _).alloc (QM _) _).alloc (by simp) _;have S:=QA (H1.out.kept (AB o));have I:∀(j:Nat) x,(Ay B w.heap.size w1.heap.size)[j]?=some x→((w1.alloc (.cells #[.slice D A C] 41)).alloc (.cells ((Ay B w.heap.size w1.heap.size).map (·.val)).toArray 73)).cell? ⟨w1.heap.size+1,j,none⟩=some x.val∧x.val=.func (.func x.k) x.fst x.cap∧∀w,Sem.run Tryz.prog (callFunc x.k (x.fst++x.cap)) w=.ok (.enter x.k (x.fst++x.cap)) w:=λj x hx=>by
   refine⟨?_,Gs B _ _ j x hx⟩;have e2:(w1.alloc (.cells #[.slice D A C] 41)).heap.size=w1.heap.size+1:=by simp
   rw[← e2];exact Ak _ _ _ j _ (by simp[hx])
  have Z:Hid (BytesIn ((w1.alloc (.cells #[.slice D A C] 41)).alloc (.cells ((Ay B w.heap.size w1.heap.size).map (·.val)).toArray 73)) own (.slice D A C) (Mf.enc ver l)) :=
   QA (((Y.out.bytesIn (J2 ver l) (λk hk=>H.out.fresh k (by simp at hk;omega))).kept (AB (T:=(·≠.other)) o) (by simp)))
  have ac:Hid (((w1.alloc (.cells #[.slice D A C] 41)).alloc (.cells ((Ay B w.heap.size w1.heap.size).map (·.val)).toArray 73)).cell? ⟨w.heap.size,0,none⟩=some (.pointer (some ⟨B,0,none⟩))):=by
   rw[World.cell?_of_block (Lib.alloc_old _ _ _ (by simp;omega))];exact QA ae
  have X:Hid (((w1.alloc (.cells #[.slice D A C] 41)).alloc (.cells ((Ay B w.heap.size w1.heap.size).map (·.val)).toArray 73)).cell? ⟨w1.heap.size,0,none⟩=some (.slice D A C)):=by
   rw[World.cell?_of_block (Lib.alloc_old _ _ _ (by simp))];exact QA M
  have K:=QA (IA base B (Mf.steps (Mf.enc ver l)) (Ay B w.heap.size w1.heap.size) (w1.heap.size+1) (Ee k) st V own _ S.out ⟨hS,hP⟩ rfl (by simp[Mf.steps]) (by simp;try omega) (H.out.fresh _ (by omega)) I
   (by
    intro j f x hf hx st' V' own' w' hok hJ hO;have G:w'.cell? ⟨w.heap.size,0,none⟩=some (.pointer (some ⟨B,0,none⟩)):=by
     rw[World.cell?_of_block (hO.2 w.heap.size (by simp;omega) (H.out.fresh _ (QM _))).2];exact ac.out
    have aa:w'.cell? ⟨w1.heap.size,0,none⟩=some (.slice D A C):=by
     rw[World.cell?_of_block (hO.2 w1.heap.size (by simp;omega) (H.out.fresh _ (by omega))).2];exact X.out
    have F:base≤w'.heap.size:=by have:=hO.1;simp at this;omega
    match j,hf,hx with
    | 0,hf,hx=>simp[Mf.steps]at hf;simp[Ay]at hx;subst hf hx;exact IK base B st' V' own' w' hok F _ hJ.1 (by omega) _ G
    | 1,hf,hx=>simp[Mf.steps]at hf;simp[Ay]at hx;subst hf hx;exact Ip base B st' V' own' w' hok F _ hJ.1 (by omega) _ G
    | 2,hf,hx =>
     simp[Mf.steps]at hf;simp[Ay]at hx;subst hf hx;exact IV base B st' V' own' w' hok F _ hJ.1 (by omega) _ G _ _ _ (Z.out.others hO) aa (by have:=Mf.enc_len HG.out;omega) hJ.2
    | 3,hf,hx=>simp[Mf.steps]at hf;simp[Ay]at hx;subst hf hx;exact IB base B st' V' own' w' hok F _ hJ.1 (by omega) _ G
    | 4,hf,hx=>simp[Mf.steps]at hf;simp[Ay]at hx;subst hf hx;exact Io base B st' V' own' w' hok F _ hJ.1 (by omega) _ G
    | 5,hf,hx=>simp[Mf.steps]at hf;simp[Ay]at hx;subst hf hx;exact CX base B st' V' own' w' hok
    | j+6,hf,hx=>simp[Mf.steps]at hf)
   (λj f s hf hs _=>Dy k _ j f s hf hs))
  have Q:=QA (E.out.trans (o.mono E.out.size));have N:Hid (Mf.save st ver l=Fs.first (Mf.steps (Mf.enc ver l)) st):=by unfold Mf.save;rw[if_neg (by rw[HG.out];simp)];exact QA rfl
  clear I o M;go_wp2_with fail;refine K.out.mono ?_;rintro e w3 ⟨rfl,hp⟩;have HP:=QA hp;clear hp;go_wp2_with fail;go_ret;rw[N.out];exact⟨rfl,AQ.step (AB Q.out) (λ_ _=>rfl) HP.out⟩
 ·have N:Hid (Mf.save st ver l=(st,1)):=by unfold Mf.save;rw[if_pos hg];exact QA rfl
  clear hg;go_wp2_with fail;go_ret;rw[N.out];exact⟨rfl,AQ.of H.out (E.out.trans (((Below.refl _ _).alloc (QM _) _).mono E.out.size))⟩
namespace Fs
structure A4 (i:Nat) (st:St) (last:Int×List Int):Prop where
 calm:Calm st
 inv:Inv st
 sound:Sound st (20*i)
 room:st.room=60000
 len:∀n b,look st n=some b→b.length≤800+i
 dir:st.dir.length≤i+(if mhas st.dir Mf.final then 1 else 0)
 zero:last.1=0→look st Mf.final=none
 cur:last.1≠0→Mf.good last.1 last.2=true∧look st Mf.final=some (Mf.enc last.1 last.2)
theorem A4.new:A4 0 (Fs.new 60000) (0,[]) :=
 ⟨⟨rfl,rfl⟩,Inv.new _,Sound.new ⟨by decide,by decide⟩ _,rfl,λn b h=>(by rw[look_new]at h;cases h),ZS _,λ_=>rfl,λh=>absurd rfl h⟩
theorem A4.next {i:Nat} {st:St} {last:Int×List Int} (h:A4 i st last):A4 (i+1) st last :=
 ⟨h.calm,h.inv,h.sound.mono (by omega),h.room,λn b hb=>by have:=h.len n b hb;omega,by have:=h.dir;omega,h.zero,h.cur⟩
theorem A4.plan {i:Nat} {st:St} {last:Int×List Int} (h:A4 i st last):PlanOK st:=λz hz=>by rw[h.calm.2]at hz;cases hz
theorem has_look {st:St} {n:List UInt8}:mhas st.dir n=(look st n).isSome:=by
 unfold look;cases mhas st.dir n<;>rfl
theorem A4.save {i:Nat} {st:St} {last:Int×List Int} (h:A4 i st last) (hi:i<20) (v:Int) (l:List Int) :
  (Mf.good v l=true∧(Mf.save st v l).2=0∧A4 i { st with } last∧∀k,k=i→(Calm (Mf.save st v l).1∧Inv (Mf.save st v l).1∧Sound (Mf.save st v l).1 (20*i+12)∧(Mf.save st v l).1.room=60000∧(∀n b,look (Mf.save st v l).1 n=some b→b.length≤800+i) ∧
   (Mf.save st v l).1.dir.length≤i+1∧look (Mf.save st v l).1 Mf.final=some (Mf.enc v l)))∨(Mf.good v l=false∧Mf.save st v l=(st,1)):=by
 cases hg:Mf.good v l
 ·exact .inr ⟨rfl,by unfold Mf.save;rw[if_pos hg]⟩
 ·have F:st.dir.length≤i+1:=by have:=h.dir;split at this<;>omega
  have H:(st.dir.length+1)*(800+i)≤22*820:=Nat.mul_le_mul (by omega) (by omega);obtain⟨B,o,E,C,J,A⟩:=Mf.save_calm h.calm h.inv hg (by omega) (M:=800+i) h.len (by rw[h.room];omega) (λf hf=>(h.sound.full f hf).2);obtain⟨D,I⟩:=Cp h.sound h.plan v l;refine .inl ⟨rfl,B,h,λk _=>⟨o.calm,o.inv,D,o.room.trans h.room,λn b hb=>?_,?_,by rw[A,if_pos rfl]⟩⟩
  ·rw[A]at hb;by_cases hn:n=Mf.final
   ·rw[if_pos hn]at hb;have:=Mf.enc_len hg;have e:Mf.enc v l=b:=Option.some.inj hb;rw[← e];omega
   ·rw[if_neg hn]at hb;by_cases hn2:n=Mf.draft
    ·rw[if_pos hn2]at hb;cases hb
    ·rw[if_neg hn2]at hb;exact h.len n b hb
  ·cases hf:mhas st.dir Mf.final
   ·have:=h.dir;rw[hf]at this;simp at this;omega
   ·have G:=C hf;have:=h.dir;rw[hf]at this;simp at this;omega
structure Cg (i:Nat) (st:St) (last:Int×List Int):Prop where
 calm:Calm st
 inv:Inv st
 sound:Sound st (20*i+12)
 room:st.room=60000
 len:∀n b,look st n=some b→b.length≤800+i
 dir:st.dir.length≤i+(if mhas st.dir Mf.final then 1 else 0)
 zero:last.1=0→look st Mf.final=none
 cur:last.1≠0→Mf.good last.1 last.2=true∧look st Mf.final=some (Mf.enc last.1 last.2)
theorem Cg.next {i:Nat} {st:St} {last:Int×List Int} (h:Cg i st last):A4 (i+1) st last :=
 ⟨h.calm,h.inv,h.sound.mono (by omega),h.room,λn b hb=>by have:=h.len n b hb;omega,by have:=h.dir;omega,h.zero,h.cur⟩
theorem Cg.plan {i:Nat} {st:St} {last:Int×List Int} (h:Cg i st last):PlanOK st:=λz hz=>by rw[h.calm.2]at hz;cases hz
def other (st:St) (s:List UInt8) (rm:Bool):St :=
 if rm then (remove (append (create st s).1 s [1]).1 s).1 else (append (create st s).1 s [1]).1
theorem Ie {st:St} {s:List UInt8} (hg:Fs.good s=false) (rm:Bool):other st s rm=st:=by
 have C:(create st s).1=st:=by unfold create;rw[if_pos hg]
 have o:openE st s≠0:=by unfold openE;rw[if_pos hg];decide
 have A:(append st s [1]).1=st:=by unfold append;rw[if_pos o]
 have B:(remove st s).1=st:=by unfold remove;rw[if_pos o]
 unfold other;rw[C,A,B];split<;>rfl
theorem Cg.other {i:Nat} {st:St} {last:Int×List Int} (h:Cg i st last) (hi:i<20) {s:List UInt8} (hs:s≠Mf.final) (rm:Bool):A4 (i+1) (other st s rm) last∧Sound (create st s).1 (20*i+14)∧PlanOK (create st s).1∧Sound (append (create st s).1 s [1]).1 (20*i+14):=by
 have I:=h.sound.create s;have A:=I.append s [1];have N:=h.plan.of (plan_create st s);refine⟨?_,I,N,A⟩;cases hg:Fs.good s
 ·rw[Ie hg];exact h.next
 have hd:st.dir.length≤i+1:=by have:=h.dir;split at this<;>omega
 obtain⟨o,X,W,P,K,Q,d1,⟨old,V,o2⟩,R⟩:∃o,(create st s).1=o∧Calm o∧Inv o∧o.room=60000∧(∀n b,look o n=some b→b.length≤800+i)∧o.dir.length≤st.dir.length+1 ∧
   (∃old,look o s=some old∧old.length≤800+i)∧∀m,m≠s→look o m=look st m:=by
  cases hh:mhas st.dir s
  ·obtain⟨a1,a2,Z,a4⟩:=calm_create h.calm h.inv hg hh (by omega);refine⟨_,rfl,a2.calm,a2.inv,a2.room.trans h.room,λn b hb=>?_,by omega,⟨[],by rw[a4,if_pos rfl],by simp⟩,λm hm=>by rw[a4,if_neg hm]⟩;rw[a4]at hb;by_cases hn:n=s
   ·rw[if_pos hn]at hb;have e:[]=b:=Option.some.inj hb;rw[← e];simp
   ·rw[if_neg hn]at hb;exact h.len n b hb
  ·have e:(create st s).1=st:=by unfold create;rw[if_neg (by rw[hg];simp),if_pos hh]
   refine⟨st,e,h.calm,h.inv,h.room,h.len,Nat.le_succ _,?_,λm _=>rfl⟩;have:look st s=some (fileAt st s):=by unfold look;rw[if_pos hh]
   exact⟨_,this,h.len s _ this⟩
 have hu:used o≤o.dir.length*(800+i):=used_look P Q;have T:o.dir.length*(800+i)≤22*820:=Nat.mul_le_mul (by omega) (by omega);obtain⟨Y,H,S,_,J⟩:=calm_append (b:=[1]) W P hg V (by simp;omega) (by rw[K];simp;omega);have E:∀(s':St),s'.dir.length≤o.dir.length→(mhas s'.dir Mf.final=mhas st.dir Mf.final)→s'.dir.length≤(i+1)+(if mhas s'.dir Mf.final then 1 else 0):=by
  intro s' h1 h2;rw[h2];have:=h.dir;omega
 have B:mhas (append o s [1]).1.dir Mf.final=mhas st.dir Mf.final:=by
  rw[has_look,J,if_neg (λe=>hs e.symm),R Mf.final (λe=>hs e.symm),← has_look]
 have F:look (append o s [1]).1 Mf.final=look st Mf.final:=by rw[J,if_neg (λe=>hs e.symm),R Mf.final (λe=>hs e.symm)]
 have C:∀n b,look (append o s [1]).1 n=some b→b.length≤800+(i+1):=by
  intro n b hb;rw[J]at hb;by_cases hn:n=s
  ·rw[if_pos hn]at hb;have e:old++[1]=b:=Option.some.inj hb;rw[← e];simp;omega
  ·rw[if_neg hn]at hb;have:=Q n b hb;omega
 unfold Fs.other;rw[X]at A ⊢;cases rm
 ·rw[if_neg (by simp)];refine⟨H.calm,H.inv,A.mono (by omega),H.room.trans K,C,E _ (by rw[S];exact QM _) B,λe=>by rw[F];exact h.zero e,λe=>by rw[F];exact h.cur e⟩
 ·rw[if_pos rfl];have O:mhas (append o s [1]).1.dir s=true:=by rw[has_look,J,if_pos rfl];rfl
  obtain⟨g1,M,U,_,L⟩:=calm_remove H.calm H.inv hg O;have G:mhas (remove (append o s [1]).1 s).1.dir Mf.final=mhas st.dir Mf.final:=by
   rw[has_look,L,if_neg (λe=>hs e.symm),← has_look];exact B
  have D:look (remove (append o s [1]).1 s).1 Mf.final=look st Mf.final:=by rw[L,if_neg (λe=>hs e.symm)];exact F
  refine⟨M.calm,M.inv,(A.remove s).mono (by omega),M.room.trans (H.room.trans K),λn b hb=>?_,E _ (by rw[U,S];exact mdel_len _ _) G,λe=>?_,λe=>?_⟩
  ·rw[L]at hb;by_cases hn:n=s
   ·rw[if_pos hn]at hb;cases hb
   ·rw[if_neg hn]at hb;exact C n b hb
  ·show look (remove (append o s [1]).1 s).1 Mf.final=none;rw[D];exact h.zero e
  ·show _∧look (remove (append o s [1]).1 s).1 Mf.final=_;rw[D];exact h.cur e
theorem A4.load {i:Nat} {st:St} {last:Int×List Int} (h:A4 i st last):(last.1=0→Mf.load st=((0,[]),3))∧(last.1≠0→Mf.load st=(last,0)) :=
 ⟨λe=>Mf.load_none (h.zero e),λe=>Mf.load_look (h.cur e).1 (h.cur e).2⟩
end Fs
namespace Fs
def keepN (l:List Int) (n:List UInt8):Bool:=decide (n=Mf.final)||l.contains (Sg.idOf n)
def cleanGo (l:List Int):List (List UInt8)→St→Nat→St×Nat×Int
 | [],st,n=>if n=0 then (st,0,0) else ((syncDir st).1,n,(syncDir st).2)
 | x::r,st,n=>if keepN l x then cleanGo l r st n else if (remove st x).2≠0 then ((remove st x).1,n,(remove st x).2) else cleanGo l r (remove st x).1 (n+1)
def clean (st:St) (v:Int) (l:List Int):St×Nat×Int:=if Mf.good v l=false then (st,0,1) else cleanGo l (keys st.dir) st 0
theorem GU {l:Names} {k:List UInt8} (hn:l.Pairwise (λp q=>p.1≠q.1)) (h:mhas l k=true):(mdel l k).length+1=l.length:=by
 induction l with
 | nil=>cases h
 | cons y r ih =>
  rw[List.pairwise_cons]at hn;by_cases hy:y.1=k
  ·have o:mhas r k=false:=by
    cases hx:mhas r k
    ·rfl
    ·obtain⟨p,A,e⟩:=mhas_mem.1 hx;exact absurd (hy.trans e.symm) (hn.1 p A)
   have:mdel (y::r) k=mdel r k:=by unfold mdel;rw[List.filter_cons_of_neg (by simp[hy])]
   rw[this,DV o];rfl
  ·have o:mhas r k=true:=by
    unfold mhas at h ⊢;rw[List.any_cons]at h
    simpa [hy] using h
   have:=ih hn.2 o;unfold mdel at this ⊢;rw[List.filter_cons_of_pos (by simp[hy]),QO,QO];omega
theorem Bu {l:List Int}:∀(r:List (List UInt8)) (st:St) (n k:Nat),Sound st k→PlanOK st→Sound (cleanGo l r st n).1 (k+2*r.length)∧PlanOK (cleanGo l r st n).1
 | [],st,n,k,hs,hp=>by
  unfold cleanGo;split
  ·exact⟨hs,hp⟩
  ·exact⟨hs.syncDir,hp.of (plan_syncDir st)⟩
 | x::r,st,n,k,hs,hp=>by
  unfold cleanGo;have o:=hs.remove x;have A:=hp.of (plan_remove st x);split
  ·obtain⟨a,b⟩:=Bu r st n k hs hp;exact⟨a.mono (by rw[QO];omega),b⟩
  split
  ·exact⟨o.mono (by rw[QO];omega),A⟩
  ·obtain⟨a,b⟩:=Bu r (remove st x).1 (n+1) (k+2) o A;exact⟨a.mono (by rw[QO];omega),b⟩
theorem clean_sound {st:St} {k:Nat} (hs:Sound st k) (hp:PlanOK st) (v:Int) (l:List Int):Sound (clean st v l).1 (k+2*k)∧PlanOK (clean st v l).1:=by
 unfold clean;split
 ·exact⟨hs.mono (by omega),hp⟩
 ·obtain⟨a,b⟩:=Bu (l:=l) (keys st.dir) st 0 k hs hp;refine⟨a.mono ?_,b⟩;have:=hs.ndir;rw[keys_len];omega
theorem Fv {st:St} {n:List UInt8}:mhas st.dir n=true↔∃b,look st n=some b:=by
 rw[has_look];cases look st n<;>simp
theorem CL {l:List Int}:∀(r:List (List UInt8)) (st:St) (n:Nat),Calm st→Inv st→r.Nodup→(∀x∈r,mhas st.dir x=true) →
  (cleanGo l r st n).2.2=0∧Calm (cleanGo l r st n).1∧Inv (cleanGo l r st n).1∧(cleanGo l r st n).1.room=st.room∧(cleanGo l r st n).2.1+(cleanGo l r st n).1.dir.length=n+st.dir.length ∧
   ∀m,look (cleanGo l r st n).1 m=if m∈r∧keepN l m=false then none else look st m
 | [],st,n,hc,hi,_,_=>by
  unfold cleanGo;split
  ·rename_i h;subst h;exact⟨rfl,hc,hi,rfl,rfl,λm=>by rw[if_neg (λh=>by cases h.1)]⟩
  ·obtain⟨a1,a2,C,a4,o⟩:=calm_syncDir hc hi;exact⟨a1,a2.calm,a2.inv,a2.room,by rw[C],λm=>by rw[if_neg (λh=>by cases h.1)];exact o m⟩
 | x::r,st,n,hc,hi,hd,hh=>by
  rw[List.nodup_cons]at hd;unfold cleanGo;cases hk:keepN l x
  ·have H:=hh x List.mem_cons_self;obtain⟨p,L,e⟩:=mhas_mem.1 H;have J:good x=true:=by rw[← e];exact hi.gd p L
   obtain⟨a1,a2,C,a4,o⟩:=calm_remove hc hi J H;rw[if_neg (by simp),if_neg (by simp[a1])];obtain⟨A,G,D,E,F,I⟩:=CL (l:=l) r (remove st x).1 (n+1) a2.calm a2.inv hd.2 (λy hy=>by
    have B:y≠x:=λe=>hd.1 (by rw[← e];exact hy)
    obtain⟨b,K⟩:=Fv.1 (hh y (QT _ hy));exact Fv.2 ⟨b,by rw[o,if_neg B];exact K⟩)
   refine⟨A,G,D,E.trans a2.room,?_,λm=>?_⟩
   ·rw[F,C];have:=GU hi.nd H;omega
   ·rw[I,o];by_cases hm:m=x
    ·subst hm;rw[if_neg (λh=>hd.1 h.1),if_pos rfl,if_pos ⟨List.mem_cons_self,hk⟩]
    ·rw[if_neg hm];by_cases h2:m∈r∧keepN l m=false
     ·rw[if_pos h2,if_pos ⟨QT _ h2.1,h2.2⟩]
     ·rw[if_neg h2,if_neg (λh=>h2 ⟨by rcases List.mem_cons.1 h.1 with e|e;exact absurd e hm;exact e,h.2⟩)]
  ·rw[if_pos rfl];obtain⟨A,G,D,E,F,I⟩:=CL (l:=l) r st n hc hi hd.2 (λy hy=>hh y (QT _ hy));refine⟨A,G,D,E,F,λm=>?_⟩;rw[I];by_cases h2:m∈r∧keepN l m=false
   ·rw[if_pos h2,if_pos ⟨QT _ h2.1,h2.2⟩]
   ·rw[if_neg h2,if_neg (λh=>h2 ⟨by
     rcases List.mem_cons.1 h.1 with e|e
     ·rw[e,hk]at h;cases h.2
     ·exact e,h.2⟩)]
theorem clean_calm {st:St} (hc:Calm st) (hi:Inv st) {v:Int} {l:List Int} (hg:Mf.good v l=true) :
  (clean st v l).2.2=0∧Calm (clean st v l).1∧Inv (clean st v l).1∧(clean st v l).1.room=st.room∧(clean st v l).2.1+(clean st v l).1.dir.length=st.dir.length ∧
   ∀m,look (clean st v l).1 m=if keepN l m then look st m else none:=by
 have e:clean st v l=cleanGo l (keys st.dir) st 0:=by unfold clean;rw[if_neg (by rw[hg];simp)]
 rw[e];obtain⟨A,D,o,C,E,B⟩:=CL (l:=l) (keys st.dir) st 0 hc hi (HQ hi.nd) (λx hx=>keys_mem.1 hx);refine⟨A,D,o,C,by omega,λm=>?_⟩;rw[B];cases hk:keepN l m
 ·by_cases hm:m∈keys st.dir
  ·rw[if_pos ⟨hm,rfl⟩];rfl
  ·rw[if_neg (λh=>hm h.1)];have:mhas st.dir m=false:=by
    cases hx:mhas st.dir m
    ·rfl
    ·exact absurd (keys_mem.2 hx) hm
   unfold look;rw[this];rfl
 ·rw[if_neg (λh=>by cases h.2),if_pos rfl]
theorem idOf_name {n:List UInt8} {v:Int} (h:Sg.idOf n=v) (hv:v≠0):Sg.nameB v=n∧Sg.nameE v=0:=by
 unfold Sg.idOf at h;cases ha:Lib.atoiAll (Lib.trimPrefix n Sg.seg) with
 | ok u =>
  rw[ha]at h;simp only at h;split at h
  ·rename_i hc;rw[← h];exact⟨hc.2.2,hc.2.1⟩
  ·exact absurd h.symm hv
 | _=>rw[ha]at h;exact absurd h.symm hv
end Fs
namespace Sto
structure St where
 ver:Int
 segs:List Int
 E:Ents
 dead:Bool
def BL (s:St):Int:=s.segs.getLastD 0
def Ev (id:Int):Ents→Fs.St→Fs.St×Int
 | [],f=>(f,0)
 | e::r,f=>if (Sg.append f id 1 (bytes e)).2≠0 then Sg.append f id 1 (bytes e) else Ev id r (Sg.append f id 1 (bytes e)).1
def compact (f:Fs.St) (s:St):Fs.St×St×Int :=
 let c:=Sg.create f (BL s+1)
 if c.2≠0 then (c.1,s,c.2)
 else
  let r:=Ev (BL s+1) s.E c.1
  if r.2≠0 then (r.1,s,r.2)
  else
   let m:=Mf.save r.1 (wrap64 (s.ver+1)) [BL s+1]
   if m.2≠0 then (m.1,s,m.2)
   else
    let d:=Fs.clean m.1 (wrap64 (s.ver+1)) [BL s+1]
    (d.1,{ s with ver:=wrap64 (s.ver+1),segs:=[BL s+1] },d.2.2)
def room (f:Fs.St) (s:St):Fs.St×St×Int :=
 if s.segs.length=32 then compact f s
 else
  let c:=Sg.create f (BL s+1)
  if c.2≠0 then (c.1,s,c.2)
  else
   let m:=Mf.save c.1 (wrap64 (s.ver+1)) (s.segs++[BL s+1])
   (m.1,if m.2=0 then { s with ver:=wrap64 (s.ver+1),segs:=s.segs++[BL s+1] } else s,m.2)
def met (s:St) (e:Int):St:={ s with dead:=s.dead||decide (e≠0) }
def write (f:Fs.St) (s:St) (ops:List Op):Fs.St×St×Int :=
 if s.dead then (f,s,23)
 else if chk ops≠0 then (f,s,chk ops)
 else if 50000<live (chgs s.E ops) then (f,s,8)
 else if ops.length=0 then (f,s,0)
 else
  let r:=if Fs.openE f (Sg.nameB (BL s))=0∧4096<(Fs.fileAt f (Sg.nameB (BL s))).length then room f s else (f,s,0)
  let s1:=met r.2.1 r.2.2
  if r.2.2≠0 then (r.1,s1,r.2.2)
  else
   let a:=Sg.append r.1 (BL s1) 1 (flat ops)
   (a.1,if a.2=0 then { met s1 0 with E:=chgs s.E ops } else met s1 a.2,a.2)
end Sto
end Go.Proofs.YtjldahcckmmenaaGreatDoor
