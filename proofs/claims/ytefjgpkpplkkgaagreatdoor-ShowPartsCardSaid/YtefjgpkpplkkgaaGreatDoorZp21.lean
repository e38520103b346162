/-
  The reader of documents: Parse, walked.
-/
import Derived.Test.YtefjgpkpplkkgaaGreatDoorZp20
import Derived.Test.YtefjgpkpplkkgaaGreatDoorZp15
import Derived.Test.YtefjgpkpplkkgaaGreatDoorZp2
import Derived.Test.YtefjgpkpplkkgaaGreatDoorZp19
open Array renaming getInternal_eq_getElem → QD
open Go.Lib renaming hid → QA
open List renaming setIfInBounds_toArray → QC, drop_succ_cons → QE, take_succ_cons → QF, set_cons_succ → QG, set_cons_zero → QH, getElem_cons_zero → QI, getElem_cons_succ → QJ, getElem_toArray → QK, drop_zero → QL, take_zero → QN, length_append → QT, length_map → QX
open Nat renaming le_refl → QM, le_trans → QR
namespace Go.Proofs.YtefjgpkpplkkgaaGreatDoor
set_option linter.unusedSimpArgs false
set_option linter.unusedVariables false
open Go Go.RowKit
def mkDoc (v1 v2:Value):Array Value:=#[v1,v2]
def QdPost (l:List UInt8) (w:World) (r:Ending) (w':World):Prop :=
 Below w.heap.size w w'∧StdAll l∧((∃ (a1 a2:Option Addr) (c1 c2:Nat),(Qr.parse l).1.err=0∧r=.returned (.tuple #[.agg #[.slice a1 (Qr.parse l).2.1.length c1,.slice a2 (Qr.parse l).2.2.length c2],.int .i64 0,.int .i64 0]) ∧
   Reads w' (fun x=>w.heap.size≤x) (.seq 6 ((Qr.parse l).2.1.map Qr.Op.d)) [.slice a1 (Qr.parse l).2.1.length c1]∧Reads w' (fun x=>w.heap.size≤x) (.seq 5 ((Qr.parse l).2.2.map Qr.Fr.d)) [.slice a2 (Qr.parse l).2.2.length c2]) ∨
  ((Qr.parse l).1.err≠0∧r=.returned (.tuple #[.agg #[.slice none 0 0,.slice none 0 0],.int .i64 (Qr.parse l).1.at_,.int .i64 (Qr.parse l).1.err])))
abbrev DQ (w0:World) (b g t6:Nat) (s:Rd.St) (v1 v2:Value) (d:List Qr.Op×List Qr.Fr) (w:World):Prop :=
 DI w0 b g t6 (t6+1) 43 mkDoc 96 102 6 5 s v1 v2 (d.1.map Qr.Op.d) (d.2.map Qr.Fr.d) w
theorem Op_cells {w:World} {P:Nat→Prop} {x:Qr.Op} {cs:List Value} (h:Reads w P x.d cs):∃ (kd:Int) (nm:ByteArray) (a3:Option Addr) (n3 c3:Nat) (a4:Option Addr) (n4 c4:Nat) (a5:Option Addr) (n5 c5:Nat) (a6:Int),cs=[.int .i64 kd,.string nm,.slice a3 n3 c3,.slice a4 n4 c4,.slice a5 n5 c5,.int .i64 a6]:=by
 obtain ⟨o,A,a3,c1,c2,c3,rfl,_⟩:=Op_open h
 exact ⟨_,_,_,_,_,_,_,_,_,_,_,_,rfl⟩
theorem Fr_cells {w:World} {P:Nat→Prop} {x:Qr.Fr} {cs:List Value} (h:Reads w P x.d cs):∃ (nm on:ByteArray) (a3:Option Addr) (n3 c3:Nat) (a4:Option Addr) (n4 c4:Nat) (a5:Int),cs=[.string nm,.string on,.slice a3 n3 c3,.slice a4 n4 c4,.int .i64 a5]:=by
 obtain ⟨o,A,c1,c2,rfl,_⟩:=Fr_open h
 exact ⟨_,_,_,_,_,_,_,_,_,rfl⟩
set_option maxHeartbeats 4000000 in
set_option maxRecDepth 100000 in
theorem qparse_any (s:ByteArray) (w:World) (hs:s.size≤9223372036854775807) (hE:Env w) (h3:3≤w.heap.size) :
  Calls Tryz.prog 47 #[.string s] w (QdPost s.data.toList w):=by
 obtain ⟨bO,bB,bl,bm,bj⟩:=info_parts infoFr
 obtain ⟨bi,bg,aV,aU,aW⟩:=info_parts infoOp
 have bf:Below w.heap.size w (w.alloc (.cells #[.slice none 0 0,.slice none 0 0] 43)):=(Below.refl _ _).alloc (QM _) _
 have bq:=QA bf
 have HE:=QA (hE.below bf)
 have bT:3≤(w.alloc (.cells #[.slice none 0 0,.slice none 0 0] 43)).heap.size:=by have:=bf.size;omega
 clear hE bf
 go_enter Tryz.func47,Tryz.ntmps47
 go_wp2_with fail
 refine (rnew_any s _ hs HE.out bT).mono ?_
 rintro r w1 ⟨hb1,hstd,g,cap,ts,a,e,rfl,hg,hrow,hok,bo,hbg⟩
 have bn:=QA hstd
 obtain ⟨w2,bb⟩:∃ z,z=w1.alloc (.cells #[.slice (some ⟨g,0,none⟩) ts.length cap,.int .i64 0,.int .i64 0,.int .i64 a,.int .i64 e] 166):=⟨_,rfl⟩
 obtain ⟨w3,a0⟩:∃ z,z=w2.alloc (.cells #[.slice none 0 0,.slice none 0 0] 43):=⟨_,rfl⟩
 obtain ⟨s0,be⟩:∃ z,z=Rd.begin_ s.data.toList:=⟨_,rfl⟩
 have a7:Below w1.heap.size w1 w2:=by rw[bb];exact (Below.refl _ _).alloc (QM _) _
 have bx:Below w2.heap.size w2 w3:=by rw[a0];exact (Below.refl _ _).alloc (QM _) _
 have ba:w2.heap.size=w1.heap.size+1:=by rw[bb];simp
 have bL:=hrow.lt
 have hR:RdAt w2 w1.heap.size g s0:=by
  rw[be]
  exact NewPost.rdAt (T:=166) (by rw[bb];exact heap_at_new _ _) (hrow.heap a7.size (a7.block g bL)) (by omega) hok bo hbg
 have bs:Hid (w1.heap[w.heap.size]?=some (.cells #[.slice none 0 0,.slice none 0 0] 43 (0,0))):=QA (by rw[hb1.block w.heap.size (by simp)];exact heap_at_new _ _)
 have bh:Hid (w2.heap[w.heap.size]?=some (.cells #[.slice none 0 0,.slice none 0 0] 43 (0,0))):=QA (by rw[a7.block w.heap.size (block_lt bs.out)];exact bs.out)
 have aZ:w.heap.size<w1.heap.size:=block_lt bs.out
 have bN:=QA ((bq.out.trans (hb1.mono bq.out.size)).trans (a7.mono (QR bq.out.size hb1.size)))
 have bz:Hid (DQ w2 w1.heap.size g (w1.heap.size+1) s0 (.slice none 0 0) (.slice none 0 0) ([],[]) w3):=by
  refine QA ⟨hR.below bx,But.of_below bx,by omega,by omega,⟨by omega,by omega⟩,by rw[a0];simp;omega,?_,Grows.nil _ _ _ _ _,Grows.nil _ _ _ _ _,fun x G=>by simp[Value.ownBlock] at G⟩
  rw[← ba,a0]
  exact heap_at_new _ _
 have hm:=hR.rest_len
 obtain ⟨n,hn⟩:∃ z,z=s0.rest.length:=⟨_,rfl⟩
 have bY:Hid (Qr.parse s.data.toList=Qr.go (n+1) true (n+2) s0 ([],[])):=by unfold Qr.parse;dsimp only;rw[hn,be];exact QA rfl
 have b0:Hid (s0.deep=0):=by rw[be,hbg];exact QA rfl
 have HN:=QA hn
 have cj:n≤1501:=by omega
 have bP:=QA a0
 have bE:=QA bb
 have cm:=QA ba
 clear hbg be hn a7 hR hrow hok hb1 hm hg bb a0 bL bx ba hstd
 go_wp2_with fail
 rw[← bE.out,← bP.out]
 obtain ⟨b,hb⟩:∃ z,z=w1.heap.size:=⟨_,rfl⟩
 rw[← hb] at bz aZ ⊢
 clear hb bE bP
 have bD:w.heap.size<b:=aZ
 clear aZ
 go_loopg [7] (n+2) (fun k s7 wr=>∃ (ff:Bool) (o:Rd.St) (d:List Qr.Op×List Qr.Fr) (v1 v2:Value),s7=.bool ff∧(o.err≠0∨o.rest.length+1≤k)∧d.1.length+k≤n+2∧d.2.length+k≤n+2∧o.deep=0∧o.rest.length≤n∧DQ w2 b g (b+1) o v1 v2 d wr∧Qr.go (n+1) ff k o d=Qr.parse s.data.toList)
 case atStart=>exact ⟨true,s0,([],[]),_,_,rfl,.inr (by have:=HN.out;omega),by simp,by simp,b0.out,by rw[HN.out];exact QM _,bz.out,bY.out.symm⟩
 case round =>
  obtain ⟨ff,o,d,v1,v2,rfl,hm,ch,ce,bF,ap,hD,bK⟩:=hrel
  obtain ⟨a1,c1,bJ⟩:=hD.g1.form
  obtain ⟨a2,c2,bG⟩:=hD.g2.form
  rw[QX] at bJ bG
  subst bJ bG
  have HD:=QA hD
  have bd:=QA bK
  have HM:=QA hm
  have aq:=QA bF
  have aX:=hD.rd.c4
  clear hD bK bz hm bF HN
  by_cases he:o.err=0
  ·have e4:=eqT (n:=o.err) (k:=0) (by omega)
   have e5:=neF (n:=o.err) (k:=0) (by omega)
   have aA:=QA he
   clear he
   have ck:o.rest.length+1≤gk:=by rcases HM.out with h|h;exact absurd aA.out h;exact h
   have bo:=HD.out.rd.rest_len
   obtain ⟨k',bV⟩:∃ k',gk=k'+1:=⟨gk-1,by omega⟩
   subst bV
   cases ff
   ·go_wp2_with fail
    refine (rpeek_any b g o wr HD.out.rd).mono ?_
    rintro r w7 ⟨rfl,hb7⟩
    have aJ:=QA (HD.out.below hb7)
    obtain ⟨tk,bt⟩:∃ z,z=Rd.peek o:=⟨_,rfl⟩
    have bA:=QA bt
    rw[← bt]
    clear hb7 bt aX
    have aX:=aJ.out.rd.c4
    by_cases hk:tk.kind=0
    ·have e6:=neF (n:=tk.kind) (k:=0) (by omega)
     have bw:Hid (Qr.parse s.data.toList=(o,d)):=by
      rw[← bd.out]
      refine QA ?_
      unfold Qr.go
      rw[if_neg (by rw[← bA.out];simp[hk])]
     clear hk
     have aK:Hid (w7.heap[w.heap.size]?=some (.cells #[.slice none 0 0,.slice none 0 0] 43 (0,0))):=QA (by rw[aJ.out.fr.block w.heap.size (block_lt bh.out) (by omega)];exact bh.out)
     have z0:=blk_cell aK.out 0 (.slice none 0 0) rfl
     have bW:=blk_free aK.out 0
     have z1:=blk_cell aK.out 1 (.slice none 0 0) rfl
     have b1:=blk_free aK.out 1
     have y0:=blk_cell aJ.out.b6 0 (.slice a1 d.1.length c1) rfl
     have y1:=blk_cell aJ.out.b6 1 (.slice a2 d.2.length c2) rfl
     have n1:¬ w.heap.size=b+1:=by omega
     have n2:¬ b+1=w.heap.size:=by omega
     go_wp2_with fail
     refine bodyPost_ret (v:=.tuple #[.agg #[.slice a1 d.1.length c1,.slice a2 d.2.length c2],.int .i64 0,.int .i64 0]) (by simp[results,Tryz.results47,go_sem,z0,z1,y0,y1,n1,n2]) rfl ?_
     refine ⟨((below_fr bN.out (QM _) aJ.out.fr (Nat.le_of_lt bD)).setCell (QM _) _).setCell (QM _) _,bn.out,.inl ⟨a1,a2,c1,c2,?_⟩⟩
     rw[bw.out]
     have bH:Stands w7 (fun x=>b+1+1≤x) ((w7.setCell ⟨w.heap.size,0,none⟩ (.slice a1 d.1.length c1)).setCell ⟨w.heap.size,1,none⟩ (.slice a2 d.2.length c2)) (fun x=>w.heap.size≤x) :=
      ⟨by rw[size_set,size_set];exact QM _,fun x G hp=>⟨by have h9:b+1+1≤x:=hp;show w.heap.size≤x;omega,by have h9:b+1+1≤x:=hp;rw[heap_set_ne (by omega),heap_set_ne (by omega)]⟩⟩
     exact ⟨aA.out,rfl,aJ.out.reads.1.to bH,aJ.out.reads.2.to bH⟩
    ·skip
     have aT:Hid (o.err=0∧(false=true∨(Rd.peek o).kind≠0)):=QA ⟨aA.out,.inr (by rw[← bA.out];exact hk)⟩
     have e6:=neT (n:=tk.kind) (k:=0) (by omega)
     clear hk
     have aM:Hid (Qr.go (n+1) false k' (Qr.step (n+1) o d).1 (Qr.step (n+1) o d).2=Qr.parse s.data.toList):=by rw[← bd.out,Qr.go,if_pos aT.out];exact QA rfl
     have bc:Hid (Below w7.heap.size w7 ((w7).alloc (.cells #[.string ⟨#[102,114,97,103,109,101,110,116]⟩] 9))):=QA ((Below.refl _ _).alloc (QM _) _)
     go_wp2_with fail
     refine (rword_any b g o _ [Qr.sFrag] _ ((aJ.out.below bc.out).rd) (txts_one w7 Qr.sFrag _ _ rfl) (by simp)).mono ?_
     rintro r w9 ⟨rfl,hb9⟩
     have aR:=QA ((aJ.out.below bc.out).below hb9)
     obtain ⟨F,hF⟩:∃ B,B=Rd.isW o [Qr.sFrag]:=⟨_,rfl⟩
     have aN:=QA hF
     rw[← hF]
     clear hF hb9 aX
     cases F
     ·go_wp2_with fail
      refine wp_region_phase (fun _=>True) 13 (by kernel_rfl) ?_
      refine wpAnyB_take (i:=0) (v:=(.pointer (some ⟨b,0,none⟩))) (by kernel_rfl) (by decide) rfl (by kernel_rfl) (by kernel_rfl) (by kernel_rfl) (fun _ _ _ h=>h) (Or.inl ⟨by rfl,fun w hSw=>by go_simp⟩) trivial ?_;simp only[Act.put,QD,QK,QI,QJ,QC,QH,QG]
      refine wpAnyB_take (i:=1) (v:=(.pointer (some ⟨b,0,none⟩))) (by kernel_rfl) (by decide) rfl (by kernel_rfl) (by kernel_rfl) (by kernel_rfl) (fun _ _ _ h=>h) (Or.inl ⟨by rfl,fun w hSw=>by go_simp⟩) trivial ?_;simp only[Act.put,QD,QK,QI,QJ,QC,QH,QG]
      refine wpAnyB_take (i:=2) (v:=(.pointer (some ⟨b,0,none⟩))) (by kernel_rfl) (by decide) rfl (by kernel_rfl) (by kernel_rfl) (by kernel_rfl) (fun _ _ _ h=>h) (Or.inl ⟨by rfl,fun w hSw=>by go_simp⟩) trivial ?_;simp only[Act.put,QD,QK,QI,QJ,QC,QH,QG]
      refine wpAnyB_one (i:=3) (by kernel_rfl) ?_
      refine wpOp_intro (by decide) (fun K3 HK3=>?_);simp only[QE,QL,QF,QN]
      have aP:Hid (Below w9.heap.size w9 ((w9.drew).alloc (.cells #[.string ⟨#[123]⟩] 9))):=QA (((Below.refl _ _).drew).alloc (QM _) _)
      have a9:Hid (Txts ((w9.drew).alloc (.cells #[.string ⟨#[123]⟩] 9)) (.slice (some ⟨w9.heap.size,0,none⟩) 1 1) [Rd.lbrc]):=QA (txts_one w9.drew Rd.lbrc ⟨#[123]⟩ 9 rfl)
      have aQ:=QA (aR.out.below aP.out)
      go_wp2_with fail
      refine HK3.out _ _ ⟨fun _=>trivial,?_⟩
      clear HK3
      refine wpAnyB_one (i:=4) (by kernel_rfl) ?_
      refine wpOp_intro (by decide) (fun K4 HK4=>?_);simp only[QE,QL,QF,QN]
      go_wp2_with fail
      refine (ris_any b g o _ [Rd.lbrc] _ aQ.out.rd a9.out (by simp)).mono ?_
      rintro r w10 ⟨rfl,hb10⟩
      rw[show ([Rd.lbrc].any (Rd.isS o))=Rd.isS o Rd.lbrc by simp]
      have aB:=QA (aQ.out.below hb10)
      obtain ⟨B,hB⟩:∃ B,B=Rd.isS o Rd.lbrc:=⟨_,rfl⟩
      have HB:=QA hB
      rw[← hB]
      clear hB hb10 aP a9 aQ
      go_wp2_with fail
      refine HK4.out _ _ ⟨fun _=>trivial,?_⟩
      clear HK4
      cases B
      ·refine wpAnyB_take (i:=5) (v:=(.bool false)) (by kernel_rfl) (by decide) rfl (by kernel_rfl) (by kernel_rfl) (by kernel_rfl) (fun _ _ _ h=>h) (Or.inl ⟨by rfl,fun w hSw=>by go_simp⟩) trivial ?_;simp only[Act.put,QD,QK,QI,QJ,QC,QH,QG]
       refine wpAnyB_take (i:=6) (v:=(.pointer (some ⟨b,0,none⟩))) (by kernel_rfl) (by decide) rfl (by kernel_rfl) (by kernel_rfl) (by kernel_rfl) (fun _ _ _ h=>h) (Or.inl ⟨by rfl,fun w hSw=>by go_simp⟩) trivial ?_;simp only[Act.put,QD,QK,QI,QJ,QC,QH,QG]
       refine wpAnyB_take (i:=7) (v:=(.pointer (some ⟨b,0,none⟩))) (by kernel_rfl) (by decide) rfl (by kernel_rfl) (by kernel_rfl) (by kernel_rfl) (fun _ _ _ h=>h) (Or.inl ⟨by rfl,fun w hSw=>by go_simp⟩) trivial ?_;simp only[Act.put,QD,QK,QI,QJ,QC,QH,QG]
       refine wpAnyB_take (i:=8) (v:=(.pointer (some ⟨b,0,none⟩))) (by kernel_rfl) (by decide) rfl (by kernel_rfl) (by kernel_rfl) (by kernel_rfl) (fun _ _ _ h=>h) (Or.inl ⟨by rfl,fun w hSw=>by go_simp⟩) trivial ?_;simp only[Act.put,QD,QK,QI,QJ,QC,QH,QG]
       refine wpAnyB_one (i:=9) (by kernel_rfl) ?_
       refine wpOp_intro (by decide) (fun K9 HK9=>?_);simp only[QE,QL,QF,QN]
       go_wp2_with fail
       refine (kinds_any _).mono ?_
       rintro r w12 ⟨rfl,hb12,G⟩
       have aO:=QA G
       have ay:=QA (aB.out.below hb12)
       clear hb12 G
       go_wp2_with fail
       refine HK9.out _ _ ⟨fun _=>trivial,?_⟩
       clear HK9
       refine wpAnyB_one (i:=10) (by kernel_rfl) ?_
       refine wpOp_intro (by decide) (fun K10 HK10=>?_);simp only[QE,QL,QF,QN]
       go_wp2_with fail
       refine (rword_any b g o _ Qr.kinds _ ay.out.rd aO.out (by decide)).mono ?_
       rintro r w13 ⟨rfl,hb13⟩
       have an:=QA (ay.out.below hb13)
       obtain ⟨C,hC⟩:∃ B,B=Rd.isW o Qr.kinds:=⟨_,rfl⟩
       have HC:=QA hC
       rw[← hC]
       clear hC hb13 aO ay
       go_wp2_with fail
       refine HK10.out _ _ ⟨fun _=>trivial,?_⟩
       clear HK10
       refine wpAnyB_take (i:=11) (v:=(.bool C)) (by kernel_rfl) (by decide) rfl (by kernel_rfl) (by kernel_rfl) (by kernel_rfl) (fun _ _ _ h=>h) (Or.inl ⟨by rfl,fun w hSw=>by go_simp⟩) trivial ?_;simp only[Act.put,QD,QK,QI,QJ,QC,QH,QG]
       refine wpAnyB_take (i:=12) (v:=(.bool C)) (by kernel_rfl) (by decide) rfl (by kernel_rfl) (by kernel_rfl) (by kernel_rfl) (fun _ _ _ h=>h) (Or.inl ⟨by rfl,fun w hSw=>by go_simp⟩) trivial ?_;simp only[Act.put,QD,QK,QI,QJ,QC,QH,QG]
       refine wpAnyB_done (by kernel_rfl) ?_ _
       cases C
       ·have H:Hid (Qr.step (n+1) o d=(Rd.wrong o,d)):=by unfold Qr.step;rw[if_neg (by rw[← aN.out];simp),if_neg (by rw[← HB.out,← HC.out];simp)];exact QA rfl
        go_wp2_with fail
        refine (rwrong_any b g o _ an.out.rd).mono ?_
        rintro r w14 ⟨rfl,hr14,hf14⟩
        have am:=QA (an.out.step hr14 hf14)
        clear hr14 hf14
        go_wp2_with fail
        go_roundg k'
        case measure=>omega
        case rel =>
         have S:=Qr.step_deep (n+1) o d
         have P:=Qr.step_goes (n+1) o d
         have N:=(Qr.ok_step (n+1) o d).len
         have E:Qr.go (n+1) false k' (Qr.step (n+1) o d).1 (Qr.step (n+1) o d).2=Qr.parse s.data.toList:=aM.out
         rw[H.out] at S P N E
         exact ⟨false,_,_,_,_,rfl,by rcases P with G|G;exact .inl G;right;simp only at G ⊢;omega,by omega,by omega,by rw[← aq.out];exact S,QR N ap,am.out,E⟩
       ·have H:Hid (Qr.step (n+1) o d=((Qr.op (n+1) o).1,(d.1++[(Qr.op (n+1) o).2],d.2))):=by unfold Qr.step;rw[if_neg (by rw[← aN.out];simp),if_pos (by rw[← HB.out,← HC.out];simp[])];exact QA rfl
        go_wp2_with fail
        have U:=QA (an.out.below ((Below.refl _ _).drew))
        have I:w13.cell? ⟨b+1,0,none⟩=some (.slice a1 d.1.length c1):=blk_cell an.out.b6 0 _ rfl
        refine wp_region_phase (fun w'=>w'.cell? ⟨b+1,0,none⟩=some (.slice a1 d.1.length c1)) 6 (by kernel_rfl) ?_
        refine wpAnyB_take (i:=0) (v:=(.pointer (some ⟨b+1,0,none⟩))) (by kernel_rfl) (by decide) rfl (by kernel_rfl) (by kernel_rfl) (by kernel_rfl) (fun _ _ _ h=>h) (Or.inl ⟨by rfl,fun w hSw=>by have s0:=hSw;go_simp⟩) I ?_;simp only[Act.put,QD,QK,QI,QJ,QC,QH,QG]
        refine wpAnyB_take (i:=1) (v:=(.slice a1 d.1.length c1)) (by kernel_rfl) (by decide) rfl (by kernel_rfl) (by kernel_rfl) (by kernel_rfl) (fun _ _ _ h=>h) (Or.inl ⟨by rfl,fun w hSw=>by have s0:=hSw;go_simp⟩) I ?_;simp only[Act.put,QD,QK,QI,QJ,QC,QH,QG]
        refine wpAnyB_take (i:=2) (v:=(.pointer (some ⟨b,0,none⟩))) (by kernel_rfl) (by decide) rfl (by kernel_rfl) (by kernel_rfl) (by kernel_rfl) (fun _ _ _ h=>h) (Or.inl ⟨by rfl,fun w hSw=>by have s0:=hSw;go_simp⟩) I ?_;simp only[Act.put,QD,QK,QI,QJ,QC,QH,QG]
        clear I
        refine wpAnyB_one (i:=3) (by kernel_rfl) ?_
        refine wpOp_intro (by decide) (fun K3 HK3=>?_);simp only[QE,QL,QF,QN]
        go_wp2_with fail
        refine (op_any b g n (by omega) o _ U.out.rd ap (by rw[aq.out];omega)).mono ?_
        rintro r w11 ⟨cs,rfl,hrd,hr3,hf3⟩
        obtain ⟨kd,Z,Y,n3,c3,W,n4,X,V,n5,c5,a6,rfl⟩:=Op_cells hrd
        have A:=QA (U.out.step hr3 hf3)
        have M:=QA (U.out.data hrd)
        have K:=QA (Reads.one hrd)
        clear hrd hr3 hf3
        go_wp2_with fail
        refine HK3.out _ _ ⟨fun _=>blk_cell A.out.b6 0 _ rfl,?_⟩
        clear HK3
        refine wpAnyB_one (i:=4) (by kernel_rfl) ?_
        refine wpOp_intro (by decide) (fun K4 HK4=>?_);simp only[QE,QL,QF,QN]
        go_wp2_with fail
        have hA:Below w11.heap.size w11 (w11.alloc (.cells #[.int .i64 kd,.string Z,.slice Y n3 c3,.slice W n4 X,.slice V n5 c5,.int .i64 a6] 96)):=(Below.refl _ _).alloc (QM _) _
        have hE:=(A.out.below hA)
        have HE:=QA hE
        obtain ⟨⟨xs,G,af⟩,aH⟩:=hE.g1
        rw[QX] at G
        have Q:=QA G
        have ah:=QA af
        have ai:=QA (M.out.to (Stands.below hA))
        have L:Hid (∀ j u,([Value.int .i64 kd,.string Z,.slice Y n3 c3,.slice W n4 X,.slice V n5 c5,.int .i64 a6]:List Value)[j]?=some u→(w11.alloc (.cells #[.int .i64 kd,.string Z,.slice Y n3 c3,.slice W n4 X,.slice V n5 c5,.int .i64 a6] 96)).cell? ((⟨w11.heap.size,0,none⟩:Addr).add j)=some u):=QA (lit_cells (fz:=(0,0)) (heap_at_new _ _))
        have D:b+1+1≤(w11.alloc (.cells #[.int .i64 kd,.string Z,.slice Y n3 c3,.slice W n4 X,.slice V n5 c5,.int .i64 a6] 96)).heap.size:=hE.hi
        have ag:Hid (∀ w8:World,(w11.alloc (.cells #[.int .i64 kd,.string Z,.slice Y n3 c3,.slice W n4 X,.slice V n5 c5,.int .i64 a6] 96)).grownBy w8 (Value.ownBlock (.slice a1 d.1.length c1))→w8.heap[b+1]?=some (.cells (mkDoc (.slice a1 d.1.length c1) (.slice a2 d.2.length c2)) 43 (0,0))):=by
         refine QA fun w8 hg=>?_
         rw[hg.block (b+1) (block_lt hE.b6) (fun e=>by have:=(G.lt _ e.symm).1;omega)]
         exact hE.b6
        refine HK4.out _ _ ⟨fun _=>blk_cell (A.out.below hA).b6 0 _ rfl,?_⟩
        clear HK4 hA hE G af aH
        refine wpAnyB_one (i:=5) (by kernel_rfl) ?_
        refine wpOp_intro (by decide) (fun K5 HK5=>?_);simp only[QE,QL,QF,QN]
        go_wp2_with (first|(at_builtin;refine wpList_append_own_at _ rfl _ _ 40 rfl (b+1+1) 96 bi _ 6 104 Tryz.underlying40 bg aV aU aW rfl (by decide) (.slice a1 d.1.length c1) d.1.length xs rfl Q.out ⟨w11.heap.size,0,none⟩ 1 1 [.int .i64 kd,.string Z,.slice Y n3 c3,.slice W n4 X,.slice V n5 c5,.int .i64 a6] rfl rfl L.out K.out (by unfold maxLen;omega) (by omega) D ?_;intro v' w8 hrow8 hg8 hnil8 hloc8;clear hnil8;obtain ⟨g',c',rfl,aE,az⟩:=rowForm hrow8 (by omega);have J:=QA hrow8;have O:=QA hg8;have aj:=QA hloc8;clear hrow8 hg8 hloc8)|fail)
        have hy:=ag.out _ O.out
        have y0:=blk_cell hy 0 (.slice a1 d.1.length c1) rfl
        have aF:=blk_free hy 0
        clear hy
        refine HK5.out _ _ ⟨fun _=>y0,?_⟩
        clear HK5
        refine wpAnyB_takeAny (i:=6) (v:=(.pointer (some ⟨b+1,0,none⟩))) (by decide) rfl (by kernel_rfl) (by kernel_rfl) (by kernel_rfl) (fun _ _ _ h=>h) (Or.inl ⟨by rfl,fun w _=>by go_simp⟩) ?_;simp only[Act.put,QD,QK,QI,QJ,QC,QH,QG]
        refine wpAnyB_one (i:=7) (by kernel_rfl) ?_
        refine wpOp_intro (by decide) (fun K7 HK7=>?_);simp only[QE,QL,QF,QN]
        go_wp2_with fail
        refine HK7.out _ _ ⟨fun h=>absurd h (by decide),?_⟩
        clear HK7 y0 aF
        refine wpAnyB_done (by kernel_rfl) ?_ _
        obtain ⟨v',R⟩:∃ z,z=Value.slice (some ⟨g',0,none⟩) (d.1.length+1) c':=⟨_,rfl⟩
        have am:Hid (DQ w2 b g (b+1) (Qr.op (n+1) o).1 v' (.slice a2 d.2.length c2) (d.1++[(Qr.op (n+1) o).2],d.2) (w8.setCell ⟨b+1,0,none⟩ (.slice (some ⟨g',0,none⟩) (d.1.length+1) c'))):=by
         have:=(HE.out.more (j:=0) (v':=.slice (some ⟨g',0,none⟩) (d.1.length+1) c') (by rw[QX];exact Q.out) ah.out ai.out rfl O.out aj.out (by rw[QX];exact J.out) rfl)
         rw[show d.1.map Qr.Op.d++[(Qr.op (n+1) o).2.d]=(d.1++[(Qr.op (n+1) o).2],d.2).1.map Qr.Op.d by simp,← R] at this
         rw[← R]
         exact QA this
        clear R Q ah ai O aj J ag HE L K M A aE az D
        go_wp2_with fail
        go_roundg k'
        case measure=>omega
        case rel =>
         have S:=Qr.step_deep (n+1) o d
         have P:=Qr.step_goes (n+1) o d
         have N:=(Qr.ok_step (n+1) o d).len
         have E:Qr.go (n+1) false k' (Qr.step (n+1) o d).1 (Qr.step (n+1) o d).2=Qr.parse s.data.toList:=aM.out
         rw[H.out] at S P N E
         exact ⟨false,_,_,_,_,rfl,by rcases P with G|G;exact .inl G;right;simp only at G ⊢;omega,by show (d.1++[_]).length+k'≤n+2;rw[QT,List.length_singleton];omega,by show d.2.length+k'≤n+2;omega,by rw[← aq.out];exact S,QR N ap,am.out,E⟩
      ·refine wpAnyB_take (i:=5) (v:=(.bool true)) (by kernel_rfl) (by decide) rfl (by kernel_rfl) (by kernel_rfl) (by kernel_rfl) (fun _ _ _ h=>h) (Or.inl ⟨by rfl,fun w hSw=>by go_simp⟩) trivial ?_;simp only[Act.put,QD,QK,QI,QJ,QC,QH,QG]
       refine wpAnyB_take (i:=6) (v:=undef) (by kernel_rfl) (by decide) rfl (by kernel_rfl) (by kernel_rfl) (by kernel_rfl) (fun _ _ _ h=>h) (Or.inr ⟨by rfl,rfl⟩) trivial ?_;simp only[Act.put,QD,QK,QI,QJ,QC,QH,QG]
       refine wpAnyB_take (i:=7) (v:=undef) (by kernel_rfl) (by decide) rfl (by kernel_rfl) (by kernel_rfl) (by kernel_rfl) (fun _ _ _ h=>h) (Or.inr ⟨by rfl,rfl⟩) trivial ?_;simp only[Act.put,QD,QK,QI,QJ,QC,QH,QG]
       refine wpAnyB_take (i:=8) (v:=undef) (by kernel_rfl) (by decide) rfl (by kernel_rfl) (by kernel_rfl) (by kernel_rfl) (fun _ _ _ h=>h) (Or.inr ⟨by rfl,rfl⟩) trivial ?_;simp only[Act.put,QD,QK,QI,QJ,QC,QH,QG]
       refine wpAnyB_take (i:=9) (v:=undef) (by kernel_rfl) (by decide) rfl (by kernel_rfl) (by kernel_rfl) (by kernel_rfl) (fun _ _ _ h=>h) (Or.inr ⟨by rfl,rfl⟩) trivial ?_;simp only[Act.put,QD,QK,QI,QJ,QC,QH,QG]
       refine wpAnyB_take (i:=10) (v:=undef) (by kernel_rfl) (by decide) rfl (by kernel_rfl) (by kernel_rfl) (by kernel_rfl) (fun _ _ _ h=>h) (Or.inr ⟨by rfl,rfl⟩) trivial ?_;simp only[Act.put,QD,QK,QI,QJ,QC,QH,QG]
       refine wpAnyB_take (i:=11) (v:=(.bool true)) (by kernel_rfl) (by decide) rfl (by kernel_rfl) (by kernel_rfl) (by kernel_rfl) (fun _ _ _ h=>h) (Or.inl ⟨by rfl,fun w hSw=>by go_simp⟩) trivial ?_;simp only[Act.put,QD,QK,QI,QJ,QC,QH,QG]
       refine wpAnyB_take (i:=12) (v:=(.bool true)) (by kernel_rfl) (by decide) rfl (by kernel_rfl) (by kernel_rfl) (by kernel_rfl) (fun _ _ _ h=>h) (Or.inl ⟨by rfl,fun w hSw=>by go_simp⟩) trivial ?_;simp only[Act.put,QD,QK,QI,QJ,QC,QH,QG]
       refine wpAnyB_done (by kernel_rfl) ?_ _
       have H:Hid (Qr.step (n+1) o d=((Qr.op (n+1) o).1,(d.1++[(Qr.op (n+1) o).2],d.2))):=by unfold Qr.step;rw[if_neg (by rw[← aN.out];simp),if_pos (by rw[← HB.out];simp[])];exact QA rfl
       go_wp2_with fail
       have U:=QA (aB.out.below ((Below.refl _ _).drew))
       have I:w10.cell? ⟨b+1,0,none⟩=some (.slice a1 d.1.length c1):=blk_cell aB.out.b6 0 _ rfl
       refine wp_region_phase (fun w'=>w'.cell? ⟨b+1,0,none⟩=some (.slice a1 d.1.length c1)) 6 (by kernel_rfl) ?_
       refine wpAnyB_take (i:=0) (v:=(.pointer (some ⟨b+1,0,none⟩))) (by kernel_rfl) (by decide) rfl (by kernel_rfl) (by kernel_rfl) (by kernel_rfl) (fun _ _ _ h=>h) (Or.inl ⟨by rfl,fun w hSw=>by have s0:=hSw;go_simp⟩) I ?_;simp only[Act.put,QD,QK,QI,QJ,QC,QH,QG]
       refine wpAnyB_take (i:=1) (v:=(.slice a1 d.1.length c1)) (by kernel_rfl) (by decide) rfl (by kernel_rfl) (by kernel_rfl) (by kernel_rfl) (fun _ _ _ h=>h) (Or.inl ⟨by rfl,fun w hSw=>by have s0:=hSw;go_simp⟩) I ?_;simp only[Act.put,QD,QK,QI,QJ,QC,QH,QG]
       refine wpAnyB_take (i:=2) (v:=(.pointer (some ⟨b,0,none⟩))) (by kernel_rfl) (by decide) rfl (by kernel_rfl) (by kernel_rfl) (by kernel_rfl) (fun _ _ _ h=>h) (Or.inl ⟨by rfl,fun w hSw=>by have s0:=hSw;go_simp⟩) I ?_;simp only[Act.put,QD,QK,QI,QJ,QC,QH,QG]
       clear I
       refine wpAnyB_one (i:=3) (by kernel_rfl) ?_
       refine wpOp_intro (by decide) (fun K3 HK3=>?_);simp only[QE,QL,QF,QN]
       go_wp2_with fail
       refine (op_any b g n (by omega) o _ U.out.rd ap (by rw[aq.out];omega)).mono ?_
       rintro r w11 ⟨cs,rfl,hrd,hr3,hf3⟩
       obtain ⟨kd,Z,Y,n3,c3,W,n4,X,V,n5,c5,a6,rfl⟩:=Op_cells hrd
       have A:=QA (U.out.step hr3 hf3)
       have M:=QA (U.out.data hrd)
       have K:=QA (Reads.one hrd)
       clear hrd hr3 hf3
       go_wp2_with fail
       refine HK3.out _ _ ⟨fun _=>blk_cell A.out.b6 0 _ rfl,?_⟩
       clear HK3
       refine wpAnyB_one (i:=4) (by kernel_rfl) ?_
       refine wpOp_intro (by decide) (fun K4 HK4=>?_);simp only[QE,QL,QF,QN]
       go_wp2_with fail
       have hA:Below w11.heap.size w11 (w11.alloc (.cells #[.int .i64 kd,.string Z,.slice Y n3 c3,.slice W n4 X,.slice V n5 c5,.int .i64 a6] 96)):=(Below.refl _ _).alloc (QM _) _
       have hE:=(A.out.below hA)
       have HE:=QA hE
       obtain ⟨⟨xs,G,af⟩,aH⟩:=hE.g1
       rw[QX] at G
       have Q:=QA G
       have ah:=QA af
       have ai:=QA (M.out.to (Stands.below hA))
       have L:Hid (∀ j u,([Value.int .i64 kd,.string Z,.slice Y n3 c3,.slice W n4 X,.slice V n5 c5,.int .i64 a6]:List Value)[j]?=some u→(w11.alloc (.cells #[.int .i64 kd,.string Z,.slice Y n3 c3,.slice W n4 X,.slice V n5 c5,.int .i64 a6] 96)).cell? ((⟨w11.heap.size,0,none⟩:Addr).add j)=some u):=QA (lit_cells (fz:=(0,0)) (heap_at_new _ _))
       have D:b+1+1≤(w11.alloc (.cells #[.int .i64 kd,.string Z,.slice Y n3 c3,.slice W n4 X,.slice V n5 c5,.int .i64 a6] 96)).heap.size:=hE.hi
       have ag:Hid (∀ w8:World,(w11.alloc (.cells #[.int .i64 kd,.string Z,.slice Y n3 c3,.slice W n4 X,.slice V n5 c5,.int .i64 a6] 96)).grownBy w8 (Value.ownBlock (.slice a1 d.1.length c1))→w8.heap[b+1]?=some (.cells (mkDoc (.slice a1 d.1.length c1) (.slice a2 d.2.length c2)) 43 (0,0))):=by
        refine QA fun w8 hg=>?_
        rw[hg.block (b+1) (block_lt hE.b6) (fun e=>by have:=(G.lt _ e.symm).1;omega)]
        exact hE.b6
       refine HK4.out _ _ ⟨fun _=>blk_cell (A.out.below hA).b6 0 _ rfl,?_⟩
       clear HK4 hA hE G af aH
       refine wpAnyB_one (i:=5) (by kernel_rfl) ?_
       refine wpOp_intro (by decide) (fun K5 HK5=>?_);simp only[QE,QL,QF,QN]
       go_wp2_with (first|(at_builtin;refine wpList_append_own_at _ rfl _ _ 40 rfl (b+1+1) 96 bi _ 6 104 Tryz.underlying40 bg aV aU aW rfl (by decide) (.slice a1 d.1.length c1) d.1.length xs rfl Q.out ⟨w11.heap.size,0,none⟩ 1 1 [.int .i64 kd,.string Z,.slice Y n3 c3,.slice W n4 X,.slice V n5 c5,.int .i64 a6] rfl rfl L.out K.out (by unfold maxLen;omega) (by omega) D ?_;intro v' w8 hrow8 hg8 hnil8 hloc8;clear hnil8;obtain ⟨g',c',rfl,aE,az⟩:=rowForm hrow8 (by omega);have J:=QA hrow8;have O:=QA hg8;have aj:=QA hloc8;clear hrow8 hg8 hloc8)|fail)
       have hy:=ag.out _ O.out
       have y0:=blk_cell hy 0 (.slice a1 d.1.length c1) rfl
       have aF:=blk_free hy 0
       clear hy
       refine HK5.out _ _ ⟨fun _=>y0,?_⟩
       clear HK5
       refine wpAnyB_takeAny (i:=6) (v:=(.pointer (some ⟨b+1,0,none⟩))) (by decide) rfl (by kernel_rfl) (by kernel_rfl) (by kernel_rfl) (fun _ _ _ h=>h) (Or.inl ⟨by rfl,fun w _=>by go_simp⟩) ?_;simp only[Act.put,QD,QK,QI,QJ,QC,QH,QG]
       refine wpAnyB_one (i:=7) (by kernel_rfl) ?_
       refine wpOp_intro (by decide) (fun K7 HK7=>?_);simp only[QE,QL,QF,QN]
       go_wp2_with fail
       refine HK7.out _ _ ⟨fun h=>absurd h (by decide),?_⟩
       clear HK7 y0 aF
       refine wpAnyB_done (by kernel_rfl) ?_ _
       obtain ⟨v',R⟩:∃ z,z=Value.slice (some ⟨g',0,none⟩) (d.1.length+1) c':=⟨_,rfl⟩
       have am:Hid (DQ w2 b g (b+1) (Qr.op (n+1) o).1 v' (.slice a2 d.2.length c2) (d.1++[(Qr.op (n+1) o).2],d.2) (w8.setCell ⟨b+1,0,none⟩ (.slice (some ⟨g',0,none⟩) (d.1.length+1) c'))):=by
        have:=(HE.out.more (j:=0) (v':=.slice (some ⟨g',0,none⟩) (d.1.length+1) c') (by rw[QX];exact Q.out) ah.out ai.out rfl O.out aj.out (by rw[QX];exact J.out) rfl)
        rw[show d.1.map Qr.Op.d++[(Qr.op (n+1) o).2.d]=(d.1++[(Qr.op (n+1) o).2],d.2).1.map Qr.Op.d by simp,← R] at this
        rw[← R]
        exact QA this
       clear R Q ah ai O aj J ag HE L K M A aE az D
       go_wp2_with fail
       go_roundg k'
       case measure=>omega
       case rel =>
        have S:=Qr.step_deep (n+1) o d
        have P:=Qr.step_goes (n+1) o d
        have N:=(Qr.ok_step (n+1) o d).len
        have E:Qr.go (n+1) false k' (Qr.step (n+1) o d).1 (Qr.step (n+1) o d).2=Qr.parse s.data.toList:=aM.out
        rw[H.out] at S P N E
        exact ⟨false,_,_,_,_,rfl,by rcases P with G|G;exact .inl G;right;simp only at G ⊢;omega,by show (d.1++[_]).length+k'≤n+2;rw[QT,List.length_singleton];omega,by show d.2.length+k'≤n+2;omega,by rw[← aq.out];exact S,QR N ap,am.out,E⟩
     ·have H:Hid (Qr.step (n+1) o d=((Qr.frag (n+1) o).1,(d.1,d.2++[(Qr.frag (n+1) o).2]))):=by unfold Qr.step;rw[if_pos aN.out.symm];exact QA rfl
      go_wp2_with fail
      have U:=QA (aR.out.below ((Below.refl _ _).drew))
      have I:w9.cell? ⟨b+1,1,none⟩=some (.slice a2 d.2.length c2):=blk_cell aR.out.b6 1 _ rfl
      refine wp_region_phase (fun w'=>w'.cell? ⟨b+1,1,none⟩=some (.slice a2 d.2.length c2)) 6 (by kernel_rfl) ?_
      refine wpAnyB_take (i:=0) (v:=(.pointer (some ⟨b+1,1,none⟩))) (by kernel_rfl) (by decide) rfl (by kernel_rfl) (by kernel_rfl) (by kernel_rfl) (fun _ _ _ h=>h) (Or.inl ⟨by rfl,fun w hSw=>by have s0:=hSw;go_simp⟩) I ?_;simp only[Act.put,QD,QK,QI,QJ,QC,QH,QG]
      refine wpAnyB_take (i:=1) (v:=(.slice a2 d.2.length c2)) (by kernel_rfl) (by decide) rfl (by kernel_rfl) (by kernel_rfl) (by kernel_rfl) (fun _ _ _ h=>h) (Or.inl ⟨by rfl,fun w hSw=>by have s0:=hSw;go_simp⟩) I ?_;simp only[Act.put,QD,QK,QI,QJ,QC,QH,QG]
      refine wpAnyB_take (i:=2) (v:=(.pointer (some ⟨b,0,none⟩))) (by kernel_rfl) (by decide) rfl (by kernel_rfl) (by kernel_rfl) (by kernel_rfl) (fun _ _ _ h=>h) (Or.inl ⟨by rfl,fun w hSw=>by have s0:=hSw;go_simp⟩) I ?_;simp only[Act.put,QD,QK,QI,QJ,QC,QH,QG]
      clear I
      refine wpAnyB_one (i:=3) (by kernel_rfl) ?_
      refine wpOp_intro (by decide) (fun K3 HK3=>?_);simp only[QE,QL,QF,QN]
      go_wp2_with fail
      refine (frag_any b g n (by omega) o _ U.out.rd ap (by rw[aq.out];omega)).mono ?_
      rintro r w11 ⟨cs,rfl,hrd,hr3,hf3⟩
      obtain ⟨Z,on,Y,n3,c3,W,n4,X,V,rfl⟩:=Fr_cells hrd
      have A:=QA (U.out.step hr3 hf3)
      have M:=QA (U.out.swap.data hrd)
      have K:=QA (Reads.one hrd)
      clear hrd hr3 hf3
      go_wp2_with fail
      refine HK3.out _ _ ⟨fun _=>blk_cell A.out.b6 1 _ rfl,?_⟩
      clear HK3
      refine wpAnyB_one (i:=4) (by kernel_rfl) ?_
      refine wpOp_intro (by decide) (fun K4 HK4=>?_);simp only[QE,QL,QF,QN]
      go_wp2_with fail
      have hA:Below w11.heap.size w11 (w11.alloc (.cells #[.string Z,.string on,.slice Y n3 c3,.slice W n4 X,.int .i64 V] 102)):=(Below.refl _ _).alloc (QM _) _
      have hE:=(A.out.below hA).swap
      have HE:=QA hE
      obtain ⟨⟨xs,G,af⟩,aH⟩:=hE.g1
      rw[QX] at G
      have Q:=QA G
      have ah:=QA af
      have ai:=QA (M.out.to (Stands.below hA))
      have L:Hid (∀ j u,([Value.string Z,.string on,.slice Y n3 c3,.slice W n4 X,.int .i64 V]:List Value)[j]?=some u→(w11.alloc (.cells #[.string Z,.string on,.slice Y n3 c3,.slice W n4 X,.int .i64 V] 102)).cell? ((⟨w11.heap.size,0,none⟩:Addr).add j)=some u):=QA (lit_cells (fz:=(0,0)) (heap_at_new _ _))
      have D:b+1+1≤(w11.alloc (.cells #[.string Z,.string on,.slice Y n3 c3,.slice W n4 X,.int .i64 V] 102)).heap.size:=hE.hi
      have ag:Hid (∀ w8:World,(w11.alloc (.cells #[.string Z,.string on,.slice Y n3 c3,.slice W n4 X,.int .i64 V] 102)).grownBy w8 (Value.ownBlock (.slice a2 d.2.length c2))→w8.heap[b+1]?=some (.cells (mkDoc (.slice a1 d.1.length c1) (.slice a2 d.2.length c2)) 43 (0,0))):=by
       refine QA fun w8 hg=>?_
       rw[hg.block (b+1) (block_lt hE.b6) (fun e=>by have:=(G.lt _ e.symm).1;omega)]
       exact hE.b6
      refine HK4.out _ _ ⟨fun _=>blk_cell (A.out.below hA).b6 1 _ rfl,?_⟩
      clear HK4 hA hE G af aH
      refine wpAnyB_one (i:=5) (by kernel_rfl) ?_
      refine wpOp_intro (by decide) (fun K5 HK5=>?_);simp only[QE,QL,QF,QN]
      go_wp2_with (first|(at_builtin;refine wpList_append_own_at _ rfl _ _ 41 rfl (b+1+1) 102 bO _ 5 88 Tryz.underlying41 bB bl bm bj rfl (by decide) (.slice a2 d.2.length c2) d.2.length xs rfl Q.out ⟨w11.heap.size,0,none⟩ 1 1 [.string Z,.string on,.slice Y n3 c3,.slice W n4 X,.int .i64 V] rfl rfl L.out K.out (by unfold maxLen;omega) (by omega) D ?_;intro v' w8 hrow8 hg8 hnil8 hloc8;clear hnil8;obtain ⟨g',c',rfl,aE,az⟩:=rowForm hrow8 (by omega);have J:=QA hrow8;have O:=QA hg8;have aj:=QA hloc8;clear hrow8 hg8 hloc8)|fail)
      have hy:=ag.out _ O.out
      have y0:=blk_cell hy 1 (.slice a2 d.2.length c2) rfl
      have aF:=blk_free hy 1
      clear hy
      refine HK5.out _ _ ⟨fun _=>y0,?_⟩
      clear HK5
      refine wpAnyB_takeAny (i:=6) (v:=(.pointer (some ⟨b+1,1,none⟩))) (by decide) rfl (by kernel_rfl) (by kernel_rfl) (by kernel_rfl) (fun _ _ _ h=>h) (Or.inl ⟨by rfl,fun w _=>by go_simp⟩) ?_;simp only[Act.put,QD,QK,QI,QJ,QC,QH,QG]
      refine wpAnyB_one (i:=7) (by kernel_rfl) ?_
      refine wpOp_intro (by decide) (fun K7 HK7=>?_);simp only[QE,QL,QF,QN]
      go_wp2_with fail
      refine HK7.out _ _ ⟨fun h=>absurd h (by decide),?_⟩
      clear HK7 y0 aF
      refine wpAnyB_done (by kernel_rfl) ?_ _
      obtain ⟨v',R⟩:∃ z,z=Value.slice (some ⟨g',0,none⟩) (d.2.length+1) c':=⟨_,rfl⟩
      have am:Hid (DQ w2 b g (b+1) (Qr.frag (n+1) o).1 (.slice a1 d.1.length c1) v' (d.1,d.2++[(Qr.frag (n+1) o).2]) (w8.setCell ⟨b+1,1,none⟩ (.slice (some ⟨g',0,none⟩) (d.2.length+1) c'))):=by
       have:=(HE.out.more (j:=1) (v':=.slice (some ⟨g',0,none⟩) (d.2.length+1) c') (by rw[QX];exact Q.out) ah.out ai.out rfl O.out aj.out (by rw[QX];exact J.out) rfl).swap
       rw[show d.2.map Qr.Fr.d++[(Qr.frag (n+1) o).2.d]=(d.1,d.2++[(Qr.frag (n+1) o).2]).2.map Qr.Fr.d by simp,← R] at this
       rw[← R]
       exact QA this
      clear R Q ah ai O aj J ag HE L K M A aE az D
      go_wp2_with fail
      go_roundg k'
      case measure=>omega
      case rel =>
       have S:=Qr.step_deep (n+1) o d
       have P:=Qr.step_goes (n+1) o d
       have N:=(Qr.ok_step (n+1) o d).len
       have E:Qr.go (n+1) false k' (Qr.step (n+1) o d).1 (Qr.step (n+1) o d).2=Qr.parse s.data.toList:=aM.out
       rw[H.out] at S P N E
       exact ⟨false,_,_,_,_,rfl,by rcases P with G|G;exact .inl G;right;simp only at G ⊢;omega,by show d.1.length+k'≤n+2;omega,by show (d.2++[_]).length+k'≤n+2;rw[QT,List.length_singleton];omega,by rw[← aq.out];exact S,QR N ap,am.out,E⟩
   ·skip
    have aT:Hid (o.err=0∧(true=true∨(Rd.peek o).kind≠0)):=QA ⟨aA.out,.inl rfl⟩
    have aM:Hid (Qr.go (n+1) false k' (Qr.step (n+1) o d).1 (Qr.step (n+1) o d).2=Qr.parse s.data.toList):=by rw[← bd.out,Qr.go,if_pos aT.out];exact QA rfl
    have bc:Hid (Below wr.heap.size wr ((wr).alloc (.cells #[.string ⟨#[102,114,97,103,109,101,110,116]⟩] 9))):=QA ((Below.refl _ _).alloc (QM _) _)
    go_wp2_with fail
    refine (rword_any b g o _ [Qr.sFrag] _ ((HD.out.below bc.out).rd) (txts_one wr Qr.sFrag _ _ rfl) (by simp)).mono ?_
    rintro r w9 ⟨rfl,hb9⟩
    have aR:=QA ((HD.out.below bc.out).below hb9)
    obtain ⟨F,hF⟩:∃ B,B=Rd.isW o [Qr.sFrag]:=⟨_,rfl⟩
    have aN:=QA hF
    rw[← hF]
    clear hF hb9 aX
    cases F
    ·go_wp2_with fail
     refine wp_region_phase (fun _=>True) 13 (by kernel_rfl) ?_
     refine wpAnyB_take (i:=0) (v:=(.pointer (some ⟨b,0,none⟩))) (by kernel_rfl) (by decide) rfl (by kernel_rfl) (by kernel_rfl) (by kernel_rfl) (fun _ _ _ h=>h) (Or.inl ⟨by rfl,fun w hSw=>by go_simp⟩) trivial ?_;simp only[Act.put,QD,QK,QI,QJ,QC,QH,QG]
     refine wpAnyB_take (i:=1) (v:=(.pointer (some ⟨b,0,none⟩))) (by kernel_rfl) (by decide) rfl (by kernel_rfl) (by kernel_rfl) (by kernel_rfl) (fun _ _ _ h=>h) (Or.inl ⟨by rfl,fun w hSw=>by go_simp⟩) trivial ?_;simp only[Act.put,QD,QK,QI,QJ,QC,QH,QG]
     refine wpAnyB_take (i:=2) (v:=(.pointer (some ⟨b,0,none⟩))) (by kernel_rfl) (by decide) rfl (by kernel_rfl) (by kernel_rfl) (by kernel_rfl) (fun _ _ _ h=>h) (Or.inl ⟨by rfl,fun w hSw=>by go_simp⟩) trivial ?_;simp only[Act.put,QD,QK,QI,QJ,QC,QH,QG]
     refine wpAnyB_one (i:=3) (by kernel_rfl) ?_
     refine wpOp_intro (by decide) (fun K3 HK3=>?_);simp only[QE,QL,QF,QN]
     have aP:Hid (Below w9.heap.size w9 ((w9.drew).alloc (.cells #[.string ⟨#[123]⟩] 9))):=QA (((Below.refl _ _).drew).alloc (QM _) _)
     have a9:Hid (Txts ((w9.drew).alloc (.cells #[.string ⟨#[123]⟩] 9)) (.slice (some ⟨w9.heap.size,0,none⟩) 1 1) [Rd.lbrc]):=QA (txts_one w9.drew Rd.lbrc ⟨#[123]⟩ 9 rfl)
     have aQ:=QA (aR.out.below aP.out)
     go_wp2_with fail
     refine HK3.out _ _ ⟨fun _=>trivial,?_⟩
     clear HK3
     refine wpAnyB_one (i:=4) (by kernel_rfl) ?_
     refine wpOp_intro (by decide) (fun K4 HK4=>?_);simp only[QE,QL,QF,QN]
     go_wp2_with fail
     refine (ris_any b g o _ [Rd.lbrc] _ aQ.out.rd a9.out (by simp)).mono ?_
     rintro r w10 ⟨rfl,hb10⟩
     rw[show ([Rd.lbrc].any (Rd.isS o))=Rd.isS o Rd.lbrc by simp]
     have aB:=QA (aQ.out.below hb10)
     obtain ⟨B,hB⟩:∃ B,B=Rd.isS o Rd.lbrc:=⟨_,rfl⟩
     have HB:=QA hB
     rw[← hB]
     clear hB hb10 aP a9 aQ
     go_wp2_with fail
     refine HK4.out _ _ ⟨fun _=>trivial,?_⟩
     clear HK4
     cases B
     ·refine wpAnyB_take (i:=5) (v:=(.bool false)) (by kernel_rfl) (by decide) rfl (by kernel_rfl) (by kernel_rfl) (by kernel_rfl) (fun _ _ _ h=>h) (Or.inl ⟨by rfl,fun w hSw=>by go_simp⟩) trivial ?_;simp only[Act.put,QD,QK,QI,QJ,QC,QH,QG]
      refine wpAnyB_take (i:=6) (v:=(.pointer (some ⟨b,0,none⟩))) (by kernel_rfl) (by decide) rfl (by kernel_rfl) (by kernel_rfl) (by kernel_rfl) (fun _ _ _ h=>h) (Or.inl ⟨by rfl,fun w hSw=>by go_simp⟩) trivial ?_;simp only[Act.put,QD,QK,QI,QJ,QC,QH,QG]
      refine wpAnyB_take (i:=7) (v:=(.pointer (some ⟨b,0,none⟩))) (by kernel_rfl) (by decide) rfl (by kernel_rfl) (by kernel_rfl) (by kernel_rfl) (fun _ _ _ h=>h) (Or.inl ⟨by rfl,fun w hSw=>by go_simp⟩) trivial ?_;simp only[Act.put,QD,QK,QI,QJ,QC,QH,QG]
      refine wpAnyB_take (i:=8) (v:=(.pointer (some ⟨b,0,none⟩))) (by kernel_rfl) (by decide) rfl (by kernel_rfl) (by kernel_rfl) (by kernel_rfl) (fun _ _ _ h=>h) (Or.inl ⟨by rfl,fun w hSw=>by go_simp⟩) trivial ?_;simp only[Act.put,QD,QK,QI,QJ,QC,QH,QG]
      refine wpAnyB_one (i:=9) (by kernel_rfl) ?_
      refine wpOp_intro (by decide) (fun K9 HK9=>?_);simp only[QE,QL,QF,QN]
      go_wp2_with fail
      refine (kinds_any _).mono ?_
      rintro r w12 ⟨rfl,hb12,G⟩
      have aO:=QA G
      have ay:=QA (aB.out.below hb12)
      clear hb12 G
      go_wp2_with fail
      refine HK9.out _ _ ⟨fun _=>trivial,?_⟩
      clear HK9
      refine wpAnyB_one (i:=10) (by kernel_rfl) ?_
      refine wpOp_intro (by decide) (fun K10 HK10=>?_);simp only[QE,QL,QF,QN]
      go_wp2_with fail
      refine (rword_any b g o _ Qr.kinds _ ay.out.rd aO.out (by decide)).mono ?_
      rintro r w13 ⟨rfl,hb13⟩
      have an:=QA (ay.out.below hb13)
      obtain ⟨C,hC⟩:∃ B,B=Rd.isW o Qr.kinds:=⟨_,rfl⟩
      have HC:=QA hC
      rw[← hC]
      clear hC hb13 aO ay
      go_wp2_with fail
      refine HK10.out _ _ ⟨fun _=>trivial,?_⟩
      clear HK10
      refine wpAnyB_take (i:=11) (v:=(.bool C)) (by kernel_rfl) (by decide) rfl (by kernel_rfl) (by kernel_rfl) (by kernel_rfl) (fun _ _ _ h=>h) (Or.inl ⟨by rfl,fun w hSw=>by go_simp⟩) trivial ?_;simp only[Act.put,QD,QK,QI,QJ,QC,QH,QG]
      refine wpAnyB_take (i:=12) (v:=(.bool C)) (by kernel_rfl) (by decide) rfl (by kernel_rfl) (by kernel_rfl) (by kernel_rfl) (fun _ _ _ h=>h) (Or.inl ⟨by rfl,fun w hSw=>by go_simp⟩) trivial ?_;simp only[Act.put,QD,QK,QI,QJ,QC,QH,QG]
      refine wpAnyB_done (by kernel_rfl) ?_ _
      cases C
      ·have H:Hid (Qr.step (n+1) o d=(Rd.wrong o,d)):=by unfold Qr.step;rw[if_neg (by rw[← aN.out];simp),if_neg (by rw[← HB.out,← HC.out];simp)];exact QA rfl
       go_wp2_with fail
       refine (rwrong_any b g o _ an.out.rd).mono ?_
       rintro r w14 ⟨rfl,hr14,hf14⟩
       have am:=QA (an.out.step hr14 hf14)
       clear hr14 hf14
       go_wp2_with fail
       go_roundg k'
       case measure=>omega
       case rel =>
        have S:=Qr.step_deep (n+1) o d
        have P:=Qr.step_goes (n+1) o d
        have N:=(Qr.ok_step (n+1) o d).len
        have E:Qr.go (n+1) false k' (Qr.step (n+1) o d).1 (Qr.step (n+1) o d).2=Qr.parse s.data.toList:=aM.out
        rw[H.out] at S P N E
        exact ⟨false,_,_,_,_,rfl,by rcases P with G|G;exact .inl G;right;simp only at G ⊢;omega,by omega,by omega,by rw[← aq.out];exact S,QR N ap,am.out,E⟩
      ·have H:Hid (Qr.step (n+1) o d=((Qr.op (n+1) o).1,(d.1++[(Qr.op (n+1) o).2],d.2))):=by unfold Qr.step;rw[if_neg (by rw[← aN.out];simp),if_pos (by rw[← HB.out,← HC.out];simp[])];exact QA rfl
       go_wp2_with fail
       have U:=QA (an.out.below ((Below.refl _ _).drew))
       have I:w13.cell? ⟨b+1,0,none⟩=some (.slice a1 d.1.length c1):=blk_cell an.out.b6 0 _ rfl
       refine wp_region_phase (fun w'=>w'.cell? ⟨b+1,0,none⟩=some (.slice a1 d.1.length c1)) 6 (by kernel_rfl) ?_
       refine wpAnyB_take (i:=0) (v:=(.pointer (some ⟨b+1,0,none⟩))) (by kernel_rfl) (by decide) rfl (by kernel_rfl) (by kernel_rfl) (by kernel_rfl) (fun _ _ _ h=>h) (Or.inl ⟨by rfl,fun w hSw=>by have s0:=hSw;go_simp⟩) I ?_;simp only[Act.put,QD,QK,QI,QJ,QC,QH,QG]
       refine wpAnyB_take (i:=1) (v:=(.slice a1 d.1.length c1)) (by kernel_rfl) (by decide) rfl (by kernel_rfl) (by kernel_rfl) (by kernel_rfl) (fun _ _ _ h=>h) (Or.inl ⟨by rfl,fun w hSw=>by have s0:=hSw;go_simp⟩) I ?_;simp only[Act.put,QD,QK,QI,QJ,QC,QH,QG]
       refine wpAnyB_take (i:=2) (v:=(.pointer (some ⟨b,0,none⟩))) (by kernel_rfl) (by decide) rfl (by kernel_rfl) (by kernel_rfl) (by kernel_rfl) (fun _ _ _ h=>h) (Or.inl ⟨by rfl,fun w hSw=>by have s0:=hSw;go_simp⟩) I ?_;simp only[Act.put,QD,QK,QI,QJ,QC,QH,QG]
       clear I
       refine wpAnyB_one (i:=3) (by kernel_rfl) ?_
       refine wpOp_intro (by decide) (fun K3 HK3=>?_);simp only[QE,QL,QF,QN]
       go_wp2_with fail
       refine (op_any b g n (by omega) o _ U.out.rd ap (by rw[aq.out];omega)).mono ?_
       rintro r w11 ⟨cs,rfl,hrd,hr3,hf3⟩
       obtain ⟨kd,Z,Y,n3,c3,W,n4,X,V,n5,c5,a6,rfl⟩:=Op_cells hrd
       have A:=QA (U.out.step hr3 hf3)
       have M:=QA (U.out.data hrd)
       have K:=QA (Reads.one hrd)
       clear hrd hr3 hf3
       go_wp2_with fail
       refine HK3.out _ _ ⟨fun _=>blk_cell A.out.b6 0 _ rfl,?_⟩
       clear HK3
       refine wpAnyB_one (i:=4) (by kernel_rfl) ?_
       refine wpOp_intro (by decide) (fun K4 HK4=>?_);simp only[QE,QL,QF,QN]
       go_wp2_with fail
       have hA:Below w11.heap.size w11 (w11.alloc (.cells #[.int .i64 kd,.string Z,.slice Y n3 c3,.slice W n4 X,.slice V n5 c5,.int .i64 a6] 96)):=(Below.refl _ _).alloc (QM _) _
       have hE:=(A.out.below hA)
       have HE:=QA hE
       obtain ⟨⟨xs,G,af⟩,aH⟩:=hE.g1
       rw[QX] at G
       have Q:=QA G
       have ah:=QA af
       have ai:=QA (M.out.to (Stands.below hA))
       have L:Hid (∀ j u,([Value.int .i64 kd,.string Z,.slice Y n3 c3,.slice W n4 X,.slice V n5 c5,.int .i64 a6]:List Value)[j]?=some u→(w11.alloc (.cells #[.int .i64 kd,.string Z,.slice Y n3 c3,.slice W n4 X,.slice V n5 c5,.int .i64 a6] 96)).cell? ((⟨w11.heap.size,0,none⟩:Addr).add j)=some u):=QA (lit_cells (fz:=(0,0)) (heap_at_new _ _))
       have D:b+1+1≤(w11.alloc (.cells #[.int .i64 kd,.string Z,.slice Y n3 c3,.slice W n4 X,.slice V n5 c5,.int .i64 a6] 96)).heap.size:=hE.hi
       have ag:Hid (∀ w8:World,(w11.alloc (.cells #[.int .i64 kd,.string Z,.slice Y n3 c3,.slice W n4 X,.slice V n5 c5,.int .i64 a6] 96)).grownBy w8 (Value.ownBlock (.slice a1 d.1.length c1))→w8.heap[b+1]?=some (.cells (mkDoc (.slice a1 d.1.length c1) (.slice a2 d.2.length c2)) 43 (0,0))):=by
        refine QA fun w8 hg=>?_
        rw[hg.block (b+1) (block_lt hE.b6) (fun e=>by have:=(G.lt _ e.symm).1;omega)]
        exact hE.b6
       refine HK4.out _ _ ⟨fun _=>blk_cell (A.out.below hA).b6 0 _ rfl,?_⟩
       clear HK4 hA hE G af aH
       refine wpAnyB_one (i:=5) (by kernel_rfl) ?_
       refine wpOp_intro (by decide) (fun K5 HK5=>?_);simp only[QE,QL,QF,QN]
       go_wp2_with (first|(at_builtin;refine wpList_append_own_at _ rfl _ _ 40 rfl (b+1+1) 96 bi _ 6 104 Tryz.underlying40 bg aV aU aW rfl (by decide) (.slice a1 d.1.length c1) d.1.length xs rfl Q.out ⟨w11.heap.size,0,none⟩ 1 1 [.int .i64 kd,.string Z,.slice Y n3 c3,.slice W n4 X,.slice V n5 c5,.int .i64 a6] rfl rfl L.out K.out (by unfold maxLen;omega) (by omega) D ?_;intro v' w8 hrow8 hg8 hnil8 hloc8;clear hnil8;obtain ⟨g',c',rfl,aE,az⟩:=rowForm hrow8 (by omega);have J:=QA hrow8;have O:=QA hg8;have aj:=QA hloc8;clear hrow8 hg8 hloc8)|fail)
       have hy:=ag.out _ O.out
       have y0:=blk_cell hy 0 (.slice a1 d.1.length c1) rfl
       have aF:=blk_free hy 0
       clear hy
       refine HK5.out _ _ ⟨fun _=>y0,?_⟩
       clear HK5
       refine wpAnyB_takeAny (i:=6) (v:=(.pointer (some ⟨b+1,0,none⟩))) (by decide) rfl (by kernel_rfl) (by kernel_rfl) (by kernel_rfl) (fun _ _ _ h=>h) (Or.inl ⟨by rfl,fun w _=>by go_simp⟩) ?_;simp only[Act.put,QD,QK,QI,QJ,QC,QH,QG]
       refine wpAnyB_one (i:=7) (by kernel_rfl) ?_
       refine wpOp_intro (by decide) (fun K7 HK7=>?_);simp only[QE,QL,QF,QN]
       go_wp2_with fail
       refine HK7.out _ _ ⟨fun h=>absurd h (by decide),?_⟩
       clear HK7 y0 aF
       refine wpAnyB_done (by kernel_rfl) ?_ _
       obtain ⟨v',R⟩:∃ z,z=Value.slice (some ⟨g',0,none⟩) (d.1.length+1) c':=⟨_,rfl⟩
       have am:Hid (DQ w2 b g (b+1) (Qr.op (n+1) o).1 v' (.slice a2 d.2.length c2) (d.1++[(Qr.op (n+1) o).2],d.2) (w8.setCell ⟨b+1,0,none⟩ (.slice (some ⟨g',0,none⟩) (d.1.length+1) c'))):=by
        have:=(HE.out.more (j:=0) (v':=.slice (some ⟨g',0,none⟩) (d.1.length+1) c') (by rw[QX];exact Q.out) ah.out ai.out rfl O.out aj.out (by rw[QX];exact J.out) rfl)
        rw[show d.1.map Qr.Op.d++[(Qr.op (n+1) o).2.d]=(d.1++[(Qr.op (n+1) o).2],d.2).1.map Qr.Op.d by simp,← R] at this
        rw[← R]
        exact QA this
       clear R Q ah ai O aj J ag HE L K M A aE az D
       go_wp2_with fail
       go_roundg k'
       case measure=>omega
       case rel =>
        have S:=Qr.step_deep (n+1) o d
        have P:=Qr.step_goes (n+1) o d
        have N:=(Qr.ok_step (n+1) o d).len
        have E:Qr.go (n+1) false k' (Qr.step (n+1) o d).1 (Qr.step (n+1) o d).2=Qr.parse s.data.toList:=aM.out
        rw[H.out] at S P N E
        exact ⟨false,_,_,_,_,rfl,by rcases P with G|G;exact .inl G;right;simp only at G ⊢;omega,by show (d.1++[_]).length+k'≤n+2;rw[QT,List.length_singleton];omega,by show d.2.length+k'≤n+2;omega,by rw[← aq.out];exact S,QR N ap,am.out,E⟩
     ·refine wpAnyB_take (i:=5) (v:=(.bool true)) (by kernel_rfl) (by decide) rfl (by kernel_rfl) (by kernel_rfl) (by kernel_rfl) (fun _ _ _ h=>h) (Or.inl ⟨by rfl,fun w hSw=>by go_simp⟩) trivial ?_;simp only[Act.put,QD,QK,QI,QJ,QC,QH,QG]
      refine wpAnyB_take (i:=6) (v:=undef) (by kernel_rfl) (by decide) rfl (by kernel_rfl) (by kernel_rfl) (by kernel_rfl) (fun _ _ _ h=>h) (Or.inr ⟨by rfl,rfl⟩) trivial ?_;simp only[Act.put,QD,QK,QI,QJ,QC,QH,QG]
      refine wpAnyB_take (i:=7) (v:=undef) (by kernel_rfl) (by decide) rfl (by kernel_rfl) (by kernel_rfl) (by kernel_rfl) (fun _ _ _ h=>h) (Or.inr ⟨by rfl,rfl⟩) trivial ?_;simp only[Act.put,QD,QK,QI,QJ,QC,QH,QG]
      refine wpAnyB_take (i:=8) (v:=undef) (by kernel_rfl) (by decide) rfl (by kernel_rfl) (by kernel_rfl) (by kernel_rfl) (fun _ _ _ h=>h) (Or.inr ⟨by rfl,rfl⟩) trivial ?_;simp only[Act.put,QD,QK,QI,QJ,QC,QH,QG]
      refine wpAnyB_take (i:=9) (v:=undef) (by kernel_rfl) (by decide) rfl (by kernel_rfl) (by kernel_rfl) (by kernel_rfl) (fun _ _ _ h=>h) (Or.inr ⟨by rfl,rfl⟩) trivial ?_;simp only[Act.put,QD,QK,QI,QJ,QC,QH,QG]
      refine wpAnyB_take (i:=10) (v:=undef) (by kernel_rfl) (by decide) rfl (by kernel_rfl) (by kernel_rfl) (by kernel_rfl) (fun _ _ _ h=>h) (Or.inr ⟨by rfl,rfl⟩) trivial ?_;simp only[Act.put,QD,QK,QI,QJ,QC,QH,QG]
      refine wpAnyB_take (i:=11) (v:=(.bool true)) (by kernel_rfl) (by decide) rfl (by kernel_rfl) (by kernel_rfl) (by kernel_rfl) (fun _ _ _ h=>h) (Or.inl ⟨by rfl,fun w hSw=>by go_simp⟩) trivial ?_;simp only[Act.put,QD,QK,QI,QJ,QC,QH,QG]
      refine wpAnyB_take (i:=12) (v:=(.bool true)) (by kernel_rfl) (by decide) rfl (by kernel_rfl) (by kernel_rfl) (by kernel_rfl) (fun _ _ _ h=>h) (Or.inl ⟨by rfl,fun w hSw=>by go_simp⟩) trivial ?_;simp only[Act.put,QD,QK,QI,QJ,QC,QH,QG]
      refine wpAnyB_done (by kernel_rfl) ?_ _
      have H:Hid (Qr.step (n+1) o d=((Qr.op (n+1) o).1,(d.1++[(Qr.op (n+1) o).2],d.2))):=by unfold Qr.step;rw[if_neg (by rw[← aN.out];simp),if_pos (by rw[← HB.out];simp[])];exact QA rfl
      go_wp2_with fail
      have U:=QA (aB.out.below ((Below.refl _ _).drew))
      have I:w10.cell? ⟨b+1,0,none⟩=some (.slice a1 d.1.length c1):=blk_cell aB.out.b6 0 _ rfl
      refine wp_region_phase (fun w'=>w'.cell? ⟨b+1,0,none⟩=some (.slice a1 d.1.length c1)) 6 (by kernel_rfl) ?_
      refine wpAnyB_take (i:=0) (v:=(.pointer (some ⟨b+1,0,none⟩))) (by kernel_rfl) (by decide) rfl (by kernel_rfl) (by kernel_rfl) (by kernel_rfl) (fun _ _ _ h=>h) (Or.inl ⟨by rfl,fun w hSw=>by have s0:=hSw;go_simp⟩) I ?_;simp only[Act.put,QD,QK,QI,QJ,QC,QH,QG]
      refine wpAnyB_take (i:=1) (v:=(.slice a1 d.1.length c1)) (by kernel_rfl) (by decide) rfl (by kernel_rfl) (by kernel_rfl) (by kernel_rfl) (fun _ _ _ h=>h) (Or.inl ⟨by rfl,fun w hSw=>by have s0:=hSw;go_simp⟩) I ?_;simp only[Act.put,QD,QK,QI,QJ,QC,QH,QG]
      refine wpAnyB_take (i:=2) (v:=(.pointer (some ⟨b,0,none⟩))) (by kernel_rfl) (by decide) rfl (by kernel_rfl) (by kernel_rfl) (by kernel_rfl) (fun _ _ _ h=>h) (Or.inl ⟨by rfl,fun w hSw=>by have s0:=hSw;go_simp⟩) I ?_;simp only[Act.put,QD,QK,QI,QJ,QC,QH,QG]
      clear I
      refine wpAnyB_one (i:=3) (by kernel_rfl) ?_
      refine wpOp_intro (by decide) (fun K3 HK3=>?_);simp only[QE,QL,QF,QN]
      go_wp2_with fail
      refine (op_any b g n (by omega) o _ U.out.rd ap (by rw[aq.out];omega)).mono ?_
      rintro r w11 ⟨cs,rfl,hrd,hr3,hf3⟩
      obtain ⟨kd,Z,Y,n3,c3,W,n4,X,V,n5,c5,a6,rfl⟩:=Op_cells hrd
      have A:=QA (U.out.step hr3 hf3)
      have M:=QA (U.out.data hrd)
      have K:=QA (Reads.one hrd)
      clear hrd hr3 hf3
      go_wp2_with fail
      refine HK3.out _ _ ⟨fun _=>blk_cell A.out.b6 0 _ rfl,?_⟩
      clear HK3
      refine wpAnyB_one (i:=4) (by kernel_rfl) ?_
      refine wpOp_intro (by decide) (fun K4 HK4=>?_);simp only[QE,QL,QF,QN]
      go_wp2_with fail
      have hA:Below w11.heap.size w11 (w11.alloc (.cells #[.int .i64 kd,.string Z,.slice Y n3 c3,.slice W n4 X,.slice V n5 c5,.int .i64 a6] 96)):=(Below.refl _ _).alloc (QM _) _
      have hE:=(A.out.below hA)
      have HE:=QA hE
      obtain ⟨⟨xs,G,af⟩,aH⟩:=hE.g1
      rw[QX] at G
      have Q:=QA G
      have ah:=QA af
      have ai:=QA (M.out.to (Stands.below hA))
      have L:Hid (∀ j u,([Value.int .i64 kd,.string Z,.slice Y n3 c3,.slice W n4 X,.slice V n5 c5,.int .i64 a6]:List Value)[j]?=some u→(w11.alloc (.cells #[.int .i64 kd,.string Z,.slice Y n3 c3,.slice W n4 X,.slice V n5 c5,.int .i64 a6] 96)).cell? ((⟨w11.heap.size,0,none⟩:Addr).add j)=some u):=QA (lit_cells (fz:=(0,0)) (heap_at_new _ _))
      have D:b+1+1≤(w11.alloc (.cells #[.int .i64 kd,.string Z,.slice Y n3 c3,.slice W n4 X,.slice V n5 c5,.int .i64 a6] 96)).heap.size:=hE.hi
      have ag:Hid (∀ w8:World,(w11.alloc (.cells #[.int .i64 kd,.string Z,.slice Y n3 c3,.slice W n4 X,.slice V n5 c5,.int .i64 a6] 96)).grownBy w8 (Value.ownBlock (.slice a1 d.1.length c1))→w8.heap[b+1]?=some (.cells (mkDoc (.slice a1 d.1.length c1) (.slice a2 d.2.length c2)) 43 (0,0))):=by
       refine QA fun w8 hg=>?_
       rw[hg.block (b+1) (block_lt hE.b6) (fun e=>by have:=(G.lt _ e.symm).1;omega)]
       exact hE.b6
      refine HK4.out _ _ ⟨fun _=>blk_cell (A.out.below hA).b6 0 _ rfl,?_⟩
      clear HK4 hA hE G af aH
      refine wpAnyB_one (i:=5) (by kernel_rfl) ?_
      refine wpOp_intro (by decide) (fun K5 HK5=>?_);simp only[QE,QL,QF,QN]
      go_wp2_with (first|(at_builtin;refine wpList_append_own_at _ rfl _ _ 40 rfl (b+1+1) 96 bi _ 6 104 Tryz.underlying40 bg aV aU aW rfl (by decide) (.slice a1 d.1.length c1) d.1.length xs rfl Q.out ⟨w11.heap.size,0,none⟩ 1 1 [.int .i64 kd,.string Z,.slice Y n3 c3,.slice W n4 X,.slice V n5 c5,.int .i64 a6] rfl rfl L.out K.out (by unfold maxLen;omega) (by omega) D ?_;intro v' w8 hrow8 hg8 hnil8 hloc8;clear hnil8;obtain ⟨g',c',rfl,aE,az⟩:=rowForm hrow8 (by omega);have J:=QA hrow8;have O:=QA hg8;have aj:=QA hloc8;clear hrow8 hg8 hloc8)|fail)
      have hy:=ag.out _ O.out
      have y0:=blk_cell hy 0 (.slice a1 d.1.length c1) rfl
      have aF:=blk_free hy 0
      clear hy
      refine HK5.out _ _ ⟨fun _=>y0,?_⟩
      clear HK5
      refine wpAnyB_takeAny (i:=6) (v:=(.pointer (some ⟨b+1,0,none⟩))) (by decide) rfl (by kernel_rfl) (by kernel_rfl) (by kernel_rfl) (fun _ _ _ h=>h) (Or.inl ⟨by rfl,fun w _=>by go_simp⟩) ?_;simp only[Act.put,QD,QK,QI,QJ,QC,QH,QG]
      refine wpAnyB_one (i:=7) (by kernel_rfl) ?_
      refine wpOp_intro (by decide) (fun K7 HK7=>?_);simp only[QE,QL,QF,QN]
      go_wp2_with fail
      refine HK7.out _ _ ⟨fun h=>absurd h (by decide),?_⟩
      clear HK7 y0 aF
      refine wpAnyB_done (by kernel_rfl) ?_ _
      obtain ⟨v',R⟩:∃ z,z=Value.slice (some ⟨g',0,none⟩) (d.1.length+1) c':=⟨_,rfl⟩
      have am:Hid (DQ w2 b g (b+1) (Qr.op (n+1) o).1 v' (.slice a2 d.2.length c2) (d.1++[(Qr.op (n+1) o).2],d.2) (w8.setCell ⟨b+1,0,none⟩ (.slice (some ⟨g',0,none⟩) (d.1.length+1) c'))):=by
       have:=(HE.out.more (j:=0) (v':=.slice (some ⟨g',0,none⟩) (d.1.length+1) c') (by rw[QX];exact Q.out) ah.out ai.out rfl O.out aj.out (by rw[QX];exact J.out) rfl)
       rw[show d.1.map Qr.Op.d++[(Qr.op (n+1) o).2.d]=(d.1++[(Qr.op (n+1) o).2],d.2).1.map Qr.Op.d by simp,← R] at this
       rw[← R]
       exact QA this
      clear R Q ah ai O aj J ag HE L K M A aE az D
      go_wp2_with fail
      go_roundg k'
      case measure=>omega
      case rel =>
       have S:=Qr.step_deep (n+1) o d
       have P:=Qr.step_goes (n+1) o d
       have N:=(Qr.ok_step (n+1) o d).len
       have E:Qr.go (n+1) false k' (Qr.step (n+1) o d).1 (Qr.step (n+1) o d).2=Qr.parse s.data.toList:=aM.out
       rw[H.out] at S P N E
       exact ⟨false,_,_,_,_,rfl,by rcases P with G|G;exact .inl G;right;simp only at G ⊢;omega,by show (d.1++[_]).length+k'≤n+2;rw[QT,List.length_singleton];omega,by show d.2.length+k'≤n+2;omega,by rw[← aq.out];exact S,QR N ap,am.out,E⟩
    ·have H:Hid (Qr.step (n+1) o d=((Qr.frag (n+1) o).1,(d.1,d.2++[(Qr.frag (n+1) o).2]))):=by unfold Qr.step;rw[if_pos aN.out.symm];exact QA rfl
     go_wp2_with fail
     have U:=QA (aR.out.below ((Below.refl _ _).drew))
     have I:w9.cell? ⟨b+1,1,none⟩=some (.slice a2 d.2.length c2):=blk_cell aR.out.b6 1 _ rfl
     refine wp_region_phase (fun w'=>w'.cell? ⟨b+1,1,none⟩=some (.slice a2 d.2.length c2)) 6 (by kernel_rfl) ?_
     refine wpAnyB_take (i:=0) (v:=(.pointer (some ⟨b+1,1,none⟩))) (by kernel_rfl) (by decide) rfl (by kernel_rfl) (by kernel_rfl) (by kernel_rfl) (fun _ _ _ h=>h) (Or.inl ⟨by rfl,fun w hSw=>by have s0:=hSw;go_simp⟩) I ?_;simp only[Act.put,QD,QK,QI,QJ,QC,QH,QG]
     refine wpAnyB_take (i:=1) (v:=(.slice a2 d.2.length c2)) (by kernel_rfl) (by decide) rfl (by kernel_rfl) (by kernel_rfl) (by kernel_rfl) (fun _ _ _ h=>h) (Or.inl ⟨by rfl,fun w hSw=>by have s0:=hSw;go_simp⟩) I ?_;simp only[Act.put,QD,QK,QI,QJ,QC,QH,QG]
     refine wpAnyB_take (i:=2) (v:=(.pointer (some ⟨b,0,none⟩))) (by kernel_rfl) (by decide) rfl (by kernel_rfl) (by kernel_rfl) (by kernel_rfl) (fun _ _ _ h=>h) (Or.inl ⟨by rfl,fun w hSw=>by have s0:=hSw;go_simp⟩) I ?_;simp only[Act.put,QD,QK,QI,QJ,QC,QH,QG]
     clear I
     refine wpAnyB_one (i:=3) (by kernel_rfl) ?_
     refine wpOp_intro (by decide) (fun K3 HK3=>?_);simp only[QE,QL,QF,QN]
     go_wp2_with fail
     refine (frag_any b g n (by omega) o _ U.out.rd ap (by rw[aq.out];omega)).mono ?_
     rintro r w11 ⟨cs,rfl,hrd,hr3,hf3⟩
     obtain ⟨Z,on,Y,n3,c3,W,n4,X,V,rfl⟩:=Fr_cells hrd
     have A:=QA (U.out.step hr3 hf3)
     have M:=QA (U.out.swap.data hrd)
     have K:=QA (Reads.one hrd)
     clear hrd hr3 hf3
     go_wp2_with fail
     refine HK3.out _ _ ⟨fun _=>blk_cell A.out.b6 1 _ rfl,?_⟩
     clear HK3
     refine wpAnyB_one (i:=4) (by kernel_rfl) ?_
     refine wpOp_intro (by decide) (fun K4 HK4=>?_);simp only[QE,QL,QF,QN]
     go_wp2_with fail
     have hA:Below w11.heap.size w11 (w11.alloc (.cells #[.string Z,.string on,.slice Y n3 c3,.slice W n4 X,.int .i64 V] 102)):=(Below.refl _ _).alloc (QM _) _
     have hE:=(A.out.below hA).swap
     have HE:=QA hE
     obtain ⟨⟨xs,G,af⟩,aH⟩:=hE.g1
     rw[QX] at G
     have Q:=QA G
     have ah:=QA af
     have ai:=QA (M.out.to (Stands.below hA))
     have L:Hid (∀ j u,([Value.string Z,.string on,.slice Y n3 c3,.slice W n4 X,.int .i64 V]:List Value)[j]?=some u→(w11.alloc (.cells #[.string Z,.string on,.slice Y n3 c3,.slice W n4 X,.int .i64 V] 102)).cell? ((⟨w11.heap.size,0,none⟩:Addr).add j)=some u):=QA (lit_cells (fz:=(0,0)) (heap_at_new _ _))
     have D:b+1+1≤(w11.alloc (.cells #[.string Z,.string on,.slice Y n3 c3,.slice W n4 X,.int .i64 V] 102)).heap.size:=hE.hi
     have ag:Hid (∀ w8:World,(w11.alloc (.cells #[.string Z,.string on,.slice Y n3 c3,.slice W n4 X,.int .i64 V] 102)).grownBy w8 (Value.ownBlock (.slice a2 d.2.length c2))→w8.heap[b+1]?=some (.cells (mkDoc (.slice a1 d.1.length c1) (.slice a2 d.2.length c2)) 43 (0,0))):=by
      refine QA fun w8 hg=>?_
      rw[hg.block (b+1) (block_lt hE.b6) (fun e=>by have:=(G.lt _ e.symm).1;omega)]
      exact hE.b6
     refine HK4.out _ _ ⟨fun _=>blk_cell (A.out.below hA).b6 1 _ rfl,?_⟩
     clear HK4 hA hE G af aH
     refine wpAnyB_one (i:=5) (by kernel_rfl) ?_
     refine wpOp_intro (by decide) (fun K5 HK5=>?_);simp only[QE,QL,QF,QN]
     go_wp2_with (first|(at_builtin;refine wpList_append_own_at _ rfl _ _ 41 rfl (b+1+1) 102 bO _ 5 88 Tryz.underlying41 bB bl bm bj rfl (by decide) (.slice a2 d.2.length c2) d.2.length xs rfl Q.out ⟨w11.heap.size,0,none⟩ 1 1 [.string Z,.string on,.slice Y n3 c3,.slice W n4 X,.int .i64 V] rfl rfl L.out K.out (by unfold maxLen;omega) (by omega) D ?_;intro v' w8 hrow8 hg8 hnil8 hloc8;clear hnil8;obtain ⟨g',c',rfl,aE,az⟩:=rowForm hrow8 (by omega);have J:=QA hrow8;have O:=QA hg8;have aj:=QA hloc8;clear hrow8 hg8 hloc8)|fail)
     have hy:=ag.out _ O.out
     have y0:=blk_cell hy 1 (.slice a2 d.2.length c2) rfl
     have aF:=blk_free hy 1
     clear hy
     refine HK5.out _ _ ⟨fun _=>y0,?_⟩
     clear HK5
     refine wpAnyB_takeAny (i:=6) (v:=(.pointer (some ⟨b+1,1,none⟩))) (by decide) rfl (by kernel_rfl) (by kernel_rfl) (by kernel_rfl) (fun _ _ _ h=>h) (Or.inl ⟨by rfl,fun w _=>by go_simp⟩) ?_;simp only[Act.put,QD,QK,QI,QJ,QC,QH,QG]
     refine wpAnyB_one (i:=7) (by kernel_rfl) ?_
     refine wpOp_intro (by decide) (fun K7 HK7=>?_);simp only[QE,QL,QF,QN]
     go_wp2_with fail
     refine HK7.out _ _ ⟨fun h=>absurd h (by decide),?_⟩
     clear HK7 y0 aF
     refine wpAnyB_done (by kernel_rfl) ?_ _
     obtain ⟨v',R⟩:∃ z,z=Value.slice (some ⟨g',0,none⟩) (d.2.length+1) c':=⟨_,rfl⟩
     have am:Hid (DQ w2 b g (b+1) (Qr.frag (n+1) o).1 (.slice a1 d.1.length c1) v' (d.1,d.2++[(Qr.frag (n+1) o).2]) (w8.setCell ⟨b+1,1,none⟩ (.slice (some ⟨g',0,none⟩) (d.2.length+1) c'))):=by
      have:=(HE.out.more (j:=1) (v':=.slice (some ⟨g',0,none⟩) (d.2.length+1) c') (by rw[QX];exact Q.out) ah.out ai.out rfl O.out aj.out (by rw[QX];exact J.out) rfl).swap
      rw[show d.2.map Qr.Fr.d++[(Qr.frag (n+1) o).2.d]=(d.1,d.2++[(Qr.frag (n+1) o).2]).2.map Qr.Fr.d by simp,← R] at this
      rw[← R]
      exact QA this
     clear R Q ah ai O aj J ag HE L K M A aE az D
     go_wp2_with fail
     go_roundg k'
     case measure=>omega
     case rel =>
      have S:=Qr.step_deep (n+1) o d
      have P:=Qr.step_goes (n+1) o d
      have N:=(Qr.ok_step (n+1) o d).len
      have E:Qr.go (n+1) false k' (Qr.step (n+1) o d).1 (Qr.step (n+1) o d).2=Qr.parse s.data.toList:=aM.out
      rw[H.out] at S P N E
      exact ⟨false,_,_,_,_,rfl,by rcases P with G|G;exact .inl G;right;simp only at G ⊢;omega,by show d.1.length+k'≤n+2;omega,by show (d.2++[_]).length+k'≤n+2;rw[QT,List.length_singleton];omega,by rw[← aq.out];exact S,QR N ap,am.out,E⟩
  ·have e4:=eqF (n:=o.err) (k:=0) (by omega)
   have e5:=neT (n:=o.err) (k:=0) (by omega)
   have aA:=QA he
   clear he
   have bw:Hid (Qr.parse s.data.toList=(o,d)):=by rw[← bd.out];exact QA (Qr.go_err _ _ _ _ _ aA.out)
   have bC:=HD.out.rd.c3
   have aK:Hid (wr.heap[w.heap.size]?=some (.cells #[.slice none 0 0,.slice none 0 0] 43 (0,0))):=QA (by rw[HD.out.fr.block w.heap.size (block_lt bh.out) (by omega)];exact bh.out)
   have z0:=blk_cell aK.out 0 (.slice none 0 0) rfl
   have bW:=blk_free aK.out 0
   have z1:=blk_cell aK.out 1 (.slice none 0 0) rfl
   have b1:=blk_free aK.out 1
   have n1:¬ w.heap.size=b:=by omega
   have n2:¬ b=w.heap.size:=by omega
   go_wp2_with fail
   have ak:wr.cell? ⟨b,3,none⟩=some (.int .i64 o.at_)∧wr.cell? ⟨b,4,none⟩=some (.int .i64 o.err):=⟨bC,aX⟩
   refine wp_region_phase (fun w'=>w'.cell? ⟨b,3,none⟩=some (.int .i64 o.at_)∧w'.cell? ⟨b,4,none⟩=some (.int .i64 o.err)) 14 (by kernel_rfl) ?_
   refine wpAnyB_take (i:=0) (v:=(.agg #[.slice none 0 0,.slice none 0 0])) (by kernel_rfl) (by decide) rfl (by kernel_rfl) (by kernel_rfl) (by kernel_rfl) (fun _ _ _ h=>h) (Or.inl ⟨by rfl,fun w hSw=>by obtain ⟨s0,s1⟩:=hSw;go_simp⟩) ak ?_;simp only[Act.put,QD,QK,QI,QJ,QC,QH,QG]
   refine wpAnyB_take (i:=1) (v:=(.pointer (some ⟨b,0,none⟩))) (by kernel_rfl) (by decide) rfl (by kernel_rfl) (by kernel_rfl) (by kernel_rfl) (fun _ _ _ h=>h) (Or.inl ⟨by rfl,fun w hSw=>by obtain ⟨s0,s1⟩:=hSw;go_simp⟩) ak ?_;simp only[Act.put,QD,QK,QI,QJ,QC,QH,QG]
   refine wpAnyB_take (i:=2) (v:=(.pointer (some ⟨b,0,none⟩))) (by kernel_rfl) (by decide) rfl (by kernel_rfl) (by kernel_rfl) (by kernel_rfl) (fun _ _ _ h=>h) (Or.inl ⟨by rfl,fun w hSw=>by obtain ⟨s0,s1⟩:=hSw;go_simp⟩) ak ?_;simp only[Act.put,QD,QK,QI,QJ,QC,QH,QG]
   refine wpAnyB_take (i:=3) (v:=(.pointer (some ⟨b,0,none⟩))) (by kernel_rfl) (by decide) rfl (by kernel_rfl) (by kernel_rfl) (by kernel_rfl) (fun _ _ _ h=>h) (Or.inl ⟨by rfl,fun w hSw=>by obtain ⟨s0,s1⟩:=hSw;go_simp⟩) ak ?_;simp only[Act.put,QD,QK,QI,QJ,QC,QH,QG]
   refine wpAnyB_take (i:=4) (v:=(.pointer (some ⟨b,3,none⟩))) (by kernel_rfl) (by decide) rfl (by kernel_rfl) (by kernel_rfl) (by kernel_rfl) (fun _ _ _ h=>h) (Or.inl ⟨by rfl,fun w hSw=>by obtain ⟨s0,s1⟩:=hSw;go_simp⟩) ak ?_;simp only[Act.put,QD,QK,QI,QJ,QC,QH,QG]
   refine wpAnyB_take (i:=5) (v:=(.int .i64 o.at_)) (by kernel_rfl) (by decide) rfl (by kernel_rfl) (by kernel_rfl) (by kernel_rfl) (fun _ _ _ h=>h) (Or.inl ⟨by rfl,fun w hSw=>by obtain ⟨s0,s1⟩:=hSw;go_simp⟩) ak ?_;simp only[Act.put,QD,QK,QI,QJ,QC,QH,QG]
   refine wpAnyB_take (i:=6) (v:=(.pointer (some ⟨b,0,none⟩))) (by kernel_rfl) (by decide) rfl (by kernel_rfl) (by kernel_rfl) (by kernel_rfl) (fun _ _ _ h=>h) (Or.inl ⟨by rfl,fun w hSw=>by obtain ⟨s0,s1⟩:=hSw;go_simp⟩) ak ?_;simp only[Act.put,QD,QK,QI,QJ,QC,QH,QG]
   refine wpAnyB_take (i:=7) (v:=(.pointer (some ⟨b,0,none⟩))) (by kernel_rfl) (by decide) rfl (by kernel_rfl) (by kernel_rfl) (by kernel_rfl) (fun _ _ _ h=>h) (Or.inl ⟨by rfl,fun w hSw=>by obtain ⟨s0,s1⟩:=hSw;go_simp⟩) ak ?_;simp only[Act.put,QD,QK,QI,QJ,QC,QH,QG]
   refine wpAnyB_take (i:=8) (v:=(.pointer (some ⟨b,0,none⟩))) (by kernel_rfl) (by decide) rfl (by kernel_rfl) (by kernel_rfl) (by kernel_rfl) (fun _ _ _ h=>h) (Or.inl ⟨by rfl,fun w hSw=>by obtain ⟨s0,s1⟩:=hSw;go_simp⟩) ak ?_;simp only[Act.put,QD,QK,QI,QJ,QC,QH,QG]
   refine wpAnyB_take (i:=9) (v:=(.pointer (some ⟨b,4,none⟩))) (by kernel_rfl) (by decide) rfl (by kernel_rfl) (by kernel_rfl) (by kernel_rfl) (fun _ _ _ h=>h) (Or.inl ⟨by rfl,fun w hSw=>by obtain ⟨s0,s1⟩:=hSw;go_simp⟩) ak ?_;simp only[Act.put,QD,QK,QI,QJ,QC,QH,QG]
   refine wpAnyB_take (i:=10) (v:=(.int .i64 o.err)) (by kernel_rfl) (by decide) rfl (by kernel_rfl) (by kernel_rfl) (by kernel_rfl) (fun _ _ _ h=>h) (Or.inl ⟨by rfl,fun w hSw=>by obtain ⟨s0,s1⟩:=hSw;go_simp⟩) ak ?_;simp only[Act.put,QD,QK,QI,QJ,QC,QH,QG]
   refine wpAnyB_one (i:=11) (by kernel_rfl) ?_
   refine wpOp_intro (by decide) (fun K1 HK1=>?_);simp only[QE,QL,QF,QN]
   go_wp2_with fail
   have bv:((wr.drew.setCell ⟨w.heap.size,0,none⟩ (.slice none 0 0)).setCell ⟨w.heap.size,1,none⟩ (.slice none 0 0)).cell? ⟨b,3,none⟩=some (.int .i64 o.at_)∧((wr.drew.setCell ⟨w.heap.size,0,none⟩ (.slice none 0 0)).setCell ⟨w.heap.size,1,none⟩ (.slice none 0 0)).cell? ⟨b,4,none⟩=some (.int .i64 o.err):=by
    have hh:∀ k,((wr.drew.setCell ⟨w.heap.size,0,none⟩ (.slice none 0 0)).setCell ⟨w.heap.size,1,none⟩ (.slice none 0 0)).cell? ⟨b,k,none⟩=wr.cell? ⟨b,k,none⟩:=fun k=>World.cell?_of_block (by rw[heap_set_ne n2,heap_set_ne n2];rfl)
    exact ⟨(hh 3).trans bC,(hh 4).trans aX⟩
   refine HK1.out _ _ ⟨fun _=>bv,?_⟩
   clear HK1 ak
   have ak:=bv
   refine wpAnyB_take (i:=12) (v:=(.int .i64 o.at_)) (by kernel_rfl) (by decide) rfl (by kernel_rfl) (by kernel_rfl) (by kernel_rfl) (fun _ _ _ h=>h) (Or.inl ⟨by rfl,fun w hSw=>by obtain ⟨s0,s1⟩:=hSw;go_simp⟩) ak ?_;simp only[Act.put,QD,QK,QI,QJ,QC,QH,QG]
   refine wpAnyB_take (i:=13) (v:=(.int .i64 o.err)) (by kernel_rfl) (by decide) rfl (by kernel_rfl) (by kernel_rfl) (by kernel_rfl) (fun _ _ _ h=>h) (Or.inl ⟨by rfl,fun w hSw=>by obtain ⟨s0,s1⟩:=hSw;go_simp⟩) ak ?_;simp only[Act.put,QD,QK,QI,QJ,QC,QH,QG]
   clear ak bv
   refine wpAnyB_done (by kernel_rfl) ?_ _
   go_wp2_with fail
   refine bodyPost_ret (v:=.tuple #[.agg #[.slice none 0 0,.slice none 0 0],.int .i64 o.at_,.int .i64 o.err]) (by simp[results,Tryz.results47,go_sem,z0,z1]) rfl ?_
   refine ⟨Below.drew (((below_fr bN.out (QM _) HD.out.fr (Nat.le_of_lt bD)).setCell (QM _) _).setCell (QM _) _),bn.out,.inr ?_⟩
   rw[bw.out]
   exact ⟨aA.out,rfl⟩
end Go.Proofs.YtefjgpkpplkkgaaGreatDoor
