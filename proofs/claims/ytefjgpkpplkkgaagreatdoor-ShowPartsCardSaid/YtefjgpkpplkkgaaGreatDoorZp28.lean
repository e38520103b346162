/-
  The writer of documents: a selection, walked.
-/
import Derived.Test.YtefjgpkpplkkgaaGreatDoorZp27
open Go.Lib renaming hid → QA
open List renaming length_cons → QO, length_nil → QS
open Nat renaming le_trans → QR, add_zero → QZ
namespace Go.Proofs.YtefjgpkpplkkgaaGreatDoor
set_option linter.unusedSimpArgs false
set_option linter.unusedVariables false
open Go Go.RowKit
theorem dirs_len:∀ l:List Dq.Dir,l.length≤Dq.dirsC l
 | []=>Nat.zero_le _
 | x::r=>by
  have:=dirs_len r
  unfold Dq.dirsC at this ⊢
  have o:Dq.dirC x=2+x.name.length+Dq.argsC x.args:=rfl
  rw[Vl.sumC,QO];omega
set_option maxHeartbeats 2000000 in
set_option maxRecDepth 100000 in
theorem wsel1 (w0:World) (b:Nat) (hE:Env w0) (h3:3≤w0.heap.size) (at_:Nat) (hat:at_≤16) (IH:WSels w0 b at_) (x:Dq.Sel) (hk:x.kind=1) (a1 a2 a4:Option Addr) (n1 n2 n4:Nat) (hR:Reads w0 (fun _=>True) x.d [.int .i64 x.kind,.string ⟨x.nick.toArray⟩,.string ⟨x.name.toArray⟩,.slice a1 x.args.length n1,.slice a2 x.dirs.length n2,.slice a4 x.sels.length n4,.int .i64 x.at_]) (hc:x.cost≤1000000000) (s:Vl.Sh) (w:World) (h:WW w0 b s w) (hl:s.out.length+x.cost≤1000000000000) :
  Calls Tryz.prog 121 #[.pointer (some ⟨b,0,none⟩),.agg #[.int .i64 x.kind,.string ⟨x.nick.toArray⟩,.string ⟨x.name.toArray⟩,.slice a1 x.args.length n1,.slice a2 x.dirs.length n2,.slice a4 x.sels.length n4,.int .i64 x.at_],.int .i64 at_] w (WPost w0 b s w (x.good at_) x.txt x.cost):=by
 have b7:=Dq.Sel.cost_eq x
 have b0:=dirs_len x.dirs
 obtain ⟨y1,y2,y3,v1,v2,v3,ex,a5,aQ,aV⟩:=Dq.Sel.opened hR
 obtain ⟨rfl,rfl,rfl,rfl,rfl,rfl⟩:a1=y1∧n1=v1∧a2=y2∧n2=v2∧a4=y3∧n4=v3:=by simpa [and_assoc] using ex
 clear ex hR
 obtain ⟨wb,F⟩:∃ q,q=(w.alloc (.cells #[.int .i64 x.kind,.string ⟨x.nick.toArray⟩,.string ⟨x.name.toArray⟩,.slice a1 x.args.length n1,.slice a2 x.dirs.length n2,.slice a4 x.sels.length n4,.int .i64 x.at_] 174)):=⟨_,rfl⟩
 have H0:Hid (WW w0 b s wb):=by rw[F];exact QA (h.alloc (.cells #[.int .i64 x.kind,.string ⟨x.nick.toArray⟩,.string ⟨x.name.toArray⟩,.slice a1 x.args.length n1,.slice a2 x.dirs.length n2,.slice a4 x.sels.length n4,.int .i64 x.at_] 174))
 have O0:Hid (OK8 b w wb):=by rw[F];exact QA ((Lib.OthersKept.refl 5 (some b) w).alloc _)
 have Z0:Hid (w.heap.size≤wb.heap.size):=by rw[F];exact QA (by simp)
 have E0:=QA (Vl.Eff.refl s)
 have Y:Hid (wb.heap[w.heap.size]?=some (.cells #[.int .i64 x.kind,.string ⟨x.nick.toArray⟩,.string ⟨x.name.toArray⟩,.slice a1 x.args.length n1,.slice a2 x.dirs.length n2,.slice a4 x.sels.length n4,.int .i64 x.at_] 174 (0,0))):=by rw[F];exact QA (box_at1_0 w _ _)
 have L:w.heap.size≠b:=by have:=h.lt;omega
 have bV:w.heap.size+1=wb.heap.size:=by rw[F];simp
 have aT:=QA F
 clear h F
 have bu:=QA a5
 have a8:=QA aQ
 have bx:=QA aV
 have HE:=QA hE
 have bf:=QA IH
 have q1:(x.kind==1)=true:=by rw[beq_iff_eq];exact hk
 have q2:(x.kind==2)=false:=by rw[beq_eq_false_iff_ne];omega
 have q3:(x.kind==3)=false:=by rw[beq_eq_false_iff_ne];omega
 have HG:Hid (x.good at_=(Dq.nmG x.nick&&(Lx.isName x.name&&(Dq.argsG at_ x.args&&(Dq.dirsG at_ x.dirs&&(decide (x.sels.length=0)||(decide (at_<16)&&Dq.Sel.goods (at_+1) x.sels))))))):=QA (by rw[Dq.Sel.good_eq,if_pos hk])
 have HT:Hid (x.txt=Dq.nmT x.nick [] [58,32]++(x.name++(Dq.argsT x.args++(Dq.dirsT x.dirs++(if x.sels.length=0 then [] else [32]++Dq.selsT x.sels))))):=QA (by rw[Dq.Sel.txt_eq,if_pos hk])
 obtain ⟨bn,bD⟩:∃ q,x.nick.isEmpty=q:=⟨_,rfl⟩
 obtain ⟨bm,bA⟩:∃ q,x.name.isEmpty=q:=⟨_,rfl⟩
 have C:Hid (decide (x.nick=[])=bn∧(bn=true↔x.nick=[])):=QA (by rw[← bD];cases x.nick<;>simp)
 have b4:Hid (decide (x.name=[])=bm∧(bm=true↔x.name=[])):=QA (by rw[← bA];cases x.name<;>simp)
 obtain ⟨ba,br⟩:∃ q,((x.args.length:Int)==0)=q:=⟨_,rfl⟩
 have b2:Hid (decide (x.args.length=0)=ba):=QA (by rw[← br];by_cases h:x.args.length=0<;>simp[h])
 obtain ⟨bl,bj⟩:∃ q,decide ((0:Int)<(x.sels.length:Int))=q:=⟨_,rfl⟩
 have B:decide (0<x.sels.length)=bl:=by rw[← bj,decide_eq_decide];omega
 have U:Hid (decide (x.sels.length=0)=!bl∧(bl=true↔x.sels.length≠0)):=QA (by rw[← B];by_cases h:x.sels.length=0<;>simp[h];omega)
 have bI:((x.sels.length:Int)==0)=!bl:=by
  by_cases h:x.sels.length=0
  ·rw[← B,h];rfl
  ·rw[← B,eqF (by omega),decide_eq_true (by omega)];rfl
 have bL:(x.sels.length==0)=!bl:=by
  by_cases h:x.sels.length=0
  ·rw[← B,h];rfl
  ·rw[← B,beq_eq_false_iff_ne.2 h,decide_eq_true (by omega)];rfl
 clear a5 aQ aV hE IH hk
 go_enter Tryz.func121,Tryz.ntmps121
 cases bn
 focus
  obtain ⟨E,D,I,H,J,K,G⟩:=blk7 Y.out rfl rfl rfl rfl rfl rfl rfl
  go_wp2_with fail
  rw[← aT.out]
  refine (wname_any w0 b s _ H0.out x.nick (by omega)).mono ?_
  rintro e w1 ⟨rfl,s1,h,e,o,z⟩
  have bq:=e.len
  try simp only[QO,QS,QZ] at bq
  have H1:=QA h
  have E1:=QA (E0.out.comp e)
  have O1:=QA (O0.out.trans o)
  have Z1:=QA (QR Z0.out z)
  have a0:=QA (ok8_at o Y.out L (by decide))
  clear E D I H J K G
  clear h e o z
  obtain ⟨aH,aI,aJ,aM,aL,aK,aD⟩:=blk7 a0.out rfl rfl rfl rfl rfl rfl rfl
  go_wp2_with fail
  refine (wputc w0 b s1 _ H1.out [58,32] (by show _+2≤_;omega)).mono ?_
  rintro e w2 ⟨rfl,s2,h,e,o,z⟩
  have bE:=e.len
  try simp only[QO,QS,QZ] at bE
  have H2:=QA h
  have E2:=QA (E1.out.comp e)
  have O2:=QA (O1.out.trans o)
  have Z2:=QA (QR Z1.out z)
  have bc:=QA (ok8_at o a0.out L (by decide))
  clear aH aI aJ aM aL aK aD
  clear h e o z
  obtain ⟨Z,T⟩:∃ q,q=w2:=⟨_,rfl⟩
  obtain ⟨s9,hs⟩:∃ q,q=s2:=⟨_,rfl⟩
  have H9:Hid (WW w0 b s9 Z):=by rw[hs,T];exact QA H2.out
  have E9:Hid (Vl.Eff s (Dq.nmG x.nick) (Dq.nmT x.nick [] [58,32]) (x.nick.length+2) s9):=by rw[hs];exact QA (E2.out.to (by first|(rw[Dq.nmG,C.out.1];simp)|(rw[Dq.nmT,if_neg (fun e=>absurd (C.out.2.2 e) (by simp))];simp)) (fun _=>by first|(rw[Dq.nmG,C.out.1];simp)|(rw[Dq.nmT,if_neg (fun e=>absurd (C.out.2.2 e) (by simp))];simp)) (by first|omega|(simp;done)|(simp;omega)))
  have O9:Hid (OK8 b w Z):=by rw[T];exact QA O2.out
  have Z9:Hid (w.heap.size≤Z.heap.size):=by rw[T];exact QA Z2.out
  have a6:s9.out.length≤s.out.length+(x.nick.length+2):=by rw[hs];omega
  have aE:Hid (Z.heap[w.heap.size]?=some (.cells #[.int .i64 x.kind,.string ⟨x.nick.toArray⟩,.string ⟨x.name.toArray⟩,.slice a1 x.args.length n1,.slice a2 x.dirs.length n2,.slice a4 x.sels.length n4,.int .i64 x.at_] 174 (0,0))):=by rw[T];exact QA bc.out
  rw[← T]
  clear T hs
 rotate_left
 focus
  obtain ⟨E,D,I,H,J,K,G⟩:=blk7 Y.out rfl rfl rfl rfl rfl rfl rfl
  go_wp2_with fail
  rw[← aT.out]
  clear E D I H J K G
  obtain ⟨Z,T⟩:∃ q,q=wb:=⟨_,rfl⟩
  obtain ⟨s9,hs⟩:∃ q,q=s:=⟨_,rfl⟩
  have H9:Hid (WW w0 b s9 Z):=by rw[hs,T];exact QA H0.out
  have E9:Hid (Vl.Eff s (Dq.nmG x.nick) (Dq.nmT x.nick [] [58,32]) (x.nick.length+2) s9):=by rw[hs];exact QA (E0.out.to (by first|(rw[Dq.nmG,C.out.1];rfl)|(rw[Dq.nmT,if_pos (C.out.2.1 (by trivial))])) (fun _=>by first|(rw[Dq.nmG,C.out.1];rfl)|(rw[Dq.nmT,if_pos (C.out.2.1 (by trivial))])) (by first|omega|(simp;done)|(simp;omega)))
  have O9:Hid (OK8 b w Z):=by rw[T];exact QA O0.out
  have Z9:Hid (w.heap.size≤Z.heap.size):=by rw[T];exact QA Z0.out
  have a6:s9.out.length≤s.out.length+(x.nick.length+2):=by rw[hs];omega
  have aE:Hid (Z.heap[w.heap.size]?=some (.cells #[.int .i64 x.kind,.string ⟨x.nick.toArray⟩,.string ⟨x.name.toArray⟩,.slice a1 x.args.length n1,.slice a2 x.dirs.length n2,.slice a4 x.sels.length n4,.int .i64 x.at_] 174 (0,0))):=by rw[T];exact QA Y.out
  rw[← T]
  clear T hs
 all_goals
  obtain ⟨aF,az,aA,aG,aN,aB,aC⟩:=blk7 aE.out rfl rfl rfl rfl rfl rfl rfl
  go_wp2_with fail
  refine (wname_any w0 b s9 _ H9.out x.name (by omega)).mono ?_
  rintro e w10 ⟨rfl,s10,h,e,o,z⟩
  have a3:=e.len
  try simp only[QO,QS,QZ] at a3
  have bz:=QA h
  have bt:=QA (E9.out.comp e)
  have bs:=QA (O9.out.trans o)
  have bg:=QA (QR Z9.out z)
  have aw:=QA (ok8_at o aE.out L (by decide))
  clear aF az aA aG aN aB aC
  clear h e o z
  obtain ⟨ap,ar,X,ac,ak,ab,ai⟩:=blk7 aw.out rfl rfl rfl rfl rfl rfl rfl
  go_wp2_with fail
  refine (wargs_any w0 b HE.out h3 x.args at_ (by omega) a1 n1 bu.out (by omega) s10 _ bz.out (by omega)).mono ?_
  rintro e w11 ⟨rfl,s11,h,e,o,z⟩
  have aS:=e.len
  try simp only[QO,QS,QZ] at aS
  have bv:=QA h
  have bB:=QA (bt.out.comp e)
  have be:=QA (bs.out.trans o)
  have bo:=QA (QR bg.out z)
  have av:=QA (ok8_at o aw.out L (by decide))
  clear ap ar X ac ak ab ai
  clear h e o z
  obtain ⟨al,an,ae,V,au,am,ah⟩:=blk7 av.out rfl rfl rfl rfl rfl rfl rfl
  go_wp2_with fail
  refine (wdirs_any w0 b HE.out h3 x.dirs at_ (by omega) a2 n2 a8.out (by omega) (by omega) s11 _ bv.out (by omega)).mono ?_
  rintro e w12 ⟨rfl,s12,h,e,o,z⟩
  have aU:=e.len
  try simp only[QO,QS,QZ] at aU
  have aR:=QA h
  have aY:=QA (bB.out.comp e)
  have aP:=QA (be.out.trans o)
  have aW:=QA (QR bo.out z)
  have A:=QA (ok8_at o av.out L (by decide))
  clear al an ae V au am ah
  clear h e o z
  cases bl
  ·have R:=blk_cell A.out 0 (.int .i64 x.kind) rfl
   have N:=blk_cell A.out 1 (.string ⟨x.nick.toArray⟩) rfl
   have Q:=blk_cell A.out 2 (.string ⟨x.name.toArray⟩) rfl
   have O:=blk_cell A.out 3 (.slice a1 x.args.length n1) rfl
   have S:=blk_cell A.out 4 (.slice a2 x.dirs.length n2) rfl
   have P:=blk_cell A.out 5 (.slice a4 x.sels.length n4) rfl
   have M:=blk_cell A.out 6 (.int .i64 x.at_) rfl
   go_wp2_with fail
   go_end0
   exact ⟨rfl,s12,aR.out,aY.out.to (by rw[HG.out,U.out.1];simp[Bool.and_assoc]) (fun _=>by rw[HT.out,if_pos (by have:=U.out.1;simpa using this)];simp) (by omega),aP.out,aW.out⟩
  ·have R:=blk_cell A.out 0 (.int .i64 x.kind) rfl
   have N:=blk_cell A.out 1 (.string ⟨x.nick.toArray⟩) rfl
   have Q:=blk_cell A.out 2 (.string ⟨x.name.toArray⟩) rfl
   have O:=blk_cell A.out 3 (.slice a1 x.args.length n1) rfl
   have S:=blk_cell A.out 4 (.slice a2 x.dirs.length n2) rfl
   have P:=blk_cell A.out 5 (.slice a4 x.sels.length n4) rfl
   have M:=blk_cell A.out 6 (.int .i64 x.at_) rfl
   go_wp2_with fail
   refine (wputc w0 b s12 _ aR.out [32] (by show _+1≤_;omega)).mono ?_
   rintro e w13 ⟨rfl,s13,h,e,o,z⟩
   have aX:=e.len
   try simp only[QO,QS,QZ] at aX
   have a9:=QA h
   have bd:=QA (aY.out.comp e)
   have bw:=QA (aP.out.trans o)
   have bi:=QA (QR aW.out z)
   have ay:=QA (ok8_at o A.out L (by decide))
   clear R N Q O S P M
   clear h e o z
   obtain ⟨aq,ag,aj,ad,W,ao,aa⟩:=blk7 ay.out rfl rfl rfl rfl rfl rfl rfl
   go_wp2_with fail
   refine (bf.out x.sels a4 n4 bx.out (by omega) s13 _ a9.out (by omega)).mono ?_
   rintro e w14 ⟨rfl,s14,h,e,o,z⟩
   have aZ:=e.len
   try simp only[QO,QS,QZ] at aZ
   have bC:=QA h
   have a7:=QA (bd.out.comp e)
   have bk:=QA (bw.out.trans o)
   have bh:=QA (QR bi.out z)
   have bS:=QA (ok8_at o ay.out L (by decide))
   clear aq ag aj ad W ao aa
   clear h e o z
   go_wp2_with fail
   go_end0
   exact ⟨rfl,s14,bC.out,a7.out.to (by rw[HG.out,U.out.1];unfold Dq.selsG;rw[decide_eq_true (show 0<x.sels.length by have:=U.out.2.1 (by trivial);omega)];simp[Bool.and_assoc]) (fun _=>by rw[HT.out,if_neg (U.out.2.1 (by trivial))];simp) (by simp;omega),bk.out,bh.out⟩
set_option maxHeartbeats 2000000 in
set_option maxRecDepth 100000 in
theorem wsel2 (w0:World) (b:Nat) (hE:Env w0) (h3:3≤w0.heap.size) (at_:Nat) (hat:at_≤16) (IH:WSels w0 b at_) (x:Dq.Sel) (hk:x.kind=2) (a1 a2 a4:Option Addr) (n1 n2 n4:Nat) (hR:Reads w0 (fun _=>True) x.d [.int .i64 x.kind,.string ⟨x.nick.toArray⟩,.string ⟨x.name.toArray⟩,.slice a1 x.args.length n1,.slice a2 x.dirs.length n2,.slice a4 x.sels.length n4,.int .i64 x.at_]) (hc:x.cost≤1000000000) (s:Vl.Sh) (w:World) (h:WW w0 b s w) (hl:s.out.length+x.cost≤1000000000000) :
  Calls Tryz.prog 121 #[.pointer (some ⟨b,0,none⟩),.agg #[.int .i64 x.kind,.string ⟨x.nick.toArray⟩,.string ⟨x.name.toArray⟩,.slice a1 x.args.length n1,.slice a2 x.dirs.length n2,.slice a4 x.sels.length n4,.int .i64 x.at_],.int .i64 at_] w (WPost w0 b s w (x.good at_) x.txt x.cost):=by
 have br:=Dq.Sel.cost_eq x
 have bb:=dirs_len x.dirs
 obtain ⟨y1,y2,y3,v1,v2,v3,ex,am,ag,ai⟩:=Dq.Sel.opened hR
 obtain ⟨rfl,rfl,rfl,rfl,rfl,rfl⟩:a1=y1∧n1=v1∧a2=y2∧n2=v2∧a4=y3∧n4=v3:=by simpa [and_assoc] using ex
 clear ex hR
 obtain ⟨wb,B⟩:∃ q,q=(w.alloc (.cells #[.int .i64 x.kind,.string ⟨x.nick.toArray⟩,.string ⟨x.name.toArray⟩,.slice a1 x.args.length n1,.slice a2 x.dirs.length n2,.slice a4 x.sels.length n4,.int .i64 x.at_] 174)):=⟨_,rfl⟩
 have H0:Hid (WW w0 b s wb):=by rw[B];exact QA (h.alloc (.cells #[.int .i64 x.kind,.string ⟨x.nick.toArray⟩,.string ⟨x.name.toArray⟩,.slice a1 x.args.length n1,.slice a2 x.dirs.length n2,.slice a4 x.sels.length n4,.int .i64 x.at_] 174))
 have O0:Hid (OK8 b w wb):=by rw[B];exact QA ((Lib.OthersKept.refl 5 (some b) w).alloc _)
 have Z0:Hid (w.heap.size≤wb.heap.size):=by rw[B];exact QA (by simp)
 have E0:=QA (Vl.Eff.refl s)
 have ak:Hid (wb.heap[w.heap.size]?=some (.cells #[.int .i64 x.kind,.string ⟨x.nick.toArray⟩,.string ⟨x.name.toArray⟩,.slice a1 x.args.length n1,.slice a2 x.dirs.length n2,.slice a4 x.sels.length n4,.int .i64 x.at_] 174 (0,0))):=by rw[B];exact QA (box_at1_0 w _ _)
 have C:w.heap.size≠b:=by have:=h.lt;omega
 have aT:w.heap.size+1=wb.heap.size:=by rw[B];simp
 have ar:=QA B
 clear h B
 have bx:=QA am
 have an:=QA ag
 have bD:=QA ai
 have HE:=QA hE
 have a8:=QA IH
 have q1:(x.kind==1)=false:=by rw[beq_eq_false_iff_ne];omega
 have q2:(x.kind==2)=true:=by rw[beq_iff_eq];exact hk
 have q3:(x.kind==3)=false:=by rw[beq_eq_false_iff_ne];omega
 have HG:Hid (x.good at_=((Lx.isName x.name&&((decide (x.name≠[111,110])&&decide (x.sels.length=0))&&Dq.dirsG at_ x.dirs))&&(decide (x.nick=[])&&decide (x.args.length=0)))):=QA (by rw[Dq.Sel.good_eq,if_neg (by omega),if_pos hk])
 have HT:Hid (x.txt=[46,46,46]++(x.name++Dq.dirsT x.dirs)):=QA (by rw[Dq.Sel.txt_eq,if_neg (by omega),if_pos hk])
 obtain ⟨bn,aL⟩:∃ q,x.nick.isEmpty=q:=⟨_,rfl⟩
 obtain ⟨bm,aJ⟩:∃ q,x.name.isEmpty=q:=⟨_,rfl⟩
 have aI:Hid (decide (x.nick=[])=bn∧(bn=true↔x.nick=[])):=QA (by rw[← aL];cases x.nick<;>simp)
 have bk:Hid (decide (x.name=[])=bm∧(bm=true↔x.name=[])):=QA (by rw[← aJ];cases x.name<;>simp)
 obtain ⟨ba,aC⟩:∃ q,((x.args.length:Int)==0)=q:=⟨_,rfl⟩
 have az:Hid (decide (x.args.length=0)=ba):=QA (by rw[← aC];by_cases h:x.args.length=0<;>simp[h])
 obtain ⟨bl,ay⟩:∃ q,decide ((0:Int)<(x.sels.length:Int))=q:=⟨_,rfl⟩
 have A:decide (0<x.sels.length)=bl:=by rw[← ay,decide_eq_decide];omega
 have aH:Hid (decide (x.sels.length=0)=!bl∧(bl=true↔x.sels.length≠0)):=QA (by rw[← A];by_cases h:x.sels.length=0<;>simp[h];omega)
 have aP:((x.sels.length:Int)==0)=!bl:=by
  by_cases h:x.sels.length=0
  ·rw[← A,h];rfl
  ·rw[← A,eqF (by omega),decide_eq_true (by omega)];rfl
 have aQ:(x.sels.length==0)=!bl:=by
  by_cases h:x.sels.length=0
  ·rw[← A,h];rfl
  ·rw[← A,beq_eq_false_iff_ne.2 h,decide_eq_true (by omega)];rfl
 clear am ag ai hE IH hk
 obtain ⟨bo,aD⟩:∃ q,(x.name==[111,110])=q:=⟨_,rfl⟩
 have au:Hid (decide (x.name≠[111,110])=!bo):=QA (by rw[← aD];by_cases h:x.name=[111,110]<;>simp[h])
 go_enter Tryz.func121,Tryz.ntmps121
 obtain ⟨H,G,M,J,P,R,I⟩:=blk7 ak.out rfl rfl rfl rfl rfl rfl rfl
 go_wp2_with fail
 rw[← ar.out]
 refine (wputc w0 b s _ H0.out [46,46,46] (by show _+3≤_;omega)).mono ?_
 rintro e w1 ⟨rfl,s1,h,e,o,z⟩
 have aB:=e.len
 try simp only[QO,QS,QZ] at aB
 have H1:=QA h
 have E1:=QA (E0.out.comp e)
 have O1:=QA (O0.out.trans o)
 have Z1:=QA (QR Z0.out z)
 have al:=QA (ok8_at o ak.out C (by decide))
 clear H G M J P R I
 clear h e o z
 obtain ⟨Q,S,T,ad,ab,Y,K⟩:=blk7 al.out rfl rfl rfl rfl rfl rfl rfl
 go_wp2_with fail
 refine (wname_any w0 b s1 _ H1.out x.name (by omega)).mono ?_
 rintro e w2 ⟨rfl,s2,h,e,o,z⟩
 have aM:=e.len
 try simp only[QO,QS,QZ] at aM
 have H2:=QA h
 have E2:=QA (E1.out.comp e)
 have O2:=QA (O1.out.trans o)
 have Z2:=QA (QR Z1.out z)
 have aj:=QA (ok8_at o al.out C (by decide))
 clear Q S T ad ab Y K
 clear h e o z
 obtain ⟨aa,V,X,U,Z,N,ae⟩:=blk7 aj.out rfl rfl rfl rfl rfl rfl rfl
 cases bo<;>cases bl
 all_goals
  go_wp2_with fail
  refine (H2.out.need _).mono ?_
  rintro e w3 ⟨rfl,s3,h,e,o,z⟩
  have bj:=e.len
  have H3:=QA h
  have E3:Hid (Vl.Eff s (Lx.isName x.name&&(decide (x.name≠[111,110])&&decide (x.sels.length=0))) ([46,46,46]++x.name) (3+x.name.length) s3):=QA ((E2.out.comp e).to (by rw[au.out,aH.out.1];simp) (fun _=>by simp) (by simp))
  have O3:=QA (O2.out.trans o)
  have Z3:=QA (QR Z2.out z)
  have ah:=QA (ok8_at o aj.out C (by decide))
  clear aa V X U Z N ae
  clear h e o z
  obtain ⟨O,ac,E,D,F,W,L⟩:=blk7 ah.out rfl rfl rfl rfl rfl rfl rfl
  go_wp2_with fail
  refine (wdirs_any w0 b HE.out h3 x.dirs at_ (by omega) a2 n2 an.out (by omega) (by omega) s3 _ H3.out (by omega)).mono ?_
  rintro e w4 ⟨rfl,s4,h,e,o,z⟩
  have aF:=e.len
  try simp only[QO,QS,QZ] at aF
  have H4:=QA h
  have E4:=QA (E3.out.comp e)
  have O4:=QA (O3.out.trans o)
  have Z4:=QA (QR Z3.out z)
  have ax:=QA (ok8_at o ah.out C (by decide))
  clear O ac E D F W L
  clear h e o z
  obtain ⟨aG,aq,av,aK,ap,aw,aE⟩:=blk7 ax.out rfl rfl rfl rfl rfl rfl rfl
  cases bn<;>cases ba
  all_goals
   go_wp2_with fail
   refine (H4.out.need _).mono ?_
   rintro e w5 ⟨rfl,s5,h,e,o,z⟩
   have H5:=QA h
   have E5:=QA (E4.out.comp e)
   have O5:=QA (O4.out.trans o)
   have Z5:=QA (QR Z4.out z)
   clear h e o z
   go_wp2_with fail
   go_end0
   exact ⟨rfl,s5,H5.out,E5.out.to (by first|(rw[HG.out,aI.out.1,az.out];simp[Bool.and_assoc];done)|(rw[HG.out];rfl)) (fun hgg=>by rw[HT.out];first|done|simp) (by first|(simp;done)|(simp;omega)),O5.out,Z5.out⟩
set_option maxHeartbeats 2000000 in
set_option maxRecDepth 100000 in
theorem wsel3 (w0:World) (b:Nat) (hE:Env w0) (h3:3≤w0.heap.size) (at_:Nat) (hat:at_≤16) (IH:WSels w0 b at_) (x:Dq.Sel) (hk:x.kind=3) (a1 a2 a4:Option Addr) (n1 n2 n4:Nat) (hR:Reads w0 (fun _=>True) x.d [.int .i64 x.kind,.string ⟨x.nick.toArray⟩,.string ⟨x.name.toArray⟩,.slice a1 x.args.length n1,.slice a2 x.dirs.length n2,.slice a4 x.sels.length n4,.int .i64 x.at_]) (hc:x.cost≤1000000000) (s:Vl.Sh) (w:World) (h:WW w0 b s w) (hl:s.out.length+x.cost≤1000000000000) :
  Calls Tryz.prog 121 #[.pointer (some ⟨b,0,none⟩),.agg #[.int .i64 x.kind,.string ⟨x.nick.toArray⟩,.string ⟨x.name.toArray⟩,.slice a1 x.args.length n1,.slice a2 x.dirs.length n2,.slice a4 x.sels.length n4,.int .i64 x.at_],.int .i64 at_] w (WPost w0 b s w (x.good at_) x.txt x.cost):=by
 have b0:=Dq.Sel.cost_eq x
 have bU:=dirs_len x.dirs
 obtain ⟨y1,y2,y3,v1,v2,v3,ex,aN,aF,aI⟩:=Dq.Sel.opened hR
 obtain ⟨rfl,rfl,rfl,rfl,rfl,rfl⟩:a1=y1∧n1=v1∧a2=y2∧n2=v2∧a4=y3∧n4=v3:=by simpa [and_assoc] using ex
 clear ex hR
 obtain ⟨wb,C⟩:∃ q,q=(w.alloc (.cells #[.int .i64 x.kind,.string ⟨x.nick.toArray⟩,.string ⟨x.name.toArray⟩,.slice a1 x.args.length n1,.slice a2 x.dirs.length n2,.slice a4 x.sels.length n4,.int .i64 x.at_] 174)):=⟨_,rfl⟩
 have H0:Hid (WW w0 b s wb):=by rw[C];exact QA (h.alloc (.cells #[.int .i64 x.kind,.string ⟨x.nick.toArray⟩,.string ⟨x.name.toArray⟩,.slice a1 x.args.length n1,.slice a2 x.dirs.length n2,.slice a4 x.sels.length n4,.int .i64 x.at_] 174))
 have O0:Hid (OK8 b w wb):=by rw[C];exact QA ((Lib.OthersKept.refl 5 (some b) w).alloc _)
 have Z0:Hid (w.heap.size≤wb.heap.size):=by rw[C];exact QA (by simp)
 have E0:=QA (Vl.Eff.refl s)
 have aK:Hid (wb.heap[w.heap.size]?=some (.cells #[.int .i64 x.kind,.string ⟨x.nick.toArray⟩,.string ⟨x.name.toArray⟩,.slice a1 x.args.length n1,.slice a2 x.dirs.length n2,.slice a4 x.sels.length n4,.int .i64 x.at_] 174 (0,0))):=by rw[C];exact QA (box_at1_0 w _ _)
 have L:w.heap.size≠b:=by have:=h.lt;omega
 have bN:w.heap.size+1=wb.heap.size:=by rw[C];simp
 have a3:=QA C
 clear h C
 have b5:=QA aN
 have aW:=QA aF
 have bs:=QA aI
 have HE:=QA hE
 have a9:=QA IH
 have q1:(x.kind==1)=false:=by rw[beq_eq_false_iff_ne];omega
 have q2:(x.kind==2)=false:=by rw[beq_eq_false_iff_ne];omega
 have q3:(x.kind==3)=true:=by rw[beq_iff_eq];exact hk
 have HG:Hid (x.good at_=((Dq.nmG x.name&&(Dq.dirsG at_ x.dirs&&Dq.selsG at_ x.sels))&&(decide (x.nick=[])&&decide (x.args.length=0)))):=QA (by rw[Dq.Sel.good_eq,if_neg (by omega),if_neg (by omega),if_pos hk])
 have HT:Hid (x.txt=[46,46,46]++(Dq.nmT x.name [32,111,110,32] []++(Dq.dirsT x.dirs++([32]++Dq.selsT x.sels)))):=QA (by rw[Dq.Sel.txt_eq,if_neg (by omega),if_neg (by omega),if_pos hk])
 obtain ⟨bn,bx⟩:∃ q,x.nick.isEmpty=q:=⟨_,rfl⟩
 obtain ⟨bm,bv⟩:∃ q,x.name.isEmpty=q:=⟨_,rfl⟩
 have bu:Hid (decide (x.nick=[])=bn∧(bn=true↔x.nick=[])):=QA (by rw[← bx];cases x.nick<;>simp)
 have B:Hid (decide (x.name=[])=bm∧(bm=true↔x.name=[])):=QA (by rw[← bv];cases x.name<;>simp)
 obtain ⟨ba,bj⟩:∃ q,((x.args.length:Int)==0)=q:=⟨_,rfl⟩
 have be:Hid (decide (x.args.length=0)=ba):=QA (by rw[← bj];by_cases h:x.args.length=0<;>simp[h])
 obtain ⟨bl,bd⟩:∃ q,decide ((0:Int)<(x.sels.length:Int))=q:=⟨_,rfl⟩
 have A:decide (0<x.sels.length)=bl:=by rw[← bd,decide_eq_decide];omega
 have b6:Hid (decide (x.sels.length=0)=!bl∧(bl=true↔x.sels.length≠0)):=QA (by rw[← A];by_cases h:x.sels.length=0<;>simp[h];omega)
 have bD:((x.sels.length:Int)==0)=!bl:=by
  by_cases h:x.sels.length=0
  ·rw[← A,h];rfl
  ·rw[← A,eqF (by omega),decide_eq_true (by omega)];rfl
 have bH:(x.sels.length==0)=!bl:=by
  by_cases h:x.sels.length=0
  ·rw[← A,h];rfl
  ·rw[← A,beq_eq_false_iff_ne.2 h,decide_eq_true (by omega)];rfl
 clear aN aF aI hE IH hk
 go_enter Tryz.func121,Tryz.ntmps121
 obtain ⟨ak,aj,ao,an,au,aw,am⟩:=blk7 aK.out rfl rfl rfl rfl rfl rfl rfl
 go_wp2_with fail
 rw[← a3.out]
 refine (wputc w0 b s _ H0.out [46,46,46] (by show _+3≤_;omega)).mono ?_
 rintro e w1 ⟨rfl,s1,h,e,o,z⟩
 have bi:=e.len
 try simp only[QO,QS,QZ] at bi
 have H1:=QA h
 have E1:=QA (E0.out.comp e)
 have O1:=QA (O0.out.trans o)
 have Z1:=QA (QR Z0.out z)
 have Y:=QA (ok8_at o aK.out L (by decide))
 clear ak aj ao an au aw am
 clear h e o z
 cases bm
 focus
  obtain ⟨E,F,G,J,I,H,D⟩:=blk7 Y.out rfl rfl rfl rfl rfl rfl rfl
  go_wp2_with fail
  refine (wputc w0 b s1 _ H1.out [32,111,110,32] (by show _+4≤_;omega)).mono ?_
  rintro e w2 ⟨rfl,s2,h,e,o,z⟩
  have bz:=e.len
  try simp only[QO,QS,QZ] at bz
  have H2:=QA h
  have E2:=QA (E1.out.comp e)
  have O2:=QA (O1.out.trans o)
  have Z2:=QA (QR Z1.out z)
  have aJ:=QA (ok8_at o Y.out L (by decide))
  clear E F G J I H D
  clear h e o z
  obtain ⟨aB,ay,az,ax,aA,ap,aC⟩:=blk7 aJ.out rfl rfl rfl rfl rfl rfl rfl
  go_wp2_with fail
  refine (wname_any w0 b s2 _ H2.out x.name (by omega)).mono ?_
  rintro e w3 ⟨rfl,s3,h,e,o,z⟩
  have bh:=e.len
  try simp only[QO,QS,QZ] at bh
  have H3:=QA h
  have E3:=QA (E2.out.comp e)
  have O3:=QA (O2.out.trans o)
  have Z3:=QA (QR Z2.out z)
  have a5:=QA (ok8_at o aJ.out L (by decide))
  clear aB ay az ax aA ap aC
  clear h e o z
  obtain ⟨O,K⟩:∃ q,q=w3:=⟨_,rfl⟩
  obtain ⟨s9,S⟩:∃ q,q=s3:=⟨_,rfl⟩
  have H9:Hid (WW w0 b s9 O):=by rw[S,K];exact QA H3.out
  have E9:Hid (Vl.Eff s (Dq.nmG x.name) ([46,46,46]++Dq.nmT x.name [32,111,110,32] []) (7+x.name.length) s9):=by rw[S];exact QA (E3.out.to (by first|(rw[Dq.nmG,B.out.1];simp)|(rw[Dq.nmT,if_neg (fun e=>absurd (B.out.2.2 e) (by simp))];simp)) (fun _=>by first|(rw[Dq.nmG,B.out.1];simp)|(rw[Dq.nmT,if_neg (fun e=>absurd (B.out.2.2 e) (by simp))];simp)) (by first|omega|(simp;done)|(simp;omega)))
  have O9:Hid (OK8 b w O):=by rw[K];exact QA O3.out
  have Z9:Hid (w.heap.size≤O.heap.size):=by rw[K];exact QA Z3.out
  have aV:s9.out.length≤s.out.length+(7+x.name.length):=by rw[S];omega
  have aq:Hid (O.heap[w.heap.size]?=some (.cells #[.int .i64 x.kind,.string ⟨x.nick.toArray⟩,.string ⟨x.name.toArray⟩,.slice a1 x.args.length n1,.slice a2 x.dirs.length n2,.slice a4 x.sels.length n4,.int .i64 x.at_] 174 (0,0))):=by rw[K];exact QA a5.out
  rw[← K]
  clear K S
 rotate_left
 focus
  obtain ⟨E,F,G,J,I,H,D⟩:=blk7 Y.out rfl rfl rfl rfl rfl rfl rfl
  go_wp2_with fail
  clear E F G J I H D
  obtain ⟨O,K⟩:∃ q,q=w1:=⟨_,rfl⟩
  obtain ⟨s9,S⟩:∃ q,q=s1:=⟨_,rfl⟩
  have H9:Hid (WW w0 b s9 O):=by rw[S,K];exact QA H1.out
  have E9:Hid (Vl.Eff s (Dq.nmG x.name) ([46,46,46]++Dq.nmT x.name [32,111,110,32] []) (7+x.name.length) s9):=by rw[S];exact QA (E1.out.to (by first|(rw[Dq.nmG,B.out.1];rfl)|(rw[Dq.nmT,if_pos (B.out.2.1 (by trivial))];simp)) (fun _=>by first|(rw[Dq.nmG,B.out.1];rfl)|(rw[Dq.nmT,if_pos (B.out.2.1 (by trivial))];simp)) (by first|omega|(simp;done)|(simp;omega)))
  have O9:Hid (OK8 b w O):=by rw[K];exact QA O1.out
  have Z9:Hid (w.heap.size≤O.heap.size):=by rw[K];exact QA Z1.out
  have aV:s9.out.length≤s.out.length+(7+x.name.length):=by rw[S];omega
  have aq:Hid (O.heap[w.heap.size]?=some (.cells #[.int .i64 x.kind,.string ⟨x.nick.toArray⟩,.string ⟨x.name.toArray⟩,.slice a1 x.args.length n1,.slice a2 x.dirs.length n2,.slice a4 x.sels.length n4,.int .i64 x.at_] 174 (0,0))):=by rw[K];exact QA Y.out
  rw[← K]
  clear K S
 all_goals
  obtain ⟨ar,ag,ah,av,aD,ai,al⟩:=blk7 aq.out rfl rfl rfl rfl rfl rfl rfl
  go_wp2_with fail
  refine (wdirs_any w0 b HE.out h3 x.dirs at_ (by omega) a2 n2 aW.out (by omega) (by omega) s9 _ H9.out (by omega)).mono ?_
  rintro e w10 ⟨rfl,s10,h,e,o,z⟩
  have aL:=e.len
  try simp only[QO,QS,QZ] at aL
  have bt:=QA h
  have bp:=QA (E9.out.comp e)
  have bk:=QA (O9.out.trans o)
  have bb:=QA (QR Z9.out z)
  have ae:=QA (ok8_at o aq.out L (by decide))
  clear ar ag ah av aD ai al
  clear h e o z
  obtain ⟨aa,ab,N,Q,V,P,U⟩:=blk7 ae.out rfl rfl rfl rfl rfl rfl rfl
  go_wp2_with fail
  refine (wputc w0 b s10 _ bt.out [32] (by show _+1≤_;omega)).mono ?_
  rintro e w11 ⟨rfl,s11,h,e,o,z⟩
  have aG:=e.len
  try simp only[QO,QS,QZ] at aG
  have bq:=QA h
  have bw:=QA (bp.out.comp e)
  have a8:=QA (bk.out.trans o)
  have bf:=QA (QR bb.out z)
  have ad:=QA (ok8_at o ae.out L (by decide))
  clear aa ab N Q V P U
  clear h e o z
  obtain ⟨W,Z,R,M,ac,X,T⟩:=blk7 ad.out rfl rfl rfl rfl rfl rfl rfl
  go_wp2_with fail
  refine (a9.out x.sels a4 n4 bs.out (by omega) s11 _ bq.out (by omega)).mono ?_
  rintro e w12 ⟨rfl,s12,h,e,o,z⟩
  have aH:=e.len
  try simp only[QO,QS,QZ] at aH
  have a0:=QA h
  have bo:=QA (bw.out.comp e)
  have aY:=QA (a8.out.trans o)
  have a6:=QA (QR bf.out z)
  have aM:=QA (ok8_at o ad.out L (by decide))
  clear W Z R M ac X T
  clear h e o z
  obtain ⟨aT,aP,aS,aQ,aU,aR,aO⟩:=blk7 aM.out rfl rfl rfl rfl rfl rfl rfl
  cases bn<;>cases ba
  all_goals
   go_wp2_with fail
   refine (a0.out.need _).mono ?_
   rintro e w13 ⟨rfl,s13,h,e,o,z⟩
   have aX:=QA h
   have a7:=QA (bo.out.comp e)
   have br:=QA (aY.out.trans o)
   have bc:=QA (QR a6.out z)
   clear h e o z
   go_wp2_with fail
   go_end0
   exact ⟨rfl,s13,aX.out,a7.out.to (by first|(rw[HG.out,bu.out.1,be.out];simp[Bool.and_assoc];done)|(rw[HG.out];rfl)) (fun hgg=>by rw[HT.out];first|done|simp) (by first|(simp;done)|(simp;omega)),br.out,bc.out⟩
set_option maxHeartbeats 2000000 in
set_option maxRecDepth 100000 in
theorem wsel0 (w0:World) (b:Nat) (hE:Env w0) (h3:3≤w0.heap.size) (at_:Nat) (hat:at_≤16) (IH:WSels w0 b at_) (x:Dq.Sel) (hk:¬ (x.kind=1∨x.kind=2∨x.kind=3)) (a1 a2 a4:Option Addr) (n1 n2 n4:Nat) (hR:Reads w0 (fun _=>True) x.d [.int .i64 x.kind,.string ⟨x.nick.toArray⟩,.string ⟨x.name.toArray⟩,.slice a1 x.args.length n1,.slice a2 x.dirs.length n2,.slice a4 x.sels.length n4,.int .i64 x.at_]) (hc:x.cost≤1000000000) (s:Vl.Sh) (w:World) (h:WW w0 b s w) (hl:s.out.length+x.cost≤1000000000000) :
  Calls Tryz.prog 121 #[.pointer (some ⟨b,0,none⟩),.agg #[.int .i64 x.kind,.string ⟨x.nick.toArray⟩,.string ⟨x.name.toArray⟩,.slice a1 x.args.length n1,.slice a2 x.dirs.length n2,.slice a4 x.sels.length n4,.int .i64 x.at_],.int .i64 at_] w (WPost w0 b s w (x.good at_) x.txt x.cost):=by
 have ay:=Dq.Sel.cost_eq x
 have aD:=dirs_len x.dirs
 obtain ⟨y1,y2,y3,v1,v2,v3,ex,N,L,M⟩:=Dq.Sel.opened hR
 obtain ⟨rfl,rfl,rfl,rfl,rfl,rfl⟩:a1=y1∧n1=v1∧a2=y2∧n2=v2∧a4=y3∧n4=v3:=by simpa [and_assoc] using ex
 clear ex hR
 obtain ⟨K,B⟩:∃ q,q=(w.alloc (.cells #[.int .i64 x.kind,.string ⟨x.nick.toArray⟩,.string ⟨x.name.toArray⟩,.slice a1 x.args.length n1,.slice a2 x.dirs.length n2,.slice a4 x.sels.length n4,.int .i64 x.at_] 174)):=⟨_,rfl⟩
 have H0:Hid (WW w0 b s K):=by rw[B];exact QA (h.alloc (.cells #[.int .i64 x.kind,.string ⟨x.nick.toArray⟩,.string ⟨x.name.toArray⟩,.slice a1 x.args.length n1,.slice a2 x.dirs.length n2,.slice a4 x.sels.length n4,.int .i64 x.at_] 174))
 have O0:Hid (OK8 b w K):=by rw[B];exact QA ((Lib.OthersKept.refl 5 (some b) w).alloc _)
 have Z0:Hid (w.heap.size≤K.heap.size):=by rw[B];exact QA (by simp)
 have E0:=QA (Vl.Eff.refl s)
 have J:Hid (K.heap[w.heap.size]?=some (.cells #[.int .i64 x.kind,.string ⟨x.nick.toArray⟩,.string ⟨x.name.toArray⟩,.slice a1 x.args.length n1,.slice a2 x.dirs.length n2,.slice a4 x.sels.length n4,.int .i64 x.at_] 174 (0,0))):=by rw[B];exact QA (box_at1_0 w _ _)
 have Y:w.heap.size≠b:=by have:=h.lt;omega
 have ap:w.heap.size+1=K.heap.size:=by rw[B];simp
 have W:=QA B
 clear h B
 have aM:=QA N
 have am:=QA L
 have aH:=QA M
 have HE:=QA hE
 have aB:=QA IH
 have q1:(x.kind==1)=false:=by rw[beq_eq_false_iff_ne];omega
 have q2:(x.kind==2)=false:=by rw[beq_eq_false_iff_ne];omega
 have q3:(x.kind==3)=false:=by rw[beq_eq_false_iff_ne];omega
 have HG:Hid (x.good at_=(false)):=QA (by rw[Dq.Sel.good_eq,if_neg (by omega),if_neg (by omega),if_neg (by omega)])
 have HT:Hid (x.txt=[]):=QA (by rw[Dq.Sel.txt_eq,if_neg (by omega),if_neg (by omega),if_neg (by omega)])
 obtain ⟨bn,V⟩:∃ q,x.nick.isEmpty=q:=⟨_,rfl⟩
 obtain ⟨bm,aa⟩:∃ q,x.name.isEmpty=q:=⟨_,rfl⟩
 have Z:Hid (decide (x.nick=[])=bn∧(bn=true↔x.nick=[])):=QA (by rw[← V];cases x.nick<;>simp)
 have ar:Hid (decide (x.name=[])=bm∧(bm=true↔x.name=[])):=QA (by rw[← aa];cases x.name<;>simp)
 obtain ⟨ba,Q⟩:∃ q,((x.args.length:Int)==0)=q:=⟨_,rfl⟩
 have ad:Hid (decide (x.args.length=0)=ba):=QA (by rw[← Q];by_cases h:x.args.length=0<;>simp[h])
 obtain ⟨bl,ac⟩:∃ q,decide ((0:Int)<(x.sels.length:Int))=q:=⟨_,rfl⟩
 have A:decide (0<x.sels.length)=bl:=by rw[← ac,decide_eq_decide];omega
 have aO:Hid (decide (x.sels.length=0)=!bl∧(bl=true↔x.sels.length≠0)):=QA (by rw[← A];by_cases h:x.sels.length=0<;>simp[h];omega)
 have ag:((x.sels.length:Int)==0)=!bl:=by
  by_cases h:x.sels.length=0
  ·rw[← A,h];rfl
  ·rw[← A,eqF (by omega),decide_eq_true (by omega)];rfl
 have al:(x.sels.length==0)=!bl:=by
  by_cases h:x.sels.length=0
  ·rw[← A,h];rfl
  ·rw[← A,beq_eq_false_iff_ne.2 h,decide_eq_true (by omega)];rfl
 clear N L M hE IH hk
 go_enter Tryz.func121,Tryz.ntmps121
 obtain ⟨H,F,G,C,D,E,I⟩:=blk7 J.out rfl rfl rfl rfl rfl rfl rfl
 go_wp2_with fail
 rw[← W.out]
 refine (H0.out.need (false)).mono ?_
 rintro e w1 ⟨rfl,s1,h,e,o,z⟩
 have O:=e.len
 try simp only[QO,QS,QZ] at O
 have H1:=QA h
 have E1:=QA (E0.out.comp e)
 have O1:=QA (O0.out.trans o)
 have Z1:=QA (QR Z0.out z)
 have P:=QA (ok8_at o J.out Y (by decide))
 clear H F G C D E I
 clear h e o z
 obtain ⟨U,X,ab,T,R,ae,S⟩:=blk7 P.out rfl rfl rfl rfl rfl rfl rfl
 cases bn<;>cases ba
 all_goals
  go_wp2_with fail
  refine (H1.out.need _).mono ?_
  rintro e w2 ⟨rfl,s2,h,e,o,z⟩
  have H2:=QA h
  have E2:=QA (E1.out.comp e)
  have O2:=QA (O1.out.trans o)
  have Z2:=QA (QR Z1.out z)
  clear h e o z
  go_wp2_with fail
  go_end0
  exact ⟨rfl,s2,H2.out,E2.out.to (by first|(rw[HG.out,Z.out.1,ad.out];simp[Bool.and_assoc];done)|(rw[HG.out];rfl)) (fun hgg=>by rw[HT.out];first|done|simp) (by first|(simp;done)|(simp;omega)),O2.out,Z2.out⟩
theorem wsel_step (w0:World) (b:Nat) (hE:Env w0) (h3:3≤w0.heap.size) (at_:Nat) (hat:at_≤16) (IH:WSels w0 b at_):WSel w0 b at_:=by
 intro x a1 a2 a4 n1 n2 n4 hR hc s w h hl D hD
 subst hD
 by_cases h1:x.kind=1
 ·exact wsel1 w0 b hE h3 at_ hat IH x h1 a1 a2 a4 n1 n2 n4 hR hc s w h hl
 by_cases h2:x.kind=2
 ·exact wsel2 w0 b hE h3 at_ hat IH x h2 a1 a2 a4 n1 n2 n4 hR hc s w h hl
 by_cases h4:x.kind=3
 ·exact wsel3 w0 b hE h3 at_ hat IH x h4 a1 a2 a4 n1 n2 n4 hR hc s w h hl
 ·exact wsel0 w0 b hE h3 at_ hat IH x (by omega) a1 a2 a4 n1 n2 n4 hR hc s w h hl
theorem wsels_all (w0:World) (b:Nat) (hE:Env w0) (h3:3≤w0.heap.size):∀ (n at_:Nat),at_+n=16→WSels w0 b at_
 | 0,at_,h=>wsels_step w0 b hE h3 at_ (by omega) (fun h=>absurd h (by omega))
 | n+1,at_,h=>wsels_step w0 b hE h3 at_ (by omega) (fun h2=>wsel_step w0 b hE h3 (at_+1) (by omega) (wsels_all w0 b hE h3 n (at_+1) (by omega)))
end Go.Proofs.YtefjgpkpplkkgaaGreatDoor
