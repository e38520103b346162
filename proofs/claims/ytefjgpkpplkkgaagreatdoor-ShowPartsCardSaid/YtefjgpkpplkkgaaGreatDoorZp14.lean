/-
  Documents as data in memory; a block that is filled field by field, its data beside it. The reader of documents: directives, but, walked. The reader of documents: variable, walked.
-/
import Derived.Test.YtefjgpkpplkkgaaGreatDoorZp2
import Derived.Test.YtefjgpkpplkkgaaGreatDoorZp13
open Go.Lib renaming hid → QA
open List renaming mem_singleton → QB, length_map → QX
open Nat renaming le_refl → QM
namespace Go.Proofs.YtefjgpkpplkkgaaGreatDoor
set_option linter.unusedSimpArgs false
set_option linter.unusedVariables false
open Go Go.RowKit
namespace Qr
def Dir.d (x:Dir):D:=.obj [.str x.name,.seq 7 (x.args.map Rd.A.d),.int x.at_]
mutual
def Sel.d:Sel→D
 | .mk k al nm ar ds ss a=>.obj [.int k,.str al,.str nm,.seq 7 (ar.map Rd.A.d),.seq 3 (ds.map Dir.d),.seq 7 (Sel.dl ss),.int a]
def Sel.dl:List Sel→List D
 | []=>[]
 | x::r=>Sel.d x::Sel.dl r
end
theorem Sel.dl_map:∀ l:List Sel,Sel.dl l=l.map Sel.d
 | []=>by rw[Sel.dl];rfl
 | x::r=>by rw[Sel.dl,Sel.dl_map r];rfl
def Vd.d (x:Vd):D:=.obj [.str x.name,.str x.type,.bool x.has,x.dflt.d,.int x.at_]
def Op.d (x:Op):D:=.obj [.int x.kind,.str x.name,.seq 9 (x.vars.map Vd.d),.seq 3 (x.dirs.map Dir.d),.seq 7 (x.sels.map Sel.d),.int x.at_]
def Fr.d (x:Fr):D:=.obj [.str x.name,.str x.on,.seq 3 (x.dirs.map Dir.d),.seq 7 (x.sels.map Sel.d),.int x.at_]
end Qr
def D.one:D→Bool
 | .obj _=>false
 | _=>true
theorem Reads.one_cell {w:World} {P:Nat→Prop} {d:D} {cs:List Value} (h:Reads w P d cs) (hd:d.one=true):∃ v,cs=[v]:=by
 cases h with
 | int n=>exact ⟨_,rfl⟩
 | str s=>exact ⟨_,rfl⟩
 | bool b=>exact ⟨_,rfl⟩
 | obj h=>cases hd
 | seq h=>exact ⟨_,rfl⟩
theorem ReadsR.set {w:World} {P:Nat→Prop} {d:D} {v:Value} (hv:Reads w P d [v]):∀ {ds:List D} {cs:List Value} (j:Nat),ReadsR w P ds cs→ds.all D.one=true→ReadsR w P (ds.set j d) (cs.set j v)
 | [],_,j,.nil,_=>by cases j<;>exact .nil
 | x::ds,_,0,.cons h t,ho=>by
  rw[List.all_cons,Bool.and_eq_true] at ho
  obtain ⟨u,rfl⟩:=h.one_cell ho.1
  exact .cons hv t
 | x::ds,_,j+1,.cons h t,ho=>by
  rw[List.all_cons,Bool.and_eq_true] at ho
  obtain ⟨u,rfl⟩:=h.one_cell ho.1
  exact .cons h (ReadsR.set hv j t ho.2)
structure FI (w0:World) (b g t6:Nat) (bx:List Box) (T6:TypeId) (ds:List D) (cs:List Value) (s:Rd.St) (w:World):Prop where
 bi:BI w0 b g t6 bx T6 cs.toArray s w
 rr:ReadsR w (fun x=>t6<x) ds cs
section
variable {w0 w w' : World} {b g t6 : Nat} {bx : List Box} {T6 : TypeId} {ds : List D} {cs : List Value} {s s' : Rd.St}
theorem FI.rd (h:FI w0 b g t6 bx T6 ds cs s w):RdAt w b g s:=h.bi.rd
theorem FI.step (h:FI w0 b g t6 bx T6 ds cs s w) (hr:RdAt w' b g s') (hf:Fr b w w'):FI w0 b g t6 bx T6 ds cs s' w' :=
 ⟨h.bi.step hr hf,h.rr.to ⟨hf.size,fun x hx hp=>⟨hp,hf.block x hx (by have A:=h.bi.l6;have o:=h.bi.lb;have B:t6<x:=hp;omega)⟩⟩⟩
theorem FI.below (h:FI w0 b g t6 bx T6 ds cs s w) (hb:Below w.heap.size w w'):FI w0 b g t6 bx T6 ds cs s w':=h.step (h.rd.below hb) (But.of_below hb)
theorem FI.put (h:FI w0 b g t6 bx T6 ds cs s w) (j:Nat) {d:D} {v:Value} (hv:Reads w (fun x=>t6<x) d [v]) (ho:ds.all D.one=true):FI w0 b g t6 bx T6 (ds.set j d) (cs.set j v) s (w.setCell ⟨t6,j,none⟩ v):=by
 refine ⟨?_,(h.rr.set hv j ho).to ⟨by rw[size_set];exact QM _,fun x hx hp=>⟨hp,heap_set_ne (by have o:t6<x:=hp;omega)⟩⟩⟩
 have:=h.bi.put j v
 rwa [List.setIfInBounds_toArray] at this
theorem FI.data (h:FI w0 b g t6 bx T6 ds cs s w) {d:D} {us:List Value} (hd:Reads w' (fun x=>w.heap.size≤x) d us):Reads w' (fun x=>t6<x) d us :=
 hd.to (Stands.sub w' (fun x _ hp=>by have A:=block_lt h.bi.b6;have o:w.heap.size≤x:=hp;show t6<x;omega))
theorem FI.fin {r:Nat} {o:Obj} (h:FI w0 b g t6 bx T6 ds cs s w) (hr:(r,o)∈bx) :
  Reads (putCells w r 0 cs) (fun x=>w0.heap.size≤x) (.obj ds) cs∧RdAt (putCells w r 0 cs) b g s∧Fr b w0 (putCells w r 0 cs) :=
 h.bi.fin hr (.obj h.rr) (fun x hx=>hx)
theorem FI.start {w1 w2:World} {T:TypeId} {zs:Array Value} (hr:RdAt w2 b g s) (hf:Fr b (w.alloc (.cells zs T)) w2) (hl:b<w.heap.size∧g<w.heap.size) (hw:w1=w2.alloc (.cells cs.toArray T6)) (hd:ReadsR w1 (fun x=>w2.heap.size<x) ds cs) :
  FI w b g w2.heap.size [(w.heap.size,.cells zs T (0,0))] T6 ds cs s w1:=by
 have B:=hf.size
 have A:(w.alloc (.cells zs T)).heap.size=w.heap.size+1:=by simp
 have o:Below w2.heap.size w2 w1:=by rw[hw];exact (Below.refl _ _).alloc (QM _) _
 refine ⟨⟨hr.below o,fun p hp=>?_,by rw[hw];exact heap_at_new _ _,((But.of_below ((Below.refl _ _).alloc (QM _) _)).trans hf).trans (But.of_below o),hl.1,hl.2,fun p hp=>?_,by omega⟩,hd⟩
 ·rw[QB.1 hp]
  show w1.heap[w.heap.size]?=_
  rw[o.block w.heap.size (by omega),hf.block w.heap.size (by omega) (by omega)]
  exact heap_at_new _ _
 ·rw[QB.1 hp]
  show w.heap.size≤w.heap.size∧w.heap.size<w2.heap.size
  omega
end
theorem infoDir:(Tryz.prog.info? 171).map (fun i=>(i.zero,i.size,i.bytes))=some (some (.agg #[.string ⟨#[]⟩,.slice none 0 0,.int .i64 0]),3,48):=by kernel_rfl
theorem txts_one (w:World) (c:List UInt8) (v:ByteArray) (T:TypeId) (hv:v=⟨c.toArray⟩):Txts (w.alloc (.cells #[.string v] T)) (.slice (some ⟨w.heap.size,0,none⟩) 1 1) [c]:=by
 subst hv
 exact txts_lit w [c] #[.string ⟨c.toArray⟩] T rfl
set_option maxHeartbeats 1000000 in
set_option maxRecDepth 100000 in
theorem dirs_any (b g n:Nat) (hnb:n≤1600) (s:Rd.St) (w:World) (h:RdAt w b g s) (hn:s.rest.length≤n) (hd:0≤s.deep∧s.deep+n≤900000) :
  Calls Tryz.prog 174 #[.pointer (some ⟨b,0,none⟩)] w (GotL b g w 3 ((Qr.dirs (n+1) s).2.map Qr.Dir.d) (Qr.dirs (n+1) s).1):=by
 obtain ⟨i0,hi,aN,aK,aU⟩:=info_parts infoDir
 have H:=QA h
 have HL:=QA h.rest_len
 obtain ⟨d0,d1⟩:=hd
 clear h
 go_enter Tryz.func174,Tryz.ntmps174
 go_wp2_with fail
 go_loopg [3] (s.rest.length+2) (fun k s3 wr=>∃ (m:Nat) (o:Rd.St) (out:List Qr.Dir),k=m+1∧o.rest.length<m∧out.length+o.rest.length≤1502∧o.rest.length≤n∧o.deep=s.deep∧GI w b g 171 3 o s3 (out.map Qr.Dir.d) wr∧Qr.dirsGo (n+1) m o out=Qr.dirs (n+1) s)
 case atStart=>exact ⟨s.rest.length+1,s,[],rfl,by omega,by have:=HL.out;simp;omega,hn,rfl,GI.nil H.out _ _,rfl⟩
 case round =>
  obtain ⟨m,o,out,rfl,hm,bc,aQ,aq,hG,av⟩:=hrel
  obtain ⟨va,vc,hv⟩:=hG.row.form
  rw[QX] at hv
  subst hv
  have HG:=QA hG
  have al:=QA av
  have ax:=QA aq
  have ak:Below wr.heap.size wr (wr.alloc (.cells #[.string ⟨#[64]⟩] 9)):=(Below.refl _ _).alloc (QM _) _
  have F:=QA ak
  clear hG av aq ak
  go_wp2_with fail
  refine (ris_any b g o _ [Qr.sAt] _ (HG.out.rd.below F.out) (txts_one wr Qr.sAt _ _ rfl) (by simp)).mono ?_
  rintro r w2 ⟨rfl,hb2⟩
  rw[show ([Qr.sAt].any (Rd.isS o))=Rd.isS o Qr.sAt by simp]
  have ad:=QA (But.of_below (X:=fun k=>k=b) (F.out.trans (hb2.mono F.out.size)))
  have V:=QA (HG.out.rd.below (F.out.trans (hb2.mono F.out.size)))
  obtain ⟨B,hB⟩:∃ B,B=Rd.isS o Qr.sAt:=⟨_,rfl⟩
  have HB:=QA hB
  rw[← hB]
  obtain ⟨m',rfl⟩:∃ m',m=m'+1:=⟨m-1,by omega⟩
  clear hB hb2
  cases B
  ·have HE:Hid (Qr.dirs (n+1) s=(o,out)):=by
    rw[← al.out,Qr.dirsGo,if_neg (by rw[← HB.out];simp)]
    exact QA rfl
   go_wp2_with fail
   go_ret
   rw[HE.out]
   have ai:=HG.out.step V.out ad.out
   exact ⟨va,vc,by rw[QX];rfl,by rw[QX];exact ai.reads,V.out,ai.fr⟩
  ·have aE:=QA (Rd.next_sign HB.out.symm)
   have aV:Hid (Qr.dirsGo (n+1) m' (Qr.dir (n+1) o).1 (out++[(Qr.dir (n+1) o).2])=Qr.dirs (n+1) s):=by
    rw[← al.out,Qr.dirsGo,if_pos HB.out.symm]
    exact QA rfl
   go_wp2_with fail
   refine (rnext_any b g o w2 V.out).mono ?_
   rintro r w3 ⟨rfl,h3,f3⟩
   obtain ⟨C,ab⟩:∃ x,x=(Rd.peek o).at_:=⟨_,rfl⟩
   rw[← ab]
   have aX:=QA ab
   obtain ⟨s3,U⟩:∃ x,x=Rd.next o:=⟨_,rfl⟩
   rw[← U] at h3
   have Y:=QA U
   have aC:Hid (FI wr b g w3.heap.size [] 171 [.str [],.seq 7 [],.int C] [.string ⟨#[]⟩,.slice none 0 0,.int .i64 C] s3 (w3.alloc (.cells #[.string ⟨#[]⟩,.slice none 0 0,.int .i64 C] 171))):=by
    have aj:Below w3.heap.size w3 (w3.alloc (.cells #[.string ⟨#[]⟩,.slice none 0 0,.int .i64 C] 171)):=(Below.refl _ _).alloc (QM _) _
    have h1:=ad.out.size
    have h2:=f3.size
    exact QA ⟨⟨h3.below aj,fun p hp=>absurd hp (by simp),heap_at_new _ _,(ad.out.trans f3).trans (But.of_below aj),HG.out.rd.lt.1,HG.out.rd.lt.2,fun p hp=>absurd hp (by simp),by omega⟩,.cons (.str []) (.cons (.seq (cap:=0) .nil) (.cons (.int _) .nil))⟩
   obtain ⟨S,ag⟩:∃ x,x=w3.heap.size:=⟨_,rfl⟩
   clear h3 f3 ab U
   go_wp2_with fail
   refine (rname_any b g s3 _ aC.out.rd).mono ?_
   rintro r w4 ⟨rfl,h4,f4⟩
   have G:=aC.out.step h4 f4
   rw[← ag] at G ⊢
   clear ag
   obtain ⟨s4,aa⟩:∃ x,x=(Rd.name s3).1:=⟨_,rfl⟩
   obtain ⟨D,Z⟩:∃ x,x=(Rd.name s3).2:=⟨_,rfl⟩
   rw[← aa] at G
   rw[← Z]
   have ay:=QA G
   have P:=QA aa
   have aF:=QA Z
   have I:=QA (G.put 0 (.str D) rfl)
   clear h4 f4 G aa Z
   have y0:=blk_cell ay.out.bi.b6 0 (.string ⟨#[]⟩) rfl
   have aS:=blk_free ay.out.bi.b6 0
   have au:Hid (Rd.Ok o s4):=by rw[P.out,Y.out];exact QA ((Rd.ok_next o).trans (Rd.ok_name _))
   have aA:Hid (s4.deep=s.deep):=by rw[P.out,Rd.name_deep,Y.out,Rd.next_deep];exact ax
   go_wp2_with fail
   refine (rargs_any b g false n hnb s4 _ I.out.rd (Nat.le_trans au.out.len aQ) (by rw[aA.out];omega)).mono ?_
   rintro r w5 ⟨a5,c5,rfl,hrd,O,f5⟩
   obtain ⟨q,hq⟩:∃ x,x=Rd.args false (n+1) s4:=⟨_,rfl⟩
   rw[← hq] at hrd O ⊢
   have HQ:=QA hq
   have ao:=QA (I.out.data hrd)
   have J:=QA (I.out.step O f5)
   have K:=QA (J.out.put 1 ao.out rfl)
   clear hrd O f5 hq y0 aS
   obtain ⟨E,an⟩:∃ x,x=q.2.length:=⟨_,rfl⟩
   rw[QX,← an] at ao K ⊢
   clear an
   have y0:=blk_cell J.out.bi.b6 0 (.string ⟨D.toArray⟩) rfl
   have y1:=blk_cell J.out.bi.b6 1 (.slice none 0 0) rfl
   have bd:=blk_free J.out.bi.b6 1
   have y2:=blk_cell J.out.bi.b6 2 (.int .i64 C) rfl
   have aB:=QA (show ReadsR (w5.setCell ⟨S,1,none⟩ (.slice a5 E c5)) (fun x=>S<x) [.str D,.seq 7 (q.2.map Rd.A.d),.int C] [.string ⟨D.toArray⟩,.slice a5 E c5,.int .i64 C] from K.out.rr)
   have a0:=K.out.bi.l6
   obtain ⟨W,hW⟩:∃ x,x=(w5.setCell ⟨S,1,none⟩ (.slice a5 E c5)).alloc (.cells #[.string ⟨D.toArray⟩,.slice a5 E c5,.int .i64 C] 171):=⟨_,rfl⟩
   have N:Below (w5.setCell ⟨S,1,none⟩ (.slice a5 E c5)).heap.size (w5.setCell ⟨S,1,none⟩ (.slice a5 E c5)) W:=by rw[hW];exact (Below.refl _ _).alloc (QM _) _
   have R:=K.out.below N
   have M:=HG.out.step R.rd R.bi.fr
   obtain ⟨⟨xs,hx,ah⟩,aZ⟩:=M.row
   rw[QX] at hx
   have aY:=QA M
   have HX:=QA hx
   have aJ:=QA ah
   have aM:Hid (Reads W (fun x=>w.heap.size≤x∧(Value.slice va out.length vc).ownBlock≠some x) (Qr.Dir.d ⟨D,q.2,C⟩) [.string ⟨D.toArray⟩,.slice a5 E c5,.int .i64 C]):=by
    refine QA (HG.out.data ((Reads.obj aB.out).to ?_))
    exact ⟨N.size,fun x hx2 hp=>⟨by have h3:S<x:=hp;show wr.heap.size≤x;omega,N.block x hx2⟩⟩
   have ap:=QA (ReadsR.one aB.out)
   have aw:Hid (∀ j u,([.string ⟨D.toArray⟩,.slice a5 E c5,.int .i64 C]:List Value)[j]?=some u→W.cell? ((⟨w5.heap.size,0,none⟩:Addr).add j)=some u):=by
    have:=lit_cells (w:=W) (L:=w5.heap.size) (fz:=(0,0)) (T:=171) (zs:=[.string ⟨D.toArray⟩,.slice a5 E c5,.int .i64 C]) (by rw[hW];have h9:=heap_at_new (w5.setCell ⟨S,1,none⟩ (.slice a5 E c5)) (.cells #[.string ⟨D.toArray⟩,.slice a5 E c5,.int .i64 C] 171);rw[size_set] at h9;exact h9)
    exact QA this
   have Q:w.heap.size≤W.heap.size:=M.fr.size
   clear N R M hx ah aZ HL
   subst hW
   go_wp2_with (first|(at_builtin;refine wpList_append_own_at _ rfl _ _ 93 rfl w.heap.size 171 i0 _ 3 48 Tryz.underlying93 hi aN aK aU rfl (by decide) (.slice va out.length vc) out.length xs rfl HX.out ⟨w5.heap.size,0,none⟩ 1 1 [.string ⟨D.toArray⟩,.slice a5 E c5,.int .i64 C] rfl rfl aw.out ap.out (by unfold maxLen;omega) (by omega) Q ?_;intro v' w8 hrow8 hg8 hnil8 hloc8;clear hnil8;have am:=QA hrow8;have aL:=QA hg8;have aP:=QA hloc8;clear hrow8 hg8 hloc8)|fail)
   go_roundg (m'+1)
   case measure=>omega
   case rel =>
    have hE:Qr.dir (n+1) o=(q.1,⟨D,q.2,C⟩):=by unfold Qr.dir;dsimp only;rw[← Y.out,← aF.out,← P.out,← HQ.out,← aX.out]
    have h1:=aE.out.1
    have h2:=(Qr.ok_dir (n+1) o).len
    have h3:=(Qr.dir_deep (n+1) o)
    have h4:=aV.out
    have bf:(Rd.next o).rest.length<o.rest.length:=h1
    have O:(Qr.dir (n+1) o).1.rest.length≤(Rd.next o).rest.length:=((Rd.ok_name (Rd.next o)).trans (Rd.ok_args false (n+1) _)).len
    rw[hE] at h2 h3 h4 O
    refine ⟨m',q.1,out++[⟨D,q.2,C⟩],rfl,by simp only at O;omega,by rw[List.length_append];simp only[List.length_singleton] at O ⊢;omega,by simp only at O;omega,by rw[← ax.out];exact h3,?_,h4⟩
    rw[List.map_append]
    exact aY.out.more (by rw[QX];exact HX.out) aJ.out aM.out rfl aL.out aP.out (by rw[QX];exact am.out)
set_option maxHeartbeats 1000000 in
set_option maxRecDepth 100000 in
theorem but_any (b g:Nat) (s:Rd.St) (w:World) (h:RdAt w b g s) :
  Calls Tryz.prog 173 #[.pointer (some ⟨b,0,none⟩)] w fun r w'=>r=.returned (.string ⟨(Qr.but s).2.toArray⟩)∧RdAt w' b g (Qr.but s).1∧Fr b w w':=by
 have H:=QA h
 have C:Below w.heap.size w (w.alloc (.cells #[.string ⟨#[111,110]⟩] 9)):=(Below.refl _ _).alloc (QM _) _
 have o:=QA C
 clear C h
 go_enter Tryz.func173,Tryz.ntmps173
 go_wp2_with fail
 refine (rword_any b g s _ [Qr.sOn] _ (H.out.below o.out) (txts_one w Qr.sOn _ _ rfl) (by simp)).mono ?_
 rintro r w2 ⟨rfl,hb2⟩
 have A:=QA (o.out.trans (hb2.mono o.out.size))
 have G:=QA (H.out.below A.out)
 obtain ⟨B,hB⟩:∃ B,B=Rd.isW s [Qr.sOn]:=⟨_,rfl⟩
 have I:=QA hB
 rw[← hB]
 clear hB hb2
 cases B
 ·have D:Hid (Qr.but s=Rd.name s):=by unfold Qr.but;rw[if_neg (by rw[← I.out];simp)];exact QA rfl
  go_wp2_with fail
  refine (rname_any b g _ w2 G.out).mono ?_
  rintro r w3 ⟨rfl,h3,f3⟩
  have E:=QA h3
  have F:=QA f3
  clear h3 f3
  go_wp2_with fail
  go_ret
  rw[D.out]
  exact ⟨rfl,E.out,(But.of_below A.out).trans F.out⟩
 ·have D:Hid (Qr.but s=Rd.name (Rd.wrong s)):=by unfold Qr.but;rw[if_pos I.out.symm];exact QA rfl
  go_wp2_with fail
  refine (rwrong_any b g _ w2 G.out).mono ?_
  rintro r w4 ⟨rfl,h4,f4⟩
  have K:=QA h4
  have J:=QA f4
  clear h4 f4
  go_wp2_with fail
  refine (rname_any b g _ w4 K.out).mono ?_
  rintro r w3 ⟨rfl,h3,f3⟩
  have E:=QA h3
  have F:=QA f3
  clear h3 f3
  go_wp2_with fail
  go_ret
  rw[D.out]
  exact ⟨rfl,E.out,((But.of_below A.out).trans J.out).trans F.out⟩
set_option maxHeartbeats 2000000 in
set_option maxRecDepth 100000 in
theorem variable_any (b g:Nat) (n:Nat) (hnb:n≤1600) (s:Rd.St) (w:World) (h:RdAt w b g s) (hn:s.err≠0∨s.rest.length≤n) (hd:0≤s.deep∧s.deep+n≤900000) :
  Calls Tryz.prog 177 #[.pointer (some ⟨b,0,none⟩)] w (Got b g w (Qr.variable_ (n+1) s).2.d (Qr.variable_ (n+1) s).1):=by
 have bi:=h.lt
 have H:=QA h
 have HN:=QA hn
 obtain ⟨d0,d1⟩:=hd
 have a6:Below w.heap.size w (w.alloc (.cells #[.string ⟨#[]⟩,.string ⟨#[]⟩,.bool false,.int .i64 0,.string ⟨#[]⟩,.slice none 0 0,.slice none 0 0,.int .i64 0,.int .i64 0] 100)):=(Below.refl _ _).alloc (QM _) _
 have ar:=QA a6
 clear h hn a6
 go_enter Tryz.func177,Tryz.ntmps177
 go_wp2_with fail
 refine (rpeek_any b g s _ (H.out.below ar.out)).mono ?_
 rintro r w2 ⟨rfl,hb2⟩
 obtain ⟨G,aC⟩:∃ x,x=(Rd.peek s).at_:=⟨_,rfl⟩
 rw[← aC]
 have bl:=QA aC
 have bd:BI w b g w2.heap.size [(w.heap.size,.cells #[.string ⟨#[]⟩,.string ⟨#[]⟩,.bool false,.int .i64 0,.string ⟨#[]⟩,.slice none 0 0,.slice none 0 0,.int .i64 0,.int .i64 0] 100 (0,0))] 100 #[.string ⟨#[]⟩,.string ⟨#[]⟩,.bool false,.int .i64 0,.string ⟨#[]⟩,.slice none 0 0,.slice none 0 0,.int .i64 0,.int .i64 G] s (w2.alloc (.cells #[.string ⟨#[]⟩,.string ⟨#[]⟩,.bool false,.int .i64 0,.string ⟨#[]⟩,.slice none 0 0,.slice none 0 0,.int .i64 0,.int .i64 G] 100)):=by
  have bJ:(w.alloc (.cells #[.string ⟨#[]⟩,.string ⟨#[]⟩,.bool false,.int .i64 0,.string ⟨#[]⟩,.slice none 0 0,.slice none 0 0,.int .i64 0,.int .i64 0] 100)).heap.size=w.heap.size+1:=by simp
  have bL:=hb2.size
  have ao:Below w2.heap.size w2 (w2.alloc (.cells #[.string ⟨#[]⟩,.string ⟨#[]⟩,.bool false,.int .i64 0,.string ⟨#[]⟩,.slice none 0 0,.slice none 0 0,.int .i64 0,.int .i64 G] 100)):=(Below.refl _ _).alloc (QM _) _
  refine ⟨((H.out.below ar.out).below hb2).below ao,fun p hp=>?_,heap_at_new _ _,((But.of_below ar.out).trans (But.of_below hb2)).trans (But.of_below ao),bi.1,bi.2,fun p hp=>?_,by omega⟩
  ·simp only[QB] at hp
   subst hp
   show (w2.alloc _).heap[w.heap.size]?=_
   rw[ao.block w.heap.size (by omega),hb2.block w.heap.size (by omega)]
   exact heap_at_new _ _
  ·simp only[QB] at hp
   subst hp
   simp only
   omega
 have a3:=QA bd
 obtain ⟨M,am⟩:∃ x,x=w2.heap.size:=⟨_,rfl⟩
 have bK:=QA am
 clear hb2 bd aC
 go_wp2_with fail
 refine (rwant_any b g s Rd.dollar _ a3.out.rd).mono ?_
 rintro r w1 ⟨rfl,h1,f1⟩
 have ah:=a3.out.step h1 f1
 rw[← am] at ah ⊢
 clear am
 obtain ⟨s1,ax⟩:∃ x,x=Rd.want Rd.dollar s:=⟨_,rfl⟩
 rw[← ax] at ah
 have ac:=QA ax
 have bc:=QA ah
 have bj:Hid (Rd.Ok s s1):=by rw[ac.out];exact QA (Rd.ok_want _ s)
 have bg:Hid (s1.deep=s.deep):=by rw[ac.out];exact QA (Rd.want_deep _ s)
 clear h1 f1 ah ax
 go_wp2_with fail
 refine (rname_any b g s1 _ bc.out.rd).mono ?_
 rintro r w3 ⟨rfl,h3,f3⟩
 have ae:=bc.out.step h3 f3
 obtain ⟨s3,aw⟩:∃ x,x=(Rd.name s1).1:=⟨_,rfl⟩
 obtain ⟨K,ay⟩:∃ x,x=(Rd.name s1).2:=⟨_,rfl⟩
 rw[← aw] at ae
 rw[← ay]
 have af:=QA aw
 have aT:=QA ay
 have D:=QA ae
 have l6:=ae.lx _ (QB.2 rfl)
 simp only at l6
 have n1:¬ M=w.heap.size:=by omega
 have n2:¬ w.heap.size=M:=by omega
 have bk:Hid (Rd.Ok s s3):=by rw[af.out];exact QA (bj.out.trans (Rd.ok_name s1))
 have aW:Hid (s3.deep=s.deep):=by rw[af.out,Rd.name_deep,bg.out];exact QA rfl
 clear h3 f3 ae aw ay
 have y0:=blk_cell D.out.b6 0 (.string ⟨#[]⟩) rfl
 have T:=blk_free D.out.b6 0
 have y1:=blk_cell D.out.b6 1 (.string ⟨#[]⟩) rfl
 have N:=blk_free D.out.b6 1
 have y2:=blk_cell D.out.b6 2 (.bool false) rfl
 have P:=blk_free D.out.b6 2
 have y3:=blk_cell D.out.b6 3 (.int .i64 0) rfl
 have R:=blk_free D.out.b6 3
 have y4:=blk_cell D.out.b6 4 (.string ⟨#[]⟩) rfl
 have O:=blk_free D.out.b6 4
 have y5:=blk_cell D.out.b6 5 (.slice none 0 0) rfl
 have X:=blk_free D.out.b6 5
 have y6:=blk_cell D.out.b6 6 (.slice none 0 0) rfl
 have S:=blk_free D.out.b6 6
 have y7:=blk_cell D.out.b6 7 (.int .i64 0) rfl
 have W:=blk_free D.out.b6 7
 have y8:=blk_cell D.out.b6 8 (.int .i64 G) rfl
 have U:=blk_free D.out.b6 8
 have bb:=QA (D.out.put 0 (.string ⟨K.toArray⟩))
 go_wp2_with fail
 refine (rwant_any b g s3 Rd.colon _ bb.out.rd).mono ?_
 rintro r w5 ⟨rfl,h5,f5⟩
 have aB:=QA (bb.out.step h5 f5)
 obtain ⟨s5,aD⟩:∃ x,x=Rd.want Rd.colon s3:=⟨_,rfl⟩
 rw[← aD] at aB
 have ad:=QA aD
 have Z:Hid (Rd.Ok s s5):=by rw[ad.out];exact QA (bk.out.trans (Rd.ok_want _ s3))
 have aj:Hid (s5.deep=s.deep):=by rw[ad.out,Rd.want_deep,aW.out];exact QA rfl
 have bA:Hid (s5.err≠0∨s5.rest.length≤n):=by
  refine QA ?_
  rcases HN.out with h|h
  ·left;rw[Z.out.err h];exact h
  ·right;exact Nat.le_trans Z.out.len h
 clear h5 f5 aD
 clear y0 T y1 N y2 P y3 R y4 O y5 X y6 S y7 W y8 U
 go_wp2_with fail
 refine (rtype_any b g n s5 w5 aB.out.rd bA.out hnb (by rw[aj.out];omega)).mono ?_
 rintro r w6 ⟨rfl,h6,f6⟩
 obtain ⟨F,au⟩:∃ x,x=(Rd.type (n+1) s5).1:=⟨_,rfl⟩
 obtain ⟨L,an⟩:∃ x,x=(Rd.type (n+1) s5).2:=⟨_,rfl⟩
 have aH:=aB.out.step h6 f6
 rw[← au] at aH
 rw[← an]
 have ag:=QA au
 have aZ:=QA an
 have C:=QA aH
 have al:Hid (Rd.Ok s F):=by rw[ag.out];exact QA (Z.out.trans (Rd.ok_type _ s5))
 have be:Hid (F.deep=s.deep):=by rw[ag.out,Rd.type_deep,aj.out];exact QA rfl
 clear h6 f6 aH au an
 have y0:=blk_cell C.out.b6 0 (.string ⟨K.toArray⟩) rfl
 have T:=blk_free C.out.b6 0
 have y1:=blk_cell C.out.b6 1 (.string ⟨#[]⟩) rfl
 have N:=blk_free C.out.b6 1
 have y2:=blk_cell C.out.b6 2 (.bool false) rfl
 have P:=blk_free C.out.b6 2
 have y3:=blk_cell C.out.b6 3 (.int .i64 0) rfl
 have R:=blk_free C.out.b6 3
 have y4:=blk_cell C.out.b6 4 (.string ⟨#[]⟩) rfl
 have O:=blk_free C.out.b6 4
 have y5:=blk_cell C.out.b6 5 (.slice none 0 0) rfl
 have X:=blk_free C.out.b6 5
 have y6:=blk_cell C.out.b6 6 (.slice none 0 0) rfl
 have S:=blk_free C.out.b6 6
 have y7:=blk_cell C.out.b6 7 (.int .i64 0) rfl
 have W:=blk_free C.out.b6 7
 have y8:=blk_cell C.out.b6 8 (.int .i64 G) rfl
 have U:=blk_free C.out.b6 8
 have a9:=QA (C.out.put 1 (.string ⟨L.toArray⟩))
 go_wp2_with fail
 refine (rtake_any b g F Qr.sEq _ a9.out.rd).mono ?_
 rintro r w8 ⟨rfl,h8,f8⟩
 have A:=QA (a9.out.step h8 f8)
 obtain ⟨B,hB⟩:∃ B,B=Rd.isS F Qr.sEq:=⟨_,rfl⟩
 have HB:=QA hB
 rw[← hB]
 have a5:=QA (A.out.put 2 (.bool B))
 clear h8 f8 hB
 clear y0 T y1 N y2 P y3 R y4 O y5 X y6 S y7 W y8 U
 have y0:=blk_cell A.out.b6 0 (.string ⟨K.toArray⟩) rfl
 have T:=blk_free A.out.b6 0
 have y1:=blk_cell A.out.b6 1 (.string ⟨L.toArray⟩) rfl
 have N:=blk_free A.out.b6 1
 have y2:=blk_cell A.out.b6 2 (.bool false) rfl
 have P:=blk_free A.out.b6 2
 have y3:=blk_cell A.out.b6 3 (.int .i64 0) rfl
 have R:=blk_free A.out.b6 3
 have y4:=blk_cell A.out.b6 4 (.string ⟨#[]⟩) rfl
 have O:=blk_free A.out.b6 4
 have y5:=blk_cell A.out.b6 5 (.slice none 0 0) rfl
 have X:=blk_free A.out.b6 5
 have y6:=blk_cell A.out.b6 6 (.slice none 0 0) rfl
 have S:=blk_free A.out.b6 6
 have y7:=blk_cell A.out.b6 7 (.int .i64 0) rfl
 have W:=blk_free A.out.b6 7
 have y8:=blk_cell A.out.b6 8 (.int .i64 G) rfl
 have U:=blk_free A.out.b6 8
 have z0:=blk_cell (A.out.cb (w.heap.size,.cells #[.string ⟨#[]⟩,.string ⟨#[]⟩,.bool false,.int .i64 0,.string ⟨#[]⟩,.slice none 0 0,.slice none 0 0,.int .i64 0,.int .i64 0] 100 (0,0)) (by simp)) 0 (.string ⟨#[]⟩) rfl
 have a0:=blk_free (A.out.cb (w.heap.size,.cells #[.string ⟨#[]⟩,.string ⟨#[]⟩,.bool false,.int .i64 0,.string ⟨#[]⟩,.slice none 0 0,.slice none 0 0,.int .i64 0,.int .i64 0] 100 (0,0)) (by simp)) 0
 have z1:=blk_cell (A.out.cb (w.heap.size,.cells #[.string ⟨#[]⟩,.string ⟨#[]⟩,.bool false,.int .i64 0,.string ⟨#[]⟩,.slice none 0 0,.slice none 0 0,.int .i64 0,.int .i64 0] 100 (0,0)) (by simp)) 1 (.string ⟨#[]⟩) rfl
 have a8:=blk_free (A.out.cb (w.heap.size,.cells #[.string ⟨#[]⟩,.string ⟨#[]⟩,.bool false,.int .i64 0,.string ⟨#[]⟩,.slice none 0 0,.slice none 0 0,.int .i64 0,.int .i64 0] 100 (0,0)) (by simp)) 1
 have z2:=blk_cell (A.out.cb (w.heap.size,.cells #[.string ⟨#[]⟩,.string ⟨#[]⟩,.bool false,.int .i64 0,.string ⟨#[]⟩,.slice none 0 0,.slice none 0 0,.int .i64 0,.int .i64 0] 100 (0,0)) (by simp)) 2 (.bool false) rfl
 have aY:=blk_free (A.out.cb (w.heap.size,.cells #[.string ⟨#[]⟩,.string ⟨#[]⟩,.bool false,.int .i64 0,.string ⟨#[]⟩,.slice none 0 0,.slice none 0 0,.int .i64 0,.int .i64 0] 100 (0,0)) (by simp)) 2
 have z3:=blk_cell (A.out.cb (w.heap.size,.cells #[.string ⟨#[]⟩,.string ⟨#[]⟩,.bool false,.int .i64 0,.string ⟨#[]⟩,.slice none 0 0,.slice none 0 0,.int .i64 0,.int .i64 0] 100 (0,0)) (by simp)) 3 (.int .i64 0) rfl
 have aU:=blk_free (A.out.cb (w.heap.size,.cells #[.string ⟨#[]⟩,.string ⟨#[]⟩,.bool false,.int .i64 0,.string ⟨#[]⟩,.slice none 0 0,.slice none 0 0,.int .i64 0,.int .i64 0] 100 (0,0)) (by simp)) 3
 have z4:=blk_cell (A.out.cb (w.heap.size,.cells #[.string ⟨#[]⟩,.string ⟨#[]⟩,.bool false,.int .i64 0,.string ⟨#[]⟩,.slice none 0 0,.slice none 0 0,.int .i64 0,.int .i64 0] 100 (0,0)) (by simp)) 4 (.string ⟨#[]⟩) rfl
 have a7:=blk_free (A.out.cb (w.heap.size,.cells #[.string ⟨#[]⟩,.string ⟨#[]⟩,.bool false,.int .i64 0,.string ⟨#[]⟩,.slice none 0 0,.slice none 0 0,.int .i64 0,.int .i64 0] 100 (0,0)) (by simp)) 4
 have z5:=blk_cell (A.out.cb (w.heap.size,.cells #[.string ⟨#[]⟩,.string ⟨#[]⟩,.bool false,.int .i64 0,.string ⟨#[]⟩,.slice none 0 0,.slice none 0 0,.int .i64 0,.int .i64 0] 100 (0,0)) (by simp)) 5 (.slice none 0 0) rfl
 have aX:=blk_free (A.out.cb (w.heap.size,.cells #[.string ⟨#[]⟩,.string ⟨#[]⟩,.bool false,.int .i64 0,.string ⟨#[]⟩,.slice none 0 0,.slice none 0 0,.int .i64 0,.int .i64 0] 100 (0,0)) (by simp)) 5
 have z6:=blk_cell (A.out.cb (w.heap.size,.cells #[.string ⟨#[]⟩,.string ⟨#[]⟩,.bool false,.int .i64 0,.string ⟨#[]⟩,.slice none 0 0,.slice none 0 0,.int .i64 0,.int .i64 0] 100 (0,0)) (by simp)) 6 (.slice none 0 0) rfl
 have bf:=blk_free (A.out.cb (w.heap.size,.cells #[.string ⟨#[]⟩,.string ⟨#[]⟩,.bool false,.int .i64 0,.string ⟨#[]⟩,.slice none 0 0,.slice none 0 0,.int .i64 0,.int .i64 0] 100 (0,0)) (by simp)) 6
 have z7:=blk_cell (A.out.cb (w.heap.size,.cells #[.string ⟨#[]⟩,.string ⟨#[]⟩,.bool false,.int .i64 0,.string ⟨#[]⟩,.slice none 0 0,.slice none 0 0,.int .i64 0,.int .i64 0] 100 (0,0)) (by simp)) 7 (.int .i64 0) rfl
 have bh:=blk_free (A.out.cb (w.heap.size,.cells #[.string ⟨#[]⟩,.string ⟨#[]⟩,.bool false,.int .i64 0,.string ⟨#[]⟩,.slice none 0 0,.slice none 0 0,.int .i64 0,.int .i64 0] 100 (0,0)) (by simp)) 7
 have z8:=blk_cell (A.out.cb (w.heap.size,.cells #[.string ⟨#[]⟩,.string ⟨#[]⟩,.bool false,.int .i64 0,.string ⟨#[]⟩,.slice none 0 0,.slice none 0 0,.int .i64 0,.int .i64 0] 100 (0,0)) (by simp)) 8 (.int .i64 0) rfl
 have a4:=blk_free (A.out.cb (w.heap.size,.cells #[.string ⟨#[]⟩,.string ⟨#[]⟩,.bool false,.int .i64 0,.string ⟨#[]⟩,.slice none 0 0,.slice none 0 0,.int .i64 0,.int .i64 0] 100 (0,0)) (by simp)) 8
 cases B
 ·have HT:Hid (Rd.take Qr.sEq F=F):=by unfold Rd.take;rw[if_neg (by rw[← HB.out];simp)];exact QA rfl
  have HE:Hid (Qr.variable_ (n+1) s=(F,⟨K,L,false,Rd.V.none,G⟩)):=by
   have av:Qr.dflt (n+1) F=(F,Rd.V.none):=by unfold Qr.dflt;rw[if_neg (by rw[← HB.out];simp)]
   refine QA ?_
   unfold Qr.variable_
   dsimp only
   rw[← ac.out,← af.out,← aT.out,← ad.out,← ag.out,← aZ.out,← bl.out,← HB.out,av]
  have aG:Hid (BI w b g M [(w.heap.size,.cells #[.string ⟨#[]⟩,.string ⟨#[]⟩,.bool false,.int .i64 0,.string ⟨#[]⟩,.slice none 0 0,.slice none 0 0,.int .i64 0,.int .i64 0] 100 (0,0))] 100 [.string ⟨K.toArray⟩,.string ⟨L.toArray⟩,.bool false,.int .i64 0,.string ⟨#[]⟩,.slice none 0 0,.slice none 0 0,.int .i64 0,.int .i64 G].toArray F (w8.setCell ⟨M,2,none⟩ (.bool false))):=by
   have:=a5.out
   rw[HT.out] at this
   exact QA this
  have aE:Hid (Reads (w8.setCell ⟨M,2,none⟩ (.bool false)) (fun _=>False) (Qr.Vd.d ⟨K,L,false,Rd.V.none,G⟩) [.string ⟨K.toArray⟩,.string ⟨L.toArray⟩,.bool false,.int .i64 0,.string ⟨#[]⟩,.slice none 0 0,.slice none 0 0,.int .i64 0,.int .i64 G]):=by
   unfold Qr.Vd.d
   exact QA (.obj (.cons (.str _) (.cons (.str _) (.cons (.bool _) (.cons (leaf_reads _ 0 0 []) (.cons (.int _) .nil))))))
  have E:=aG.out.fin (r:=w.heap.size) (QB.2 rfl) aE.out (fun x hx=>hx.elim)
  simp only[putCells,Nat.reduceAdd,Nat.zero_add] at E
  have aq:=QA E
  clear E
  go_wp2_with fail
  refine bodyPost_ret (v:=.agg #[.string ⟨K.toArray⟩,.string ⟨L.toArray⟩,.bool false,.int .i64 0,.string ⟨#[]⟩,.slice none 0 0,.slice none 0 0,.int .i64 0,.int .i64 G]) (by simp[results,Tryz.results177,go_sem,z0,z1,z2,z3,z4,z5,z6,z7,z8,n1,n2]) rfl ?_
  rw[HE.out]
  exact ⟨_,rfl,aq.out⟩
 ·have HT:Hid (Rd.take Qr.sEq F=Rd.next F):=by unfold Rd.take;rw[if_pos HB.out.symm];exact QA rfl
  have bx:=QA (Rd.next_sign HB.out.symm)
  have bC:Hid ((Rd.next F).rest.length≤n):=by
   refine QA ?_
   have h6:=al.out.len
   have h7:=bx.out.1
   rcases HN.out with h|h
   ·have:=al.out.err h
    have hz:=HB.out
    rw[Rd.isS_err (by rw[this];exact h)] at hz
    cases hz
   ·omega
  have Y:Hid (BI w b g M [(w.heap.size,.cells #[.string ⟨#[]⟩,.string ⟨#[]⟩,.bool false,.int .i64 0,.string ⟨#[]⟩,.slice none 0 0,.slice none 0 0,.int .i64 0,.int .i64 0] 100 (0,0))] 100 #[.string ⟨K.toArray⟩,.string ⟨L.toArray⟩,.bool true,.int .i64 0,.string ⟨#[]⟩,.slice none 0 0,.slice none 0 0,.int .i64 0,.int .i64 G] (Rd.next F) (w8.setCell ⟨M,2,none⟩ (.bool true))):=by
   have:=a5.out
   rw[HT.out] at this
   exact QA this
  have bD:=QA (Rd.next_deep F)
  go_wp2_with fail
  refine (rvalue_any b g true n hnb (Rd.next F) _ Y.out.rd bC.out (by rw[bD.out,be.out];omega)).mono ?_
  rintro r w10 ⟨cs,rfl,hrd,hr10,hf10⟩
  obtain ⟨k,a,t,a1,a2,I,c1,J,c2,rfl⟩:=V_cells hrd
  obtain ⟨aA,ab⟩:∃ x,x=(Rd.value true (n+1) (Rd.next F)).1:=⟨_,rfl⟩
  obtain ⟨aF,aa⟩:∃ x,x=(Rd.value true (n+1) (Rd.next F)).2:=⟨_,rfl⟩
  rw[← ab] at hr10
  rw[← aa] at hrd
  have ba:=QA ab
  have aS:=QA aa
  have o:=QA (Y.out.step hr10 hf10)
  have bE:=block_lt Y.out.b6
  have bw:=QA (hrd.to (w':=putCells w10 M 3 [.int .i64 k,.string t,.slice a1 I c1,.slice a2 J c2,.int .i64 a]) (Q:=fun x=>M<x) ⟨by rw[putCells_size];exact QM _,fun x hx hp=>⟨Nat.lt_of_lt_of_le bE hp,putCells_ne _ _ (by have:(w8.setCell ⟨M,2,none⟩ (.bool true)).heap.size≤x:=hp;omega) _ _ _⟩⟩)
  have HE:Hid (Qr.variable_ (n+1) s=(aA,⟨K,L,true,aF,G⟩)):=by
   have av:Qr.dflt (n+1) F=(aA,aF):=by unfold Qr.dflt;rw[if_pos HB.out.symm,ba.out,aS.out]
   refine QA ?_
   unfold Qr.variable_
   dsimp only
   rw[← ac.out,← af.out,← aT.out,← ad.out,← ag.out,← aZ.out,← bl.out,← HB.out,av]
  have aE:Hid (Reads (putCells w10 M 3 [.int .i64 k,.string t,.slice a1 I c1,.slice a2 J c2,.int .i64 a]) (fun x=>M<x) (Qr.Vd.d ⟨K,L,true,aF,G⟩) [.string ⟨K.toArray⟩,.string ⟨L.toArray⟩,.bool true,.int .i64 k,.string t,.slice a1 I c1,.slice a2 J c2,.int .i64 a,.int .i64 G]):=by
   unfold Qr.Vd.d
   exact QA (.obj (.cons (.str _) (.cons (.str _) (.cons (.bool _) (.cons bw.out (.cons (.int _) .nil))))))
  have aG:Hid (BI w b g M [(w.heap.size,.cells #[.string ⟨#[]⟩,.string ⟨#[]⟩,.bool false,.int .i64 0,.string ⟨#[]⟩,.slice none 0 0,.slice none 0 0,.int .i64 0,.int .i64 0] 100 (0,0))] 100 [.string ⟨K.toArray⟩,.string ⟨L.toArray⟩,.bool true,.int .i64 k,.string t,.slice a1 I c1,.slice a2 J c2,.int .i64 a,.int .i64 G].toArray aA (putCells w10 M 3 [.int .i64 k,.string t,.slice a1 I c1,.slice a2 J c2,.int .i64 a])) :=
   QA (((((o.out.put 3 (.int .i64 k)).put 4 (.string t)).put 5 (.slice a1 I c1)).put 6 (.slice a2 J c2)).put 7 (.int .i64 a))
  have E:=aG.out.fin (r:=w.heap.size) (QB.2 rfl) aE.out (fun x hx=>hx)
  simp only[putCells,Nat.reduceAdd,Nat.zero_add] at E
  have aq:=QA E
  clear y0 T z0 a0 y1 N z1 a8 y2 P z2 aY y3 R z3 aU y4 O z4 a7 y5 X z5 aX y6 S z6 bf y7 W z7 bh y8 U z8 a4
  clear E hrd hr10 hf10 ab aa
  have y0:=blk_cell o.out.b6 0 (.string ⟨K.toArray⟩) rfl
  have T:=blk_free o.out.b6 0
  have y1:=blk_cell o.out.b6 1 (.string ⟨L.toArray⟩) rfl
  have N:=blk_free o.out.b6 1
  have y2:=blk_cell o.out.b6 2 (.bool true) rfl
  have P:=blk_free o.out.b6 2
  have y3:=blk_cell o.out.b6 3 (.int .i64 0) rfl
  have R:=blk_free o.out.b6 3
  have y4:=blk_cell o.out.b6 4 (.string ⟨#[]⟩) rfl
  have O:=blk_free o.out.b6 4
  have y5:=blk_cell o.out.b6 5 (.slice none 0 0) rfl
  have X:=blk_free o.out.b6 5
  have y6:=blk_cell o.out.b6 6 (.slice none 0 0) rfl
  have S:=blk_free o.out.b6 6
  have y7:=blk_cell o.out.b6 7 (.int .i64 0) rfl
  have W:=blk_free o.out.b6 7
  have y8:=blk_cell o.out.b6 8 (.int .i64 G) rfl
  have U:=blk_free o.out.b6 8
  have z0:=blk_cell (o.out.cb _ (QB.2 rfl)) 0 (.string ⟨#[]⟩) rfl
  have a0:=blk_free (o.out.cb _ (QB.2 rfl)) 0
  have z1:=blk_cell (o.out.cb _ (QB.2 rfl)) 1 (.string ⟨#[]⟩) rfl
  have a8:=blk_free (o.out.cb _ (QB.2 rfl)) 1
  have z2:=blk_cell (o.out.cb _ (QB.2 rfl)) 2 (.bool false) rfl
  have aY:=blk_free (o.out.cb _ (QB.2 rfl)) 2
  have z3:=blk_cell (o.out.cb _ (QB.2 rfl)) 3 (.int .i64 0) rfl
  have aU:=blk_free (o.out.cb _ (QB.2 rfl)) 3
  have z4:=blk_cell (o.out.cb _ (QB.2 rfl)) 4 (.string ⟨#[]⟩) rfl
  have a7:=blk_free (o.out.cb _ (QB.2 rfl)) 4
  have z5:=blk_cell (o.out.cb _ (QB.2 rfl)) 5 (.slice none 0 0) rfl
  have aX:=blk_free (o.out.cb _ (QB.2 rfl)) 5
  have z6:=blk_cell (o.out.cb _ (QB.2 rfl)) 6 (.slice none 0 0) rfl
  have bf:=blk_free (o.out.cb _ (QB.2 rfl)) 6
  have z7:=blk_cell (o.out.cb _ (QB.2 rfl)) 7 (.int .i64 0) rfl
  have bh:=blk_free (o.out.cb _ (QB.2 rfl)) 7
  have z8:=blk_cell (o.out.cb _ (QB.2 rfl)) 8 (.int .i64 0) rfl
  have a4:=blk_free (o.out.cb _ (QB.2 rfl)) 8
  go_wp2_with fail
  refine bodyPost_ret (v:=.agg #[.string ⟨K.toArray⟩,.string ⟨L.toArray⟩,.bool true,.int .i64 k,.string t,.slice a1 I c1,.slice a2 J c2,.int .i64 a,.int .i64 G]) (by simp[results,Tryz.results177,go_sem,z0,z1,z2,z3,z4,z5,z6,z7,z8,n1,n2]) rfl ?_
  rw[HE.out]
  exact ⟨_,rfl,aq.out⟩
end Go.Proofs.YtefjgpkpplkkgaaGreatDoor
