/-
  The reader: Value, Arg at any depth; Args, walked. A row in a variable of a call's own, beside the reader. The reader of a text: New, walked. The reader of types: told, words, names, walked. The reader of types: a block that is filled field by field; input, member, walked. What stands while a part of a type is read; one element of a row.
-/
import Derived.Test.YtefjgpkpplkkgaaGreatDoorZp12
import Derived.Test.YtefjgpkpplkkgaaGreatDoorZp4
import Derived.Test.YtefjgpkpplkkgaaGreatDoorZp2
open Go.Lib renaming hid → QA
open List renaming length_append → QT, mem_cons → JA
open Nat renaming le_refl → QM, le_trans → QR
namespace Go.Proofs.YtefjgpkpplkkgaaGreatDoor
set_option linter.unusedSimpArgs false
set_option linter.unusedVariables false
open Go Go.RowKit
theorem rvalue_any (b g:Nat) (fixed:Bool):∀ (n:Nat),n≤1600→∀ (s:Rd.St) (w:World),RdAt w b g s→s.rest.length≤n→0≤s.deep∧s.deep+n≤900000 →
  Calls Tryz.prog 39 #[.pointer (some ⟨b,0,none⟩),.bool fixed] w (Got b g w (Rd.value fixed (n+1) s).2.d (Rd.value fixed (n+1) s).1)
 | 0,hnb,s,w,h,hn,hd=>rvalue_step b g fixed 0 s w h hn hnb hd (fun m hm=>absurd hm (by omega))
 | n+1,hnb,s,w,h,hn,hd=>rvalue_step b g fixed (n+1) s w h hn hnb hd (fun m hm s' w' h' hn' hd'=>by
  obtain rfl:n=m:=by omega
  exact rvalue_any b g fixed n (by omega) s' w' h' hn' hd')
theorem rargs1_any (b g:Nat) (fixed:Bool) (n:Nat) (hnb:n≤1600) (s:Rd.St) (w:World) (h:RdAt w b g s) (hn:s.rest.length≤n) (hd:0≤s.deep∧s.deep+n≤900000) :
  Calls Tryz.prog 105 #[.pointer (some ⟨b,0,none⟩),.bool fixed] w (Got b g w (Rd.arg fixed (n+1) s).2.d (Rd.arg fixed (n+1) s).1) :=
 rarg_any b g fixed (n+1) s w h (fun w' hr'=>rvalue_any b g fixed n hnb _ w' hr' (QR ((Rd.ok_name s).trans (Rd.ok_want Rd.colon _)).len hn) (by rw[Rd.want_deep,Rd.name_deep];exact hd))
def GotL (b g:Nat) (w:World) (k:Nat) (ds:List D) (s:Rd.St) (r:Ending) (w':World):Prop :=
 ∃ (a:Option Addr) (c:Nat),r=.returned (.slice a ds.length c)∧Reads w' (fun x=>w.heap.size≤x) (.seq k ds) [.slice a ds.length c]∧RdAt w' b g s∧Fr b w w'
def abx (w0:World) (b:Nat) (fixed:Bool):List Box :=
 [(w0.heap.size,.cells #[.pointer (some ⟨b,0,none⟩)] 160 (0,0)),(w0.heap.size+1,.cells #[.bool fixed] 4 (0,0))]
def ALI (w0:World) (b g:Nat) (fixed:Bool) (m:Nat) (d1:Int) (s:Rd.St) (out:List Rd.A) (w:World):Prop :=
 LI w0 b g (w0.heap.size+1+1) (abx w0 b fixed) 23 mkOne 72 7 s (out.map Rd.A.d) w∧s.deep=d1∧s.rest.length≤m∧(s.err=0→out.length+s.rest.length≤1602)∧out.length≤1603
theorem enters_AC (cap:Array Value) (w:World):Sem.run Tryz.prog (callFunc 229 cap) w=.ok (.enter 229 cap) w:=by kernel_rfl
set_option maxHeartbeats 1000000 in
set_option maxRecDepth 100000 in
theorem rargs_any (b g:Nat) (fixed:Bool) (n:Nat) (hnb:n≤1600) (s:Rd.St) (w:World) (h:RdAt w b g s) (hn:s.rest.length≤n) (hd:0≤s.deep∧s.deep+n≤900000) :
  Calls Tryz.prog 212 #[.pointer (some ⟨b,0,none⟩),.bool fixed] w (GotL b g w 7 ((Rd.args fixed (n+1) s).2.map Rd.A.d) (Rd.args fixed (n+1) s).1):=by
 have Q:=h.lt
 have H:=QA h
 have HN:=QA hn
 obtain ⟨d0,d1⟩:=hd
 clear h hn
 have D:LI w b g (w.heap.size+1+1) (abx w b fixed) 23 mkOne 72 7 s [] (((w.alloc (.cells #[.pointer (some ⟨b,0,none⟩)] 160)).alloc (.cells #[.bool fixed] 4)).alloc (.cells #[.slice none 0 0] 23)):=by
  have U:Below w.heap.size w (((w.alloc (.cells #[.pointer (some ⟨b,0,none⟩)] 160)).alloc (.cells #[.bool fixed] 4)).alloc (.cells #[.slice none 0 0] 23)) :=
   (((Below.refl _ _).alloc (QM _) _).alloc (by simp) _).alloc (by simp;omega) _
  refine ⟨H.out.below U,fun p hp=>?_,⟨.slice none 0 0,?_,Grows.nil _ _ _ _ _⟩,But.of_below U,Q.1,Q.2,fun p hp=>?_,by omega⟩
  ·unfold abx at hp
   simp only[JA,List.not_mem_nil,or_false] at hp
   rcases hp with rfl|rfl
   ·show (((w.alloc _).alloc _).alloc _).heap[w.heap.size]?=_
    rw[Lib.alloc_old _ _ _ (by simp;omega),Lib.alloc_old _ _ _ (by simp)];exact heap_at_new _ _
   ·show (((w.alloc _).alloc _).alloc _).heap[w.heap.size+1]?=_
    rw[Lib.alloc_old _ _ _ (by simp)]
    have:=heap_at_new (w.alloc (.cells #[.pointer (some ⟨b,0,none⟩)] 160)) (.cells #[.bool fixed] 4)
    simpa using this
  ·have:=heap_at_new ((w.alloc (.cells #[.pointer (some ⟨b,0,none⟩)] 160)).alloc (.cells #[.bool fixed] 4)) (.cells #[.slice none 0 0] 23)
   rw[show ((w.alloc (.cells #[.pointer (some ⟨b,0,none⟩)] 160)).alloc (.cells #[.bool fixed] 4)).heap.size=w.heap.size+1+1 by simp] at this
   exact this
  ·unfold abx at hp
   simp only[JA,List.not_mem_nil,or_false] at hp
   rcases hp with rfl|rfl<;>(simp only;omega)
 have I:=QA D
 have K:=D.cellx (t:=w.heap.size) (v:=.pointer (some ⟨b,0,none⟩)) (T:=160) (by simp[abx])
 clear D
 go_enter Tryz.func212,Tryz.ntmps212
 go_wp2_with fail
 refine (rtake_any b g s Rd.lpar _ I.out.rd).mono ?_
 rintro r w1 ⟨rfl,h1,f1⟩
 have o:=QA (I.out.step h1 f1)
 clear h1 f1 K
 obtain ⟨B,hB⟩:∃ B,B=Rd.isS s Rd.lpar:=⟨_,rfl⟩
 have O:=QA hB
 rw[← hB]
 clear hB
 cases B
 ·have Z:Hid (Rd.args fixed (n+1) s=(s,[])):=by
   unfold Rd.args
   rw[if_neg (by rw[← O.out];simp)]
   exact QA rfl
  have HT:Hid (Rd.take Rd.lpar s=s):=by
   unfold Rd.take
   rw[if_neg (by rw[← O.out];simp)]
   exact QA rfl
  obtain ⟨v,X,F⟩:=o.out.ex
  obtain ⟨W,V,rfl⟩:=F.form
  have k3:=blk_cell X 0 (.slice W 0 V) rfl
  have N:=QA F
  clear X F
  go_wp2_with fail
  go_ret
  rw[Z.out]
  refine ⟨W,V,rfl,?_,by have:=o.out.rd;rw[HT.out] at this;exact this,o.out.fr⟩
  exact N.out.reads.to (Stands.sub w1 (fun x _ hp=>by
   rcases hp with hp|hp
   ·have:=hp.1;show w.heap.size≤x;omega
   ·have:=QR (LB_t6 _ _) (N.out.lt x hp).1;show w.heap.size≤x;omega))
 ·have HT:Hid (Rd.take Rd.lpar s=Rd.next s):=by
   unfold Rd.take
   rw[if_pos O.out.symm]
   exact QA rfl
  have Z:Hid (Rd.args fixed (n+1) s=(Rd.want Rd.rpar (Rd.loop1 Rd.rpar (Rd.arg fixed (n+1)) (n+1) (Rd.next s)).1,(Rd.loop1 Rd.rpar (Rd.arg fixed (n+1)) (n+1) (Rd.next s)).2)):=by
   unfold Rd.args
   rw[if_pos O.out.symm]
   exact QA rfl
  have J:Hid (LI w b g (w.heap.size+1+1) (abx w b fixed) 23 mkOne 72 7 (Rd.next s) [] w1):=by rw[← HT.out];exact o
  have M:=QA (Rd.next_sign O.out.symm)
  have Y:Hid (∀ (s1:Rd.St) (out:List Rd.A) (w1:World),LI w b g (w.heap.size+1+1) (abx w b fixed) 23 mkOne 72 7 s1 (out.map Rd.A.d) w1→s1.rest.length≤n→s1.deep=s.deep→out.length≤1000000 →
    Calls Tryz.prog 229 #[.pointer (some ⟨w.heap.size+1+1,0,none⟩),.pointer (some ⟨w.heap.size,0,none⟩),.pointer (some ⟨w.heap.size+1,0,none⟩)] w1 fun r w'=>r=.returned (.tuple #[]) ∧
     LI w b g (w.heap.size+1+1) (abx w b fixed) 23 mkOne 72 7 (Rd.arg fixed (n+1) s1).1 ((out++[(Rd.arg fixed (n+1) s1).2]).map Rd.A.d) w') :=
   QA fun s1 out w1 hl hr hdp ho=>by
    rw[List.map_append]
    exact argsC_any w b g (w.heap.size+1+1) (abx w b fixed) w.heap.size (w.heap.size+1) fixed (n+1) (by simp[abx]) (by simp[abx]) s1 (out.map Rd.A.d) w1
     (fun w2 hr2=>rargs1_any b g fixed n hnb s1 w2 hr2 hr (by rw[hdp];omega)) hl (by rw[List.length_map];exact ho)
  have S:Hid (∀ s,(Rd.arg fixed (n+1) s).1.deep=s.deep):=QA (Rd.argOf_deep _ (Rd.value_deep fixed (n+1)))
  have P:Hid (∀ s,Rd.Ok s (Rd.arg fixed (n+1) s).1):=QA (Rd.ok_argOf _ (Rd.ok_value fixed (n+1)))
  have R:=QA (Rd.next_deep s)
  have G:=QA (fun s1 he=>Rd.arg_goes fixed (n+1) s1 he)
  have af:(Rd.next s).rest.length+1≤n:=by have:=M.out.1;have:=HN.out;omega
  have K:w1.cell? ⟨w.heap.size,0,none⟩=some (.pointer (some ⟨b,0,none⟩)):=J.out.cellx (T:=160) (by simp[abx])
  go_wp2_with fail
  refine (some1_any Rd.rpar (Rd.arg fixed (n+1)) (ALI w b g fixed n s.deep) b g _ _ (enters_AC _) (fun s out w' h=>h.1.rd) (fun s out w1 w2 h hb=>⟨h.1.below hb,h.2⟩) (fun s1 out w2 h he=>?_) (fun s1 out w2 h he _=>G.out s1 he) (n+1) (Rd.next s) w1 ?_ ?_).mono ?_
  ·refine (Y.out s1 out w2 h.1 h.2.2.1 h.2.1 (by have:=h.2.2.2.2;omega)).mono ?_
   rintro r w3 ⟨hre,hli⟩
   refine ⟨hre,hli,by rw[S.out];exact h.2.1,QR (P.out s1).len h.2.2.1,fun he2=>?_,by have:=h.2.2.2.1 he;rw[QT];simp;omega⟩
   rcases G.out s1 he with hx|hx
   ·exact absurd he2 hx
   ·have:=h.2.2.2.1 he
    rw[QT]
    simp
    omega
  ·refine (Y.out (Rd.next s) [] w1 J.out (by omega) R.out (by simp)).mono ?_
   rintro r w3 ⟨hre,hli⟩
   have ad:=(P.out (Rd.next s)).len
   exact ⟨hre,hli,by rw[S.out];exact R.out,by omega,fun _=>by simp;omega,by simp⟩
  ·rcases G.out (Rd.next s) M.out.2 with hx|hx
   ·exact .inl hx
   ·exact .inr (by omega)
  rintro r w5 ⟨rfl,hL⟩
  obtain ⟨L,C⟩:∃ x,x=Rd.loop1 Rd.rpar (Rd.arg fixed (n+1)) (n+1) (Rd.next s):=⟨_,rfl⟩
  rw[← C] at hL
  have ac:=QA C
  have HL:=QA hL
  clear K C hL
  have K:w5.cell? ⟨w.heap.size,0,none⟩=some (.pointer (some ⟨b,0,none⟩)):=HL.out.1.cellx (T:=160) (by simp[abx])
  go_wp2_with fail
  refine (rwant_any b g L.1 Rd.rpar w5 HL.out.1.rd).mono ?_
  rintro r w6 ⟨rfl,h6,f6⟩
  have E:=QA (HL.out.1.step h6 f6)
  obtain ⟨v,X,F⟩:=E.out.ex
  obtain ⟨W,V,rfl⟩:=F.form
  have k3:=blk_cell X 0 (.slice W (L.2.map Rd.A.d).length V) rfl
  have N:=QA F
  clear X F h6 f6 K
  go_wp2_with fail
  go_ret
  rw[Z.out,← ac.out]
  refine ⟨W,V,by simp,?_,E.out.rd,E.out.fr⟩
  exact N.out.reads.to (Stands.sub w6 (fun x _ hp=>by
   rcases hp with hp|hp
   ·have:=hp.1;show w.heap.size≤x;omega
   ·have:=QR (LB_t6 _ _) (N.out.lt x hp).1;show w.heap.size≤x;omega))
structure GI (w0:World) (b g:Nat) (E:TypeId) (k:Nat) (s:Rd.St) (v:Value) (ds:List D) (w:World):Prop where
 rd:RdAt w b g s
 row:Grows w (fun x=>w0.heap.size≤x∧v.ownBlock≠some x) w0.heap.size E k v ds
 fr:Fr b w0 w
 lb:b<w0.heap.size
 lg:g<w0.heap.size
section
variable {w0 w w' w8 : World} {b g k : Nat} {E : TypeId} {s s' : Rd.St} {v v' : Value} {ds : List D} {d : D} {cs xs : List Value}
theorem GI.nil (h:RdAt w b g s) (E:TypeId) (k:Nat):GI w b g E k s (.slice none 0 0) [] w :=
 ⟨h,Grows.nil _ _ _ _ _,But.refl _ _,h.lt.1,h.lt.2⟩
theorem GI.step (h:GI w0 b g E k s v ds w) (hr:RdAt w' b g s') (hf:Fr b w w'):GI w0 b g E k s' v ds w':=by
 have lb:=h.lb
 have o:=h.fr.size
 exact ⟨hr,h.row.to ⟨hf.size,fun x hx hp=>⟨hp,hf.block x hx (by omega)⟩⟩ (fun x hx=>⟨fun hp=>hp.2 hx,hf.block x (h.row.lt x hx).2 (by have:=(h.row.lt x hx).1;omega)⟩),h.fr.trans hf,h.lb,h.lg⟩
theorem GI.below (h:GI w0 b g E k s v ds w) (hb:Below w.heap.size w w'):GI w0 b g E k s v ds w':=h.step (h.rd.below hb) (But.of_below hb)
theorem GI.more (h:GI w0 b g E k s v ds w) (hx:w.ownsRow w0.heap.size E k v ds.length xs) (hR:RowsD w (fun x=>w0.heap.size≤x∧v.ownBlock≠some x) k ds xs) (hd:Reads w (fun x=>w0.heap.size≤x∧v.ownBlock≠some x) d cs)
  (hlen:cs.length=k) (hg:w.grownBy w8 v.ownBlock) (hloc:v'.ownBlock=v.ownBlock∨v'.ownBlock=some w.heap.size) (hrow:w8.ownsRow w0.heap.size E k v' (ds.length+1) (xs++cs)):GI w0 b g E k s v' (ds++[d]) w8:=by
 have lb:=h.lb
 have lg:=h.lg
 have B:=hx.lt
 have A:∀ x,x<w.heap.size→v.ownBlock≠some x→w8.heap[x]?=w.heap[x]?:=fun x hx3 hn=>hg.block x hx3 (fun e=>hn e.symm)
 have low:∀ x,x<w0.heap.size→v.ownBlock≠some x:=fun x hx2 e=>by have:=B x e;omega
 have o:Stands w (fun x=>w0.heap.size≤x∧v.ownBlock≠some x) w8 (fun x=>w0.heap.size≤x∧v'.ownBlock≠some x):=⟨hg.size,fun x hx2 hp=>⟨⟨hp.1,fun e=>by
  rcases hloc with e2|e2
  ·exact hp.2 (by rw[← e2];exact e)
  ·rw[e2] at e
   simp only[Option.some.injEq] at e
   omega⟩,A x hx2 hp.2⟩⟩
 refine ⟨h.rd.to hg.size (A b h.rd.lt.1 (low b lb)) (A g h.rd.lt.2 (low g lg)),⟨⟨xs++cs,?_,(hR.to o).snoc (hd.to o) hlen⟩,fun x e hp=>hp.2 e⟩,⟨hg.os.trans h.fr.os,hg.tape.trans h.fr.tape,hg.output.trans h.fr.output,QR h.fr.size hg.size,fun x hx3 hxb=>by rw[A x (Nat.lt_of_lt_of_le hx3 h.fr.size) (low x hx3)];exact h.fr.block x hx3 hxb⟩,lb,lg⟩
 rw[QT]
 exact hrow
theorem GI.reads (h:GI w0 b g E k s v ds w):Reads w (fun x=>w0.heap.size≤x) (.seq k ds) [v] :=
 h.row.reads.to (Stands.sub w (fun x _ hp=>by
  rcases hp with hp|hp
  ·exact hp.1
  ·exact (h.row.lt x hp).1))
theorem GI.data (h:GI w0 b g E k s v ds w) (hd:Reads w' (fun x=>w.heap.size≤x) d cs):Reads w' (fun x=>w0.heap.size≤x∧v.ownBlock≠some x) d cs :=
 hd.to (Stands.sub w' (fun x _ hp=>⟨QR h.fr.size hp,fun e=>by have A:=(h.row.lt x e).2;have o:w.heap.size≤x:=hp;omega⟩))
end
theorem chain_toks {s:ByteArray}:∀ {ts:List Lx.Tok} {p q:Nat},Chain s p ts q→∀ t∈ts,t.kind≤5∧1≤t.kind∧t.at_<s.size
 | [],_,_,_,t,ht=>by simp at ht
 | x::ts,p,q,h,t,ht=>by
  rcases JA.1 ht with rfl|ht
  ·exact ⟨h.1.k5,h.1.k1,h.1.hi⟩
  ·exact chain_toks h.2 t ht
theorem lex_size {l:List UInt8} {ts:List Lx.Tok} (h:Lx.lex l=.ok ts):l.length≤4096:=by
 unfold Lx.lex at h
 split at h
 ·cases h
 ·omega
theorem tsOk_of {s:ByteArray} {ts:List Lx.Tok} (h:Lx.lex s.data.toList=.ok ts) (hs:Std s ts):TsOk ts∧0<ts.length:=by
 have F:s.size≤4096:=lex_size h
 obtain ⟨o,rfl,A⟩:=hs.chain
 have E:∀ t∈o,t.text.length≤1000000000:=by
  have D:=h
  unfold Lx.lex at D
  rw[if_neg (by have:s.data.toList.length=s.size:=rfl;omega)] at D
  obtain ⟨B,e,G⟩:=Lx.lexGo_good _ _ _ _ _ (by have:s.data.toList.length=s.size:=rfl;omega) D
  rw[List.nil_append] at e
  have:o=B:=(List.append_inj_left' e rfl)
  subst this
  exact fun t ht=>(G t ht).2
 have C:∀ t∈o++[(⟨0,[],s.size⟩:Lx.Tok)],t∈o∨t=⟨0,[],s.size⟩:=fun t ht=>by simpa using ht
 refine ⟨⟨hs.len,fun t ht=>?_,fun t ht=>?_,fun t ht=>?_,fun t ht=>?_⟩,by simp⟩
 ·rw[QT,List.length_singleton,Nat.add_sub_cancel,List.getElem?_append_right (QM _),Nat.sub_self] at ht
  simp at ht
  rw[← ht]
 ·rcases C t ht with h|rfl
  ·exact (chain_toks A t h).1
  ·simp
 ·rcases C t ht with h|rfl
  ·exact E t h
  ·simp
 ·rcases C t ht with h|rfl
  ·have:=(chain_toks A t h).2.2;omega
  ·exact F
def StdAll (l:List UInt8):Prop:=∀ ts,Lx.lex l=.ok ts→Std ⟨l.toArray⟩ ts
def NewPost (l:List UInt8) (w:World) (r:Ending) (w':World):Prop :=
 Below w.heap.size w w'∧StdAll l∧∃ (g cap:Nat) (ts:List Lx.Tok) (a e:Nat),r=.returned (.agg #[.slice (some ⟨g,0,none⟩) ts.length cap,.int .i64 0,.int .i64 0,.int .i64 a,.int .i64 e])∧w.heap.size≤g∧TokRow w' g ts∧TsOk ts∧0<ts.length ∧
  Rd.begin_ l=⟨ts,0,a,e⟩
theorem NewPost.rdAt {l:List UInt8} {w:World} {b g cap:Nat} {ts:List Lx.Tok} {a e:Nat} {T:TypeId} (hb:w.heap[b]?=some (.cells #[.slice (some ⟨g,0,none⟩) ts.length cap,.int .i64 0,.int .i64 0,.int .i64 a,.int .i64 e] T (0,0)))
  (hr:TokRow w g ts) (hne:g≠b) (hok:TsOk ts) (hpos:0<ts.length) (hbg:Rd.begin_ l=⟨ts,0,a,e⟩):RdAt w b g (Rd.begin_ l):=by
 rw[hbg]
 exact ⟨⟨T,cap,ts,0,hb,hr,rfl,hpos,hok⟩,hne⟩
theorem new_below {w w1:World} (hb:Below w.heap.size w w1) (cs:List Value):Below w.heap.size w (putCells w1 w.heap.size 0 cs):=by
 have o:=putCells_os w.heap.size cs 0 w1
 exact ⟨o.1.trans hb.os,o.2.1.trans hb.tape,o.2.2.trans hb.output,by rw[putCells_size];exact hb.size,fun k hk=>by rw[putCells_ne _ _ (by omega)];exact hb.block k hk⟩
theorem new_row {w1:World} {g x:Nat} {ts:List Lx.Tok} (h:TokRow w1 g ts) (hne:g≠x) (cs:List Value):TokRow (putCells w1 x 0 cs) g ts :=
 h.heap (by rw[putCells_size];exact QM _) (putCells_ne _ _ hne _ _ _)
theorem row_one (w:World) (T:TypeId):TokRow (w.alloc (.cells #[.int .i64 0,.string ⟨#[]⟩,.int .i64 0] T)) w.heap.size [⟨0,[],0⟩]:=by
 refine ⟨by simp,fun i t ht=>?_,fun i t ht=>?_,fun i t ht=>?_⟩ <;>
 ·have hi:i=0:=by have:=(List.getElem?_eq_some_iff.1 ht).1;simp at this;omega
  subst hi
  simp at ht
  subst ht
  exact cell_at_new _ _ _ _ _ _ rfl
theorem tsOk_one:TsOk [(⟨0,[],0⟩:Lx.Tok)]:=⟨by simp,fun t ht=>by simp at ht;rw[← ht],fun t ht=>by simp at ht;subst ht;simp,fun t ht=>by simp at ht;subst ht;simp,fun t ht=>by simp at ht;subst ht;simp⟩
set_option maxHeartbeats 1000000 in
set_option maxRecDepth 100000 in
theorem rnew_any (s:ByteArray) (w:World) (hs:s.size≤9223372036854775807) (hE:Env w) (h3:3≤w.heap.size) :
  Calls Tryz.prog 38 #[.string s] w (NewPost s.data.toList w):=by
 have HE:=QA hE
 have B:Below w.heap.size w (w.alloc (.cells #[.slice none 0 0,.int .i64 0,.int .i64 0,.int .i64 0,.int .i64 0] 77)):=(Below.refl _ _).alloc (QM _) _
 have M:=QA B
 have af:=B.size
 clear hE
 go_enter Tryz.func38,Tryz.ntmps38
 go_wp2_with fail
 refine (lex_any s _ hs (HE.out.below B) (by omega)).mono ?_
 rintro r w1 ⟨hb1,hres⟩
 clear B
 have D:=QA (M.out.trans (hb1.mono M.out.size))
 have I:Hid (w1.heap[w.heap.size]?=some (.cells #[.slice none 0 0,.int .i64 0,.int .i64 0,.int .i64 0,.int .i64 0] 77 (0,0))):=QA (by rw[hb1.block w.heap.size (by simp)];exact heap_at_new _ _)
 have R:=QA hb1.size
 clear hb1
 obtain ⟨V,T,U,W,X⟩:=blk5 I.out rfl rfl rfl rfl rfl
 have f0:=blk_free I.out 0
 have f1:=blk_free I.out 1
 have f2:=blk_free I.out 2
 have f3:=blk_free I.out 3
 have f4:=blk_free I.out 4
 rcases hres with ⟨ts,v,hlx,rfl,ht,hstd⟩|⟨a,c,hlx,rfl,hc⟩
 ·obtain ⟨S,H⟩:=tsOk_of hlx hstd
  obtain ⟨g,E,rfl,hg,G⟩:=ht.openRow H
  have O:Hid (StdAll s.data.toList):=QA fun ts' h'=>by
   rw[hlx] at h'
   obtain rfl:=Lx.Res.ok.inj h'
   exact hstd
  have Y:=QA S
  have C:=QA hlx
  have L:=QA G
  have P:=QA hg
  clear S hlx G ht hstd hg
  have A:g≠w.heap.size:=by have:=P.out;simp at this;omega
  have K:=QA (new_below D.out [.slice (some ⟨g,0,none⟩) ts.length E,.int .i64 0,.int .i64 0,.int .i64 0,.int .i64 0])
  have J:=QA (new_row L.out A [.slice (some ⟨g,0,none⟩) ts.length E,.int .i64 0,.int .i64 0,.int .i64 0,.int .i64 0])
  go_wp2_with fail
  have N:=K.out
  have Q:=J.out
  simp only[putCells,Nat.reduceAdd,Nat.zero_add] at N Q
  refine bodyPost_ret (v:=.agg #[.slice (some ⟨g,0,none⟩) ts.length E,.int .i64 0,.int .i64 0,.int .i64 0,.int .i64 0]) (by simp[results,Tryz.results38,go_sem,V,T,U,W,X]) rfl ?_
  exact ⟨N,O.out,g,E,ts,0,0,rfl,by have:=P.out;simp at this;omega,Q,Y.out,H,by unfold Rd.begin_;rw[C.out]⟩
 ·have ae:((c:Int) != 0)=true:=neT (by omega)
  have F:Below w1.heap.size w1 (w1.alloc (.cells #[.int .i64 0,.string ⟨#[]⟩,.int .i64 0] 136)):=(Below.refl _ _).alloc (QM _) _
  have K:=QA (new_below (D.out.trans (F.mono D.out.size)) [.slice (some ⟨w1.heap.size,0,none⟩) 1 1,.int .i64 0,.int .i64 0,.int .i64 a,.int .i64 c])
  have A:w1.heap.size≠w.heap.size:=by have:=R.out;simp at this;omega
  have n1:¬ w1.heap.size=w.heap.size:=A
  have n2:¬ w.heap.size=w1.heap.size:=fun e=>A e.symm
  have J:=QA (new_row (row_one w1 136) A [.slice (some ⟨w1.heap.size,0,none⟩) 1 1,.int .i64 0,.int .i64 0,.int .i64 a,.int .i64 c])
  have C:=QA hlx
  have Z:=QA D.out.size
  have o:Hid ((w1.alloc (.cells #[.int .i64 0,.string ⟨#[]⟩,.int .i64 0] 136)).heap[w.heap.size]?=some (.cells #[.slice none 0 0,.int .i64 0,.int .i64 0,.int .i64 0,.int .i64 0] 77 (0,0))):=QA (by
   rw[Lib.alloc_old _ _ _ (by have:=R.out;simp at this;omega)];exact I.out)
  clear F hlx V T U W X f0 f1 f2 f3 f4
  obtain ⟨V,T,U,W,X⟩:=blk5 o.out rfl rfl rfl rfl rfl
  have f0:=blk_free o.out 0
  have f1:=blk_free o.out 1
  have f2:=blk_free o.out 2
  have f3:=blk_free o.out 3
  have f4:=blk_free o.out 4
  go_wp2_with fail
  have N:=K.out
  have Q:=J.out
  simp only[putCells,Nat.reduceAdd,Nat.zero_add] at N Q
  refine bodyPost_ret (v:=.agg #[.slice (some ⟨w1.heap.size,0,none⟩) 1 1,.int .i64 0,.int .i64 0,.int .i64 a,.int .i64 c]) (by simp[results,Tryz.results38,go_sem,V,T,U,W,X]) rfl ?_
  exact ⟨N,(fun ts' h'=>by rw[C.out] at h';cases h'),w1.heap.size,1,[⟨0,[],0⟩],a,c,rfl,Z.out,Q,tsOk_one,by simp,by unfold Rd.begin_;rw[C.out]⟩
def sds (l:List (List UInt8)):List D:=l.map D.str
structure NI (w0:World) (b g:Nat) (s:Rd.St) (v:Value) (out:List (List UInt8)) (w:World):Prop where
 rd:RdAt w b g s
 row:Grows w (fun _=>False) w0.heap.size 9 1 v (sds out)
 fr:Fr b w0 w
 lb:b<w0.heap.size
 lg:g<w0.heap.size
theorem NI.step {w0 w w':World} {b g:Nat} {s s':Rd.St} {v:Value} {out:List (List UInt8)} (h:NI w0 b g s v out w) (hr:RdAt w' b g s') (hf:Fr b w w'):NI w0 b g s' v out w':=by
 have lb:=h.lb
 have o:=h.fr.size
 exact ⟨hr,h.row.to ⟨hf.size,fun x _ hp=>hp.elim⟩ (fun x hx=>⟨fun hp=>hp,hf.block x (h.row.lt x hx).2 (by have:=(h.row.lt x hx).1;omega)⟩),h.fr.trans hf,h.lb,h.lg⟩
theorem sds_len (l:List (List UInt8)):(sds l).length=l.length:=by simp[sds]
theorem NI.more {w0 w w8:World} {b g:Nat} {s:Rd.St} {v v':Value} {out:List (List UInt8)} {t:List UInt8} (h:NI w0 b g s v out w) (hg:w.grownBy w8 v.ownBlock)
  {xs:List Value} (hx2:w.ownsRow w0.heap.size 9 1 v out.length xs) (hR:RowsD w (fun _=>False) 1 (sds out) xs) (hrow:w8.ownsRow w0.heap.size 9 1 v' (out.length+1) (xs++[.string ⟨t.toArray⟩])):NI w0 b g s v' (out++[t]) w8:=by
 have lb:=h.lb
 have lg:=h.lg
 have B:=hx2.lt
 have A:∀ x,x<w0.heap.size→w8.heap[x]?=w.heap[x]?:=fun x hx3=>hg.block x (Nat.lt_of_lt_of_le hx3 h.fr.size) (fun e=>by have:=(B x e.symm).1;omega)
 refine ⟨h.rd.to hg.size (A b lb) (A g lg),⟨⟨xs++[.string ⟨t.toArray⟩],?_,?_⟩,fun x _ hp=>hp⟩,⟨hg.os.trans h.fr.os,hg.tape.trans h.fr.tape,hg.output.trans h.fr.output,QR h.fr.size hg.size,fun x hx3 hxb=>by rw[A x hx3];exact h.fr.block x hx3 hxb⟩,lb,lg⟩
 ·rw[sds_len,QT]
  exact hrow
 ·have o:Stands w (fun _=>False) w8 (fun _=>False):=⟨hg.size,fun x _ hp=>hp.elim⟩
  have:sds (out++[t])=sds out++[D.str t]:=by simp[sds]
  rw[this]
  exact (hR.to o).snoc (.str t) rfl
structure BI (w0:World) (b g t6:Nat) (bx:List Box) (T6:TypeId) (c6:Array Value) (s:Rd.St) (w:World):Prop where
 rd:RdAt w b g s
 cb:∀ p∈bx,w.heap[p.1]?=some p.2
 b6:w.heap[t6]?=some (.cells c6 T6 (0,0))
 fr:Fr b w0 w
 lb:b<w0.heap.size
 lg:g<w0.heap.size
 lx:∀ p∈bx,w0.heap.size≤p.1∧p.1<t6
 l6:w0.heap.size≤t6
section
variable {w0 w w' : World} {b g t6 : Nat} {bx : List Box} {T6 : TypeId} {c6 : Array Value} {s s' : Rd.St}
theorem BI.step (h:BI w0 b g t6 bx T6 c6 s w) (hr:RdAt w' b g s') (hf:Fr b w w'):BI w0 b g t6 bx T6 c6 s' w':=by
 have lb:=h.lb
 have l6:=h.l6
 refine ⟨hr,fun p hp=>?_,?_,h.fr.trans hf,lb,h.lg,h.lx,l6⟩
 ·have o:=h.cb p hp
  have A:=h.lx p hp
  rw[hf.block p.1 (block_lt o) (by omega)]
  exact o
 ·rw[hf.block t6 (block_lt h.b6) (by omega)]
  exact h.b6
theorem BI.below (h:BI w0 b g t6 bx T6 c6 s w) (hb:Below w.heap.size w w'):BI w0 b g t6 bx T6 c6 s w':=h.step (h.rd.below hb) (But.of_below hb)
theorem BI.put (h:BI w0 b g t6 bx T6 c6 s w) (j:Nat) (v:Value):BI w0 b g t6 bx T6 (c6.setIfInBounds j v) s (w.setCell ⟨t6,j,none⟩ v):=by
 have lb:=h.lb
 have lg:=h.lg
 have l6:=h.l6
 refine ⟨h.rd.set_ne (by omega) (by omega) _ _,fun p hp=>?_,heap_set1 h.b6,h.fr.setCell (.inr l6) v,lb,lg,h.lx,l6⟩
 have o:=h.lx p hp
 rw[heap_set_ne (by omega)]
 exact h.cb p hp
theorem BI.cellx (h:BI w0 b g t6 bx T6 c6 s w) {t:Nat} {v:Value} {T:TypeId} (hp:(t,Obj.cells #[v] T (0,0))∈bx):w.cell? ⟨t,0,none⟩=some v:=by
 have:=h.cb _ hp
 simp only at this
 simp[World.cell?,this]
theorem BI.fin {d:D} {cs:List Value} {P:Nat→Prop} {r:Nat} {o:Obj} (h:BI w0 b g t6 bx T6 cs.toArray s w) (hr:(r,o)∈bx) (hd:Reads w P d cs) (hP:∀ x,P x→t6<x) :
  Reads (putCells w r 0 cs) (fun x=>w0.heap.size≤x) d cs∧RdAt (putCells w r 0 cs) b g s∧Fr b w0 (putCells w r 0 cs):=by
 have lb:=h.lb
 have lg:=h.lg
 have l6:=h.l6
 have C:=h.lx _ hr
 simp only at C
 have B:∀ x,x≠r→(putCells w r 0 cs).heap[x]?=w.heap[x]?:=fun x h1=>putCells_ne _ _ h1 _ _ _
 have A:=putCells_size r cs 0 w
 have E:=putCells_os r cs 0 w
 refine ⟨hd.to ⟨by rw[A];exact QM _,fun x hx hp=>⟨by have:=hP x hp;show w0.heap.size≤x;omega,B x (by have:=hP x hp;omega)⟩⟩,h.rd.to (by rw[A];exact QM _) (B b (by omega)) (B g (by omega)),⟨E.1.trans h.fr.os,E.2.1.trans h.fr.tape,E.2.2.trans h.fr.output,by rw[A];exact h.fr.size,fun x hx hxb=>by
  rw[B x (by omega)]
  exact h.fr.block x hx hxb⟩⟩
end
namespace Sd
def In.d (x:In):D:=.obj [.str x.name,.str x.type,.bool x.has,x.dflt.d,.int x.at_]
def Fd.d (x:Fd):D:=.obj [.str x.name,.seq 9 (x.args.map In.d),.str x.type,.int x.at_]
def Td.d (x:Td):D:=.obj [.int x.kind,.str x.name,.seq 1 (sds x.impl),.seq 4 (x.fields.map Fd.d),.seq 1 (sds x.members),.seq 9 (x.inputs.map In.d),.int x.at_]
end Sd
def FLI {α:Type} (w0:World) (b g t6:Nat) (bx:List Box) (T6:TypeId) (mk:Value→Array Value) (E:TypeId) (k:Nat) (dd:α→D) (m:Nat) (d1:Int) (s:Rd.St) (out:List α) (w:World):Prop :=
 LI w0 b g t6 bx T6 mk E k s (out.map dd) w∧s.deep=d1∧s.rest.length≤m∧(s.err=0→out.length+s.rest.length≤1602)∧out.length≤1603
theorem BI.li {w0 w:World} {b g t6 k:Nat} {bx:List Box} {T6 E:TypeId} {mk:Value→Array Value} {s:Rd.St} (h:BI w0 b g t6 bx T6 (mk (.slice none 0 0)) s w):LI w0 b g t6 bx T6 mk E k s [] w :=
 ⟨h.rd,h.cb,⟨_,h.b6,Grows.nil _ _ _ _ _⟩,h.fr,h.lb,h.lg,fun p hp=>⟨(h.lx p hp).1,by have:=(h.lx p hp).2;omega⟩,h.l6⟩
theorem LI.bi {w0 w:World} {b g t6 k:Nat} {bx:List Box} {T6 E:TypeId} {mk:Value→Array Value} {s:Rd.St} {ds:List D} (h:LI w0 b g t6 bx T6 mk E k s ds w) {bx':List Box} (hs:∀ p∈bx',p∈bx∧p.1<t6) :
  ∃ a c,BI w0 b g t6 bx' T6 (mk (.slice a ds.length c)) s w∧Reads w (fun x=>t6<x) (.seq k ds) [.slice a ds.length c]:=by
 obtain ⟨v,A,o⟩:=h.ex
 obtain ⟨a,c,rfl⟩:=o.form
 have B:=LB_t6 t6 bx
 exact ⟨a,c,⟨h.rd,fun p hp=>h.cb p (hs p hp).1,A,h.fr,h.lb,h.lg,fun p hp=>⟨(h.lx0 p (hs p hp).1).1,(hs p hp).2⟩,h.l6⟩,o.reads.to (Stands.sub w (fun x _ hp=>by
  rcases hp with hp|hp
  ·exact hp.1
  ·have:=(o.lt x hp).1;show t6<x;omega))⟩
theorem In_cells {w:World} {P:Nat→Prop} {x:Sd.In} {cs:List Value} (h:Reads w P x.d cs):∃ (nm ty t:ByteArray) (hb:Bool) (k a b':Int) (a1 a2:Option Addr) (n1 c1 n2 c2:Nat),cs=[.string nm,.string ty,.bool hb,.int .i64 k,.string t,.slice a1 n1 c1,.slice a2 n2 c2,.int .i64 a,.int .i64 b']:=by
 unfold Sd.In.d at h
 obtain ⟨M,Q,rfl,E,D⟩:=h.obj_inv.cons_inv
 obtain ⟨R,S,rfl,B,G⟩:=D.cons_inv
 obtain ⟨K,O,rfl,o,H⟩:=G.cons_inv
 obtain ⟨L,J,rfl,C,I⟩:=H.cons_inv
 obtain ⟨T,N,rfl,F,A⟩:=I.cons_inv
 obtain rfl:=E.str_inv
 obtain rfl:=B.str_inv
 obtain rfl:=o.bool_inv
 obtain ⟨k,a,t,a1,a2,n1,c1,n2,c2,rfl⟩:=V_cells C
 obtain rfl:=F.int_inv
 obtain rfl:=A.nil_inv
 exact ⟨_,_,_,_,_,_,_,_,_,_,_,_,_,rfl⟩
section
variable {w : World} {P : Nat → Prop}
end
end Go.Proofs.YtefjgpkpplkkgaaGreatDoor
