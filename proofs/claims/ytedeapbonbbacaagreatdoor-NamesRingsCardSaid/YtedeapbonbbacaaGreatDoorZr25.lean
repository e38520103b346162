/-
  What stands while a document's problems are told.
-/
import Derived.Test.YtedeapbonbbacaaGreatDoorZr24
import Derived.Test.YtedeapbonbbacaaGreatDoorZr23
import Derived.Test.YtedeapbonbbacaaGreatDoorZr10
open List renaming length_cons → QO, mem_cons_self → QP, length_append → QS, mem_cons_of_mem → QT, length_map → QV, append_nil → ZN
open Nat renaming le_trans → QQ
namespace Go.Proofs.YtedeapbonbbacaaGreatDoor
set_option linter.unusedSimpArgs false
set_option linter.unusedVariables false
open Go Go.RowKit
theorem Bb {w:World} {base:Nat} {t:TypeId} {k n:Nat} {v:Value} {cs:List Value} (h:w.ownsRow base t k v n cs):∃a c,v=.slice a n c:=by
 rcases h.2 with⟨h1,h2⟩|⟨g,cap,cur,hv,_⟩
 ·exact⟨none,0,by rw[h1,h2]⟩
 ·exact⟨_,_,hv⟩
theorem Et (w:World) (P:Nat→Prop):∀l:List (List UInt8),AZ w P 1 (l.map D.str) (l.map encStr)
 | []=>.nil
 | x::r=>by
  have h:=AZ.cons (w:=w) (P:=P) (k:=1) (d:=.str x) (cs:=[.string ⟨x.toArray⟩]) (.str x) rfl (Et w P r);exact h
theorem Cl {w:World} {base:Nat} {v:Value} {l:List (List UInt8)} (h:w.ownsRow base 9 1 v l.length (l.map encStr)):Reads w (λ_=>True) (.seq 1 (l.map D.str)) [v] :=
 (AY.reads (w:=w) (P:=λ_=>False) (base:=base) (T:=9) (k:=1) (v:=v) (xs:=l.map D.str) ⟨⟨_,by rw[QV];exact h,Et w _ l⟩,λ_ _ h=>h⟩).to (AD.sub w (λ_ _ _=>trivial))
theorem KD (ops:List Dq.Op) (n:List UInt8):Nq.idx (ops.map Dq.Op.it) n=ops.findIdx? (λf=>decide (f.name=n)):=by
 unfold Nq.idx;rw[List.findIdx?_map];rfl
namespace Nq
theorem frsP_congr {us us':List (List UInt8)} (h:∀n,n∈us↔n∈us') (fs:List It):∀(l:List It) (i:Nat),frsP us fs i l=frsP us' fs i l
 | [],_=>rfl
 | f::r,i=>by
  rw[frsP,frsP,frsP_congr h fs r];unfold frP;simp only[h]
theorem opsP_snoc (ops fs:List It) (o:It):∀(l:List It) (i:Nat),opsP ops fs i (l++[o])=opsP ops fs i l++opP ops fs (i+l.length) o
 | [],i=>by rw[List.nil_append,opsP,opsP,opsP,ZN];rfl
 | x::r,i=>by rw[List.cons_append,opsP,opsP,opsP_snoc ops fs o r,List.append_assoc,QO,show i+1+r.length=i+(r.length+1) by omega]
theorem frsP_snoc (us:List (List UInt8)) (fs:List It) (o:It):∀(l:List It) (i:Nat),frsP us fs i (l++[o])=frsP us fs i l++frP us fs (i+l.length) o
 | [],i=>by rw[List.nil_append,frsP,frsP,frsP,ZN];rfl
 | x::r,i=>by rw[List.cons_append,frsP,frsP,frsP_snoc us fs o r,List.append_assoc,QO,show i+1+r.length=i+(r.length+1) by omega]
theorem opP_told (ops fs:List It) (i:Nat) (o:It):opP ops fs i o=told (decide (o.name=[])||decide (place (idx ops o.name)=(i:Int))) 152 o.at_++(told (!decide (o.name=[])||decide (ops.length=1)) 153 o.at_++unk fs o.sp):=by
 have e:place (idx ops o.name)=(i:Int)↔idx ops o.name=some i:=by
  cases idx ops o.name with
  | none=>simp[place]
  | some k =>
   show (k:Int)=(i:Int)↔some k=some i;rw[Option.some_inj];omega
 rw[show decide (place (idx ops o.name)=(i:Int))=decide (idx ops o.name=some i) from decide_eq_decide.2 e];unfold opP told;by_cases h1:o.name=[]<;>by_cases h2:idx ops o.name=some i<;>by_cases h3:ops.length=1<;>simp[h1,h2,h3]
theorem frP_told (us:List (List UInt8)) (fs:List It) (i:Nat) (f:It) (one:Bool) (h:decide (place (idx fs f.name)=(i:Int))=one) :
  frP us fs i f=told one 154 f.at_++(told (one&&decide (f.name∈us)) 155 f.at_++(told (!one||!decide (f.name∈reach fs f.sp)) 156 f.at_++unk fs f.sp)):=by
 have e:place (idx fs f.name)=(i:Int)↔idx fs f.name=some i:=by
  cases idx fs f.name with
  | none=>simp[place]
  | some k =>
   show (k:Int)=(i:Int)↔some k=some i;rw[Option.some_inj];omega
 subst h;rw[show decide (place (idx fs f.name)=(i:Int))=decide (idx fs f.name=some i) from decide_eq_decide.2 e];unfold frP told;by_cases h1:idx fs f.name=some i<;>by_cases h2:f.name∈us<;>by_cases h3:f.name∈reach fs f.sp<;>simp[h1,h2,h3]
theorem used_snoc (fs l:List It) (o:It):used fs (l++[o])=used fs l++reach fs o.sp:=by
 unfold used;rw[List.flatMap_append,List.flatMap_cons,List.flatMap_nil,ZN]
theorem told_le (ok:Bool) (r a:Int):(told ok r a).length≤1:=by unfold told;split<;>simp
theorem LJ (ops fs:List It) (i:Nat) (o:It):(opP ops fs i o).length≤2+o.sp.length:=by
 rw[opP_told,QS,QS];have:=told_le (decide (o.name=[])||decide (place (idx ops o.name)=(i:Int))) 152 o.at_;have:=told_le (!decide (o.name=[])||decide (ops.length=1)) 153 o.at_;have:=unk_le fs o.sp;omega
theorem Ks (us:List (List UInt8)) (fs:List It) (i:Nat) (f:It):(frP us fs i f).length≤3+f.sp.length:=by
 rw[frP_told us fs i f _ rfl,QS,QS,QS];have:=told_le (decide (place (idx fs f.name)=(i:Int))) 154 f.at_;have:=told_le (decide (place (idx fs f.name)=(i:Int))&&decide (f.name∈us)) 155 f.at_;have:=told_le (!decide (place (idx fs f.name)=(i:Int))||!decide (f.name∈reach fs f.sp)) 156 f.at_;have:=unk_le fs f.sp;omega
theorem opsP_le (ops fs:List It) (c:Nat):∀(l:List It) (i:Nat),(∀o∈l,o.sp.length≤c)→(opsP ops fs i l).length≤l.length*(2+c)
 | [],_,_=>by simp[opsP]
 | x::r,i,h=>by
  have A:=LJ ops fs i x;have B:=h x QP;have C:=opsP_le ops fs c r (i+1) (λo ho=>h o (QT _ ho));rw[opsP,QS,QO,Nat.succ_mul];omega
theorem frsP_le (us:List (List UInt8)) (fs:List It) (c:Nat):∀(l:List It) (i:Nat),(∀o∈l,o.sp.length≤c)→(frsP us fs i l).length≤l.length*(3+c)
 | [],_,_=>by simp[frsP]
 | x::r,i,h=>by
  have A:=Ks us fs i x;have B:=h x QP;have C:=frsP_le us fs c r (i+1) (λo ho=>h o (QT _ ho));rw[frsP,QS,QO,Nat.succ_mul];omega
theorem FS (fs:List It):∀(k:Nat) (seen next:List (List UInt8)),(go fs k seen next).length≤seen.length+k
 | 0,seen,_=>by rw[go];omega
 | k+1,seen,[]=>by rw[go];omega
 | k+1,seen,n::r=>by
  rw[go];cases hf:frag fs n with
  | none=>have:=FS fs k seen r;show (go fs k seen r).length≤_;omega
  | some f =>
   show (if n∈seen then _ else _:List (List UInt8)).length≤_;by_cases hn:n∈seen
   ·rw[if_pos hn];have:=FS fs k seen r;omega
   ·rw[if_neg hn];have:=FS fs k (seen++[n]) (r++f.sp.map Prod.fst);rw[QS,List.length_singleton]at this;omega
theorem reach_len (fs:List It) (l:List Sp):(reach fs l).length≤fuel fs [] (l.map Prod.fst):=by
 have:=FS fs (fuel fs [] (l.map Prod.fst)) [] (l.map Prod.fst)
 simpa [reach] using this
theorem mass_le (c:Nat) (seen:List (List UInt8)):∀fs:List It,(∀f∈fs,f.sp.length≤c)→DD seen fs≤fs.length*c
 | [],_=>by simp[DD]
 | f::r,h=>by
  have o:=h f QP;have A:=mass_le c seen r (λg hg=>h g (QT _ hg));rw[DD,QO,Nat.succ_mul];split<;>omega
end Nq
structure Nsm (ops:List Dq.Op) (fs:List Dq.Fr):Prop where
 lo:ops.length≤100
 lf:fs.length≤100
 so:∀o∈ops,Dq.Sel.numl o.sels≤100
 sf:∀f∈fs,Dq.Sel.numl f.sels≤100
 nf:∀f∈fs,f.name.length≤100
theorem ES (l:List Dq.Sel):(Dq.sp l).length≤Dq.Sel.numl l:=by unfold Dq.sp;rw[QV];exact Dq.Sel.sprl_num l
theorem Nsm.fuel {ops:List Dq.Op} {fs:List Dq.Fr} (h:Nsm ops fs) {l:List Dq.Sel} (hl:Dq.Sel.numl l≤100):Nq.fuel (fs.map Dq.Fr.it) [] ((Dq.sp l).map Prod.fst)≤10100:=by
 have o:=Nq.mass_le 100 [] (fs.map Dq.Fr.it) (λf hf=>by
  obtain⟨g,A,rfl⟩:=List.mem_map.1 hf;exact QQ (ES g.sels) (h.sf g A))
 rw[QV]at o;have B:=ES l;have C:=h.lf;unfold Nq.fuel;rw[QV];have:fs.length*100≤10000:=by omega
 omega
structure PS (b0:Nat) (w0:World) (bx:List (Nat×Obj)) (fv nv:Value) (l:List Cp.Pb) (us:List (List UInt8)) (w:World):Prop where
 tk:CE w (b0+1) (b0+1) fv l
 ow:w.ownsRow (b0+2) 9 1 nv us.length (us.map encStr)
 ap:∀g,nv.ownBlock=some g→fv.ownBlock≠some g
 bel:Below b0 w0 w
 kb:∀p∈bx,w.heap[p.1]?=some p.2∧fv.ownBlock≠some p.1∧nv.ownBlock≠some p.1∧p.1≠b0+1
section
variable {b0 : Nat} {w0 w w' w8 : World} {bx : List (Nat × Obj)} {fv fv' nv nv' : Value} {l l' : List Cp.Pb} {us ss : List (List UInt8)}
theorem PS.low (h:PS b0 w0 bx fv nv l us w):b0+2≤w.heap.size:=h.tk.lt
theorem PS.below (h:PS b0 w0 bx fv nv l us w) (hb:Below w.heap.size w w'):PS b0 w0 bx fv nv l us w' :=
 ⟨h.tk.keep hb,BG h.ow (λg hg=>hb.block g (h.ow.lt g hg).2),h.ap,h.bel.trans (hb.mono (by have:=h.low;omega)),λp hp=>by
  obtain⟨o,B,C,A⟩:=h.kb p hp;exact⟨(hb.block _ (block_lt o)).trans o,B,C,A⟩⟩
theorem PS.told (h:PS b0 w0 bx fv nv l us w) (hk:CE w' (b0+1) (b0+1) fv' l') (ht:Bd w w' (b0+1) fv fv'):PS b0 w0 bx fv' nv l' us w':=by
 have A:=h.low;refine⟨hk,BG h.ow (λg hg=>ht.but.block g (h.ow.lt g hg).2 (λe=>e.elim (λe=>by have:=(h.ow.lt g hg).1;omega) (h.ap g hg))),λg hg e=>?_,h.bel.trans ((ht.below h.tk).mono (by omega)),λp hp=>?_⟩
 ·rcases ht.own g e with e2|e2
  ·exact h.ap g hg e2
  ·have:=(h.ow.lt g hg).2;omega
 ·obtain⟨o,B,D,C⟩:=h.kb p hp;refine⟨(ht.but.block _ (block_lt o) (λe=>e.elim C B)).trans o,λe=>?_,D,C⟩;rcases ht.own _ e with e2|e2
  ·exact B e2
  ·have:=block_lt o;omega
theorem PS.used (h:PS b0 w0 bx fv nv l us w) (hrow:w8.ownsRow (b0+2) 9 1 nv' (us++ss).length ((us++ss).map encStr)) (hg:w.grownBy w8 nv.ownBlock) (hloc:nv'.ownBlock=nv.ownBlock∨nv'.ownBlock=some w.heap.size):PS b0 w0 bx fv nv' l (us++ss) w8:=by
 have F:=h.low;have C:∀x,x<w.heap.size→nv.ownBlock≠some x→w8.heap[x]?=w.heap[x]?:=λx hx3 hn=>hg.block x hx3 (λe=>hn e.symm)
 have o:∀x,x<w.heap.size→nv.ownBlock≠some x→nv'.ownBlock≠some x:=λx B D e=>by
  rcases hloc with e2|e2
  ·exact D (by rw[← e2];exact e)
  ·rw[e2]at e;simp only[Option.some.injEq]at e;omega
 have A:∀x,x<b0+2→nv.ownBlock≠some x:=λx hx e=>by have:=(h.ow.lt x e).1;omega
 refine⟨⟨(C _ h.tk.lt (A _ (by omega))).trans h.tk.box,h.tk.own.heap (λg hg2=>C g (h.tk.own.lt g hg2).2 (λe=>h.ap g e hg2)),h.tk.ne,h.tk.hx⟩,hrow,λg hg2 e=>o g (h.tk.own.lt g e).2 (λe2=>h.ap g e2 e) hg2,⟨hg.os.trans h.bel.os,hg.tape.trans h.bel.tape,hg.output.trans h.bel.output,QQ h.bel.size hg.size,λk hk=>(C k (by omega) (A k (by omega))).trans (h.bel.block k hk)⟩,λp hp=>?_⟩;obtain⟨B,D,E,G⟩:=h.kb p hp;exact⟨(C _ (block_lt B) E).trans B,D,o _ (block_lt B) E,G⟩
theorem PS.box (h:PS b0 w0 bx fv nv l us w) (o:Obj):PS b0 w0 ((w.heap.size,o)::bx) fv nv l us (w.alloc o):=by
 have B:Below w.heap.size w (w.alloc o):=(Below.refl _ _).alloc (Nat.le_refl _) _;have A:=h.below B;refine⟨A.tk,A.ow,A.ap,A.bel,λp hp=>?_⟩;rcases List.mem_cons.1 hp with rfl|hp
 ·exact⟨AC w o,λe=>by have:=(h.tk.own.lt _ e).2;simp at this,λe=>by have:=(h.ow.lt _ e).2;simp at this,by have:=h.low;show w.heap.size≠_;omega⟩
 ·exact A.kb p hp
theorem PS.less (h:PS b0 w0 bx fv nv l us w) {by_:List (Nat×Obj)} (hs:∀p∈by_,p∈bx):PS b0 w0 by_ fv nv l us w:=⟨h.tk,h.ow,h.ap,h.bel,λp hp=>h.kb p (hs p hp)⟩
theorem PS.old (h:PS b0 w0 bx fv nv l us w) (hs:w0.heap.size=b0) {P:Nat→Prop} {d:D} {cs:List Value} (hP:∀g,P g→g<b0) (hd:Reads w0 P d cs):Reads w P d cs :=
 hd.to (AD.below (by rw[hs];exact h.bel))
theorem PS.apart (h:PS b0 w0 bx fv nv l us w) {P:Nat→Prop} (hP:∀g,P g→g<b0):∀g,P g→g<w.heap.size∧g≠b0+1∧fv.ownBlock≠some g:=λg hg=>by
 have o:=hP g hg;have A:=h.low;exact⟨by omega,by omega,λe=>by have:=(h.tk.own.lt g e).1;omega⟩
theorem PS.tellAt (h:PS b0 w0 bx fv nv l us w) (hl:l.length≤1000000) (ok:Bool) (rule at_:Int) (q:Nat) (hq:w.cell? ⟨q,0,none⟩=some (.int .i64 at_)) :
  Calls Tryz.prog 12 #[.pointer (some ⟨b0+1,0,none⟩),.bool ok,.int .i64 rule,.slice (some ⟨q,0,none⟩) 1 1] w λe w'=>e=.returned (.tuple #[])∧∃fv',PS b0 w0 bx fv' nv (l++Nq.told ok rule at_) us w'∧(l++Nq.told ok rule at_).length≤l.length+1:=by
 refine (DX (b0+1) (b0+1) fv l ok rule at_ q 0 1 _ h.tk hl hq).mono ?_;rintro e w' ⟨rfl,fv',htk,hto⟩;exact⟨rfl,fv',h.told htk hto,by rw[QS];have:=Nq.told_le ok rule at_;omega⟩
theorem PS.tell (h:PS b0 w0 bx fv nv l us w) (hl:l.length≤1000000) (ok:Bool) (rule at_:Int) :
  Calls Tryz.prog 12 #[.pointer (some ⟨b0+1,0,none⟩),.bool ok,.int .i64 rule,.slice (some ⟨w.heap.size,0,none⟩) 1 1] (w.alloc (.cells #[.int .i64 at_] 3)) λe w'=>e=.returned (.tuple #[])∧∃fv',PS b0 w0 bx fv' nv (l++Nq.told ok rule at_) us w'∧(l++Nq.told ok rule at_).length≤l.length+1 :=
 (h.below ((Below.refl _ _).alloc (Nat.le_refl _) _)).tellAt hl ok rule at_ w.heap.size (AK w #[.int .i64 at_] 3 (0,0) 0 _ rfl)
theorem PS.spreads (h:PS b0 w0 bx fv nv l us w) (hs:w0.heap.size=b0) (fs:List Dq.Fr) (hl:fs.length≤1000000000) (a1:Option Addr) (n1 c1:Nat) (a2:Option Addr) (c2:Nat) (ls:List Dq.Sel) (hn:Dq.Sel.numl ls≤100) (a:Option Addr) (c:Nat) (P:Nat→Prop) (hP:∀g,P g→g<b0)
  (hRf:Reads w0 P (.seq 5 (fs.map Dq.Fr.d)) [.slice a2 fs.length c2]) (hRl:Reads w0 P (.seq 7 (ls.map Dq.Sel.d)) [.slice a ls.length c]) (hl0:l.length≤999000) :
  Calls Tryz.prog 15 #[.pointer (some ⟨b0+1,0,none⟩),.agg #[.slice a1 n1 c1,.slice a2 fs.length c2],.slice a ls.length c] w λe w'=>e=.returned (.tuple #[])∧∃fv',PS b0 w0 bx fv' nv (l++Nq.unk (fs.map Dq.Fr.it) (Dq.sp ls)) us w':=by
 have o:=ES ls;refine (FR (b0+1) (b0+1) fv l fs hl a1 n1 c1 a2 c2 ls (by omega) a c w P (h.apart hP) (h.old hs hP hRf) (h.old hs hP hRl) h.tk (by omega)).mono ?_;rintro e w' ⟨rfl,fv',htk,hto⟩;exact⟨rfl,fv',h.told htk hto⟩
theorem PS.reached (h:PS b0 w0 bx fv nv l us w) (hs:w0.heap.size=b0) {ops:List Dq.Op} {fs:List Dq.Fr} (hsm:Nsm ops fs) (a1:Option Addr) (n1 c1:Nat) (a2:Option Addr) (c2:Nat) (ls:List Dq.Sel) (hn:Dq.Sel.numl ls≤100) (a:Option Addr) (c:Nat) (P:Nat→Prop) (hP:∀g,P g→g<b0)
  (hRf:Reads w0 P (.seq 5 (fs.map Dq.Fr.d)) [.slice a2 fs.length c2]) (hRl:Reads w0 P (.seq 7 (ls.map Dq.Sel.d)) [.slice a ls.length c]) :
  Calls Tryz.prog 11 #[.agg #[.slice a1 n1 c1,.slice a2 fs.length c2],.slice a ls.length c] w λe w'=>∃(v:Value) (ss:List (List UInt8)),e=.returned v∧(∀n,n∈ss↔n∈Nq.reach (fs.map Dq.Fr.it) (Dq.sp ls))∧ss.length≤10100 ∧
   w'.ownsRow (b0+2) 9 1 v ss.length (ss.map encStr)∧PS b0 w0 bx fv nv l us w'∧Below w.heap.size w w':=by
 have A:=hsm.fuel hn;refine (Dd fs (QQ hsm.lf (by decide)) (λf hf=>QQ (hsm.nf f hf) (by decide)) (λf hf=>QQ (hsm.sf f hf) (by decide)) ls (QQ hn (by decide)) (by omega) a1 n1 c1 a2 c2 a c w P (λg hg=>(h.apart hP g hg).1) (h.old hs hP hRf) (h.old hs hP hRl)).mono ?_;rintro e w' ⟨v,ss,rfl,hpm,hrow,hb⟩;have o:=Nq.reach_len (fs.map Dq.Fr.it) (Dq.sp ls);refine⟨v,ss.mergeSort (λx y=>decide (x≤y)),rfl,λn=>by rw[List.mem_mergeSort,hpm.mem_iff],by rw[List.length_mergeSort,hpm.length_eq];omega,Cx (by rw[List.length_mergeSort];exact hrow) h.low,h.below hb,hb⟩
end
end Go.Proofs.YtedeapbonbbacaaGreatDoor
