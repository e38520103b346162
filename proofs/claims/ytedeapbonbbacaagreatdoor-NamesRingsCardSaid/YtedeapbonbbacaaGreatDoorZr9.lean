/-
  The keys of a map, in order: the library's contracts laid here, in plain words. Problems of the call's own; the document's list with one more, walked. The teller of problems, walked. cmp.Compare at numbers, walked. How two problems are compared, walked. slices.SortFunc at problems: the kit's contract, laid by name. Lists of problems one behind the other, walked; a row that is cleared from some place on. Of equal neighbours the first alone (slices.Compact at problems), walked.
-/
import Derived.Test.YtedeapbonbbacaaGreatDoorZr8
import Derived.Shelf.SlIter.Nil
import Derived.Shelf.SortM.Plain
import Derived.Shelf.SortM.SortNone
import Derived.Maps.AppendAt
import Derived.Laws.AppendOwnNone
import Derived.OpenShut
import Derived.Shelf.SlSortCmp.InsertionK
import Derived.Shelf.SlSortCmp.WholeK
import Derived.Shelf.SlSortCmp.NoneTotal
import Derived.Shelf.Spec.SlicesGrow
import Derived.Lib.SliceRun
open Go.Lib renaming hid → QA
open List renaming length_append → QS, getElem?_eq_getElem → ZH, length_take → ZI
open Nat renaming le_refl → QM, le_trans → QQ, zero_le → ZT
namespace Go.Proofs.YtedeapbonbbacaaGreatDoor
set_option maxRecDepth 100000
set_option maxHeartbeats 4000000
set_option linter.unusedSimpArgs false
set_option linter.unusedVariables false
open Go Go.RowKit
open Go.RowKit Go.Maps Go.Sort Go.Shelf
def EM:Go.Shelf.Ren:=⟨fun|7=>30|10=>55|n=>n,fun|23=>76|26=>9|3=>3|28=>82|0=>0|27=>81|33=>101|4=>4|n=>n,fun|n=>n⟩
theorem DZ:Go.Proofs.SlLaysZ.n7 Tryz.prog EM:={
 mixed:=by kernel_rfl
 f7:=⟨Tryz.f30.name,by decide,Tryz.func30.trans (congrArg some (by kernel_rfl))⟩
 f10:=⟨Tryz.f55.name,by decide,Tryz.func55.trans (congrArg some (by kernel_rfl))⟩
 t0:=Tryz.underlying0
 a0:=Tryz.isAgg0
 z0:=Tryz.sizeOf0
 v0:=Tryz.zeroValue0
 t4:=Tryz.underlying4
 a4:=Tryz.isAgg4
 z4:=Tryz.sizeOf4
 v4:=Tryz.zeroValue4
 t23:=Tryz.underlying76
 a23:=Tryz.isAgg76
 z23:=Tryz.sizeOf76
 v23:=Tryz.zeroValue76
 t26:=Tryz.underlying9
 a26:=Tryz.isAgg9
 z26:=Tryz.sizeOf9
 v26:=Tryz.zeroValue9
 t27:=Tryz.underlying81
 a27:=Tryz.isAgg81
 z27:=Tryz.sizeOf81
 v27:=Tryz.zeroValue81
 t28:=Tryz.underlying82
 a28:=Tryz.isAgg82
 z28:=Tryz.sizeOf82
 v28:=Tryz.zeroValue82
 t33:=Tryz.underlying101
 a33:=Tryz.isAgg101
 z33:=Tryz.sizeOf101
 v33:=Tryz.zeroValue101 }
def Cn:Go.Shelf.Ren:=⟨fun|6=>29|8=>53|9=>54|11=>69|13=>58|12=>70|23=>79|24=>80|14=>97|15=>98|16=>99|17=>100|18=>101|19=>102|20=>103|21=>104|22=>105|25=>120|26=>107|27=>108|28=>121|29=>122|30=>123|31=>133|n=>n,fun|26=>9|28=>82|24=>51|0=>0|3=>3|37=>23|48=>137|50=>139|4=>4|40=>130|39=>129|45=>134|5=>5|9=>9|51=>159|55=>163|57=>179|58=>180|33=>101|n=>n,fun|n=>n⟩
theorem Ed:Go.Proofs.SlLaysZ.n6 Tryz.prog Cn:={
 mixed:=by kernel_rfl
 f6:=⟨Tryz.f29.name,by decide,Tryz.func29.trans (congrArg some (by kernel_rfl))⟩
 f8:=⟨Tryz.f53.name,by decide,Tryz.func53.trans (congrArg some (by kernel_rfl))⟩
 f11:=⟨Tryz.f69.name,by decide,Tryz.func69.trans (congrArg some (by kernel_rfl))⟩
 t0:=Tryz.underlying0
 a0:=Tryz.isAgg0
 z0:=Tryz.sizeOf0
 v0:=Tryz.zeroValue0
 t24:=Tryz.underlying51
 a24:=Tryz.isAgg51
 z24:=Tryz.sizeOf51
 v24:=Tryz.zeroValue51
 t26:=Tryz.underlying9
 a26:=Tryz.isAgg9
 z26:=Tryz.sizeOf9
 v26:=Tryz.zeroValue9
 t28:=Tryz.underlying82
 a28:=Tryz.isAgg82
 z28:=Tryz.sizeOf82
 v28:=Tryz.zeroValue82
 i26:=by kernel_rfl }
def Gx:Go.Shelf.Ren:=⟨fun|6=>54|8=>58|9=>70|19=>79|20=>80|21=>97|22=>98|23=>99|24=>100|25=>101|26=>102|27=>103|28=>104|29=>105|36=>120|31=>107|32=>108|37=>121|38=>122|39=>123|41=>133|n=>n,fun|27=>51|29=>9|3=>3|32=>23|26=>51|0=>0|44=>137|46=>139|4=>4|36=>130|35=>129|41=>134|5=>5|9=>9|53=>159|57=>163|63=>179|64=>180|n=>n,fun|n=>n⟩
theorem Dc:Go.Proofs.SlLaysM.n6 Tryz.prog Gx:={
 mixed:=by kernel_rfl
 f6:=⟨Tryz.f54.name,by decide,Tryz.func54.trans (congrArg some (by kernel_rfl))⟩
 f8:=Tryz.func58.trans (congrArg some (by kernel_rfl))
 f9:=⟨Tryz.f70.name,by decide,Tryz.func70.trans (congrArg some (by kernel_rfl))⟩
 f19:=Tryz.func79.trans (congrArg some (by kernel_rfl))
 f20:=Tryz.func80.trans (congrArg some (by kernel_rfl))
 f21:=⟨Tryz.f97.name,by decide,Tryz.func97.trans (congrArg some (by kernel_rfl))⟩
 f22:=⟨Tryz.f98.name,by decide,Tryz.func98.trans (congrArg some (by kernel_rfl))⟩
 f23:=⟨Tryz.f99.name,by decide,Tryz.func99.trans (congrArg some (by kernel_rfl))⟩
 f24:=⟨Tryz.f100.name,by decide,Tryz.func100.trans (congrArg some (by kernel_rfl))⟩
 f25:=⟨Tryz.f101.name,by decide,Tryz.func101.trans (congrArg some (by kernel_rfl))⟩
 f26:=⟨Tryz.f102.name,by decide,Tryz.func102.trans (congrArg some (by kernel_rfl))⟩
 f27:=⟨Tryz.f103.name,by decide,Tryz.func103.trans (congrArg some (by kernel_rfl))⟩
 f28:=⟨Tryz.f104.name,by decide,Tryz.func104.trans (congrArg some (by kernel_rfl))⟩
 f29:=⟨Tryz.f105.name,by decide,Tryz.func105.trans (congrArg some (by kernel_rfl))⟩
 f31:=Tryz.func107.trans (congrArg some (by kernel_rfl))
 f32:=Tryz.func108.trans (congrArg some (by kernel_rfl))
 f36:=⟨Tryz.f120.name,by decide,Tryz.func120.trans (congrArg some (by kernel_rfl))⟩
 f37:=⟨Tryz.f121.name,by decide,Tryz.func121.trans (congrArg some (by kernel_rfl))⟩
 f38:=⟨Tryz.f122.name,by decide,Tryz.func122.trans (congrArg some (by kernel_rfl))⟩
 f39:=⟨Tryz.f123.name,by decide,Tryz.func123.trans (congrArg some (by kernel_rfl))⟩
 f41:=⟨Tryz.f133.name,by decide,Tryz.func133.trans (congrArg some (by kernel_rfl))⟩
 t0:=Tryz.underlying0
 a0:=Tryz.isAgg0
 z0:=Tryz.sizeOf0
 v0:=Tryz.zeroValue0
 t3:=Tryz.underlying3
 a3:=Tryz.isAgg3
 z3:=Tryz.sizeOf3
 v3:=Tryz.zeroValue3
 t4:=Tryz.underlying4
 a4:=Tryz.isAgg4
 z4:=Tryz.sizeOf4
 v4:=Tryz.zeroValue4
 t5:=Tryz.underlying5
 a5:=Tryz.isAgg5
 z5:=Tryz.sizeOf5
 v5:=Tryz.zeroValue5
 t9:=Tryz.underlying9
 a9:=Tryz.isAgg9
 z9:=Tryz.sizeOf9
 v9:=Tryz.zeroValue9
 t26:=Tryz.underlying51
 a26:=Tryz.isAgg51
 z26:=Tryz.sizeOf51
 v26:=Tryz.zeroValue51
 t27:=Tryz.underlying51
 a27:=Tryz.isAgg51
 z27:=Tryz.sizeOf51
 v27:=Tryz.zeroValue51
 t29:=Tryz.underlying9
 a29:=Tryz.isAgg9
 z29:=Tryz.sizeOf9
 v29:=Tryz.zeroValue9
 t32:=Tryz.underlying23
 a32:=Tryz.isAgg23
 z32:=Tryz.sizeOf23
 v32:=Tryz.zeroValue23
 t35:=Tryz.underlying129
 a35:=Tryz.isAgg129
 z35:=Tryz.sizeOf129
 v35:=Tryz.zeroValue129
 t36:=Tryz.underlying130
 a36:=Tryz.isAgg130
 z36:=Tryz.sizeOf130
 v36:=Tryz.zeroValue130
 t41:=Tryz.underlying134
 a41:=Tryz.isAgg134
 z41:=Tryz.sizeOf134
 v41:=Tryz.zeroValue134
 t44:=Tryz.underlying137
 a44:=Tryz.isAgg137
 z44:=Tryz.sizeOf137
 v44:=Tryz.zeroValue137
 t46:=Tryz.underlying139
 a46:=Tryz.isAgg139
 z46:=Tryz.sizeOf139
 v46:=Tryz.zeroValue139
 t53:=Tryz.underlying159
 a53:=Tryz.isAgg159
 z53:=Tryz.sizeOf159
 v53:=Tryz.zeroValue159
 t57:=Tryz.underlying163
 a57:=Tryz.isAgg163
 z57:=Tryz.sizeOf163
 v57:=Tryz.zeroValue163
 t63:=Tryz.underlying179
 a63:=Tryz.isAgg179
 z63:=Tryz.sizeOf179
 v63:=Tryz.zeroValue179
 t64:=Tryz.underlying180
 a64:=Tryz.isAgg180
 z64:=Tryz.sizeOf180
 v64:=Tryz.zeroValue180 }
theorem Ip (m:Nat):AnyZ.SortsIn Tryz.prog Cn Fence.wide m :=
 ⟨λblk off cap ss W hH hblk hsz=>callsIn_wide.2 (AnyM.slices_Sort_string Dc blk off cap ss W hH hblk hsz),
  λp cap W=>callsIn_wide.2 (AnyM.slices_Sort_string_none Dc p cap W)⟩
theorem EX (mb:Option Nat) (W:World):CallsIn Fence.wide 5 Tryz.prog 30 #[.map mb] W λe w'=>e=.returned (.func (.func 55) #[] #[.pointer (some ⟨W.heap.size,0,none⟩)])∧w'=W.alloc (.cells #[.map mb] 76) :=
 AnyZ.keys_in DZ Fence.wide 5 trivial rfl mb W
theorem Dt {H:Type} (b nn:Nat) (D0:DataW H) (R:Value→Option (DataW H×List MemPlace)) (w:World) (hown:w.ownsMap Tryz.prog 9 R b nn D0) (hmax:Maps.size D0≤maxLen) (hbytes:Maps.size D0*16≤140737488355328) :
  CallsIn Fence.wide 5 Tryz.prog 29 #[.func (.func 55) #[] #[.pointer (some ⟨w.heap.size,0,none⟩)]] (w.alloc (.cells #[.map (some b)] 76)) λe w'=>∃(v:Value) (ss:List (List UInt8)),e=.returned v∧ss.Perm (strKeys D0) ∧
   w'.ownsRow (w.alloc (.cells #[.map (some b)] 76)).heap.size 9 1 v ss.length ((ss.mergeSort (λx y=>decide (x≤y))).map encStr)∧(v=.slice none 0 0↔ss=[])∧Below (w.alloc (.cells #[.map (some b)] 76)).heap.size (w.alloc (.cells #[.map (some b)] 76)) w':=by
 have B:=hown.lt;have A:SeqGives Fence.wide 2 Tryz.prog 55 #[.pointer (some ⟨w.heap.size,0,none⟩)] encStr (λss=>ss.Perm (strKeys D0)) (Maps.size D0) (w.alloc (.cells #[.map (some b)] 76)) :=
  AnyZ.keys_gives (ρ:=EM) { DZ with } Fence.wide _ trivial rfl (by omega) w.heap.size b nn D0 _ (by simp) (by simp) (by
   obtain⟨D,o,E,C,G,F⟩:=hown;exact⟨D,o,(Below.heap_alloc _ _ b B).trans E,C,G,F⟩)
 exact AnyZ.sorted_in Ed Fence.wide 5 trivial trivial trivial trivial rfl (by omega) (Ip _) (enters_of Tryz.func54 (by kernel_rfl) rfl) 55 #[.pointer (some ⟨w.heap.size,0,none⟩)] trivial (enters_of Tryz.func55 (by kernel_rfl) rfl) _ _ hmax hbytes _ A
open Go.Maps Go.WideMaps
def Cp.enc (p:Cp.Pb):List Value:=[.int .i64 p.1,.int .i64 p.2]
def AM (l:List Cp.Pb):List Value:=l.flatMap Cp.enc
theorem CP (a b:List Cp.Pb):AM (a++b)=AM a++AM b:=by unfold AM;rw[List.flatMap_append]
theorem Ad (p:Cp.Pb) (l:List Cp.Pb):AM (p::l)=[.int .i64 p.1,.int .i64 p.2]++AM l:=by unfold AM;rw[List.flatMap_cons];rfl
theorem Ae:∀l:List Cp.Pb,(AM l).length=l.length*2
 | []=>rfl
 | p::r=>by rw[Ad,QS,Ae r,List.length_cons];simp;omega
theorem CG (l:List Cp.Pb):∀u∈AM l,u.oneCell'=true:=λu hu=>by
 unfold AM at hu;obtain⟨c,_,o⟩:=List.mem_flatMap.1 hu;simp[Cp.enc]at o;rcases o with rfl|rfl<;>rfl
theorem D6:∀(l:List Cp.Pb) (j:Nat) (p:Cp.Pb),l[j]?=some p→(AM l)[j*2]?=some (.int .i64 p.1)∧(AM l)[j*2+1]?=some (.int .i64 p.2)
 | [],j,p,h=>by simp at h
 | x::r,0,p,h=>by simp at h;subst h;rw[Ad];exact⟨rfl,rfl⟩
 | x::r,j+1,p,h=>by
  have:=D6 r j p (by simpa using h);rw[Ad,show (j+1)*2=j*2+1+1 by omega];exact this
theorem CM:∀(l:List Cp.Pb) (k:Nat) (u:Value),(AM l)[k]?=some u→∃p,l[k / 2]?=some p∧u=if k % 2=0 then .int .i64 p.1 else .int .i64 p.2
 | [],k,u,h=>by simp[AM]at h
 | x::r,0,u,h=>by rw[Ad]at h;simp at h;exact⟨x,rfl,by rw[← h];rfl⟩
 | x::r,1,u,h=>by rw[Ad]at h;simp at h;exact⟨x,rfl,by rw[← h];rfl⟩
 | x::r,k+2,u,h=>by
  rw[Ad]at h;obtain⟨p,o,A⟩:=CM r k u (by simpa using h);rw[show (k+2) / 2=k / 2+1 by omega,show (k+2) % 2=k % 2 by omega];exact⟨p,by simpa using o,A⟩
def Ab (w:World) (base:Nat) (v:Value) (l:List Cp.Pb):Prop:=w.ownsRow base 42 2 v l.length (AM l)
theorem LW:(Tryz.prog.info? 42).map (λi=>(i.zero,i.size,i.bytes))=some (some (.agg #[.int .i64 0,.int .i64 0]),2,16):=by kernel_rfl
theorem CL:∃i,Tryz.prog.info? 42=some i∧i.zero=some (.agg #[.int .i64 0,.int .i64 0])∧i.size=2∧i.bytes=16:=by
 have h:=LW;cases hh:Tryz.prog.info? 42 with
 | none=>rw[hh]at h;cases h
 | some i =>
  rw[hh]at h;simp only[Option.map_some,Option.some.injEq,Prod.mk.injEq]at h;exact⟨i,rfl,h.1,h.2.1,h.2.2⟩
theorem Ab.mono {w:World} {base base':Nat} {v:Value} {l:List Cp.Pb} (h:Ab w base v l) (hb:base'≤base):Ab w base' v l:=by
 refine⟨h.1,?_⟩;rcases h.2 with h2|⟨g,cap,cur,hv,hg,r⟩
 ·exact .inl h2
 ·exact .inr ⟨g,cap,cur,hv,QQ hb hg,r⟩
theorem Ab.lt {w:World} {base:Nat} {v:Value} {l:List Cp.Pb} (h:Ab w base v l):∀g,v.ownBlock=some g→base≤g∧g<w.heap.size:=λg hg=>World.ownsRow.lt h g hg
theorem Ab.heap {w w':World} {base:Nat} {v:Value} {l:List Cp.Pb} (h:Ab w base v l) (hb:∀g,v.ownBlock=some g→w'.heap[g]?=w.heap[g]?):Ab w' base v l:=BG h hb
theorem Ab.keep {w w':World} {base:Nat} {v:Value} {l:List Cp.Pb} (h:Ab w base v l) (hb:Below w.heap.size w w'):Ab w' base v l :=
 h.heap (λg hg=>hb.block g (h.lt g hg).2)
theorem Ab.form {w:World} {base:Nat} {v:Value} {l:List Cp.Pb} (h:Ab w base v l):∃a n c,v=.slice a n c∧Hid (n=l.length):=by
 rcases h.2 with⟨h4,h5⟩|⟨g,cap,cur,hv,_⟩
 ·exact⟨none,0,0,h4,QA h5.symm⟩
 ·exact⟨_,_,_,hv,QA rfl⟩
theorem Ab.nil (w:World) (base:Nat):Ab w base (.slice none 0 0) []:=World.ownsRow_nil _ _ _ _
theorem Hb (w:World) (P:Nat→Prop):∀l:List Cp.Pb,AZ w P 2 (l.map Cp.d) (AM l)
 | []=>.nil
 | p::r=>by
  rw[Ad];have o:Reads w P (Cp.d p) [.int .i64 p.1,.int .i64 p.2]:=.obj (.cons (.int _) (.cons (.int _) .nil));exact .cons o rfl (Hb w P r)
theorem Ab.pbs {w:World} {base:Nat} {v:Value} {l:List Cp.Pb} (h:Ab w base v l):Pbs w (λg=>v.ownBlock=some g) v l:=by
 have o:AY w (λ_=>False) base 42 2 v (l.map Cp.d):=⟨⟨AM l,by rw[List.length_map];exact h,Hb w _ l⟩,λ_ _ h=>h⟩
 exact o.reads.to (AD.sub _ (λg _ hh=>hh.elim False.elim id))
theorem Ab.grown {w wr w5:World} {base:Nat} {v:Value} {l:List Cp.Pb} (ho:Ab wr base v l) (hb:Below base w wr) (hg:wr.grownBy w5 v.ownBlock) (hbase:base≤wr.heap.size):Below base w w5:=by
 refine⟨hg.os.trans hb.os,hg.tape.trans hb.tape,hg.output.trans hb.output,QQ hb.size hg.size,λj hj=>?_⟩;rw[← hb.block j hj];exact hg.block j (by omega) (λe=>by
  have:=(ho.lt j e.symm).1;omega)
theorem I5 (g o k:Nat):(⟨g,o,none⟩:Addr).add k=⟨g,o+k,none⟩:=by
 by_cases h:k=0
 ·subst h;simp[Addr.add]
 ·simp[Addr.add,h]
def FW (v:Value):Prop:=∀n c,v=.slice none n c→c=0
theorem Ab.nilCap {w:World} {base:Nat} {v:Value} {l:List Cp.Pb} (h:Ab w base v l):FW v:=by
 intro n c e;rcases h.2 with⟨h4,h5⟩|⟨g,cap,cur,hv,_⟩
 ·rw[h4]at e;cases e;rfl
 ·rw[hv]at e;cases e
theorem DR {ops:Array Oper} {rest:List Oper} {o:Oper} {a:Act} {w:World} {Q:Exit→Act→World→Prop} (hgd:o.guard=none) (s x:Operand)
  (ho:o.op=.call { callee:=.builtin .append,args:=#[s,x],argTypes:=#[40,40] })
  (base:Nat) (v:Value) (l:List Cp.Pb) (hs:a.eval s=v) (hown:Ab w base v l) (n:Cp.Pb) (b:Nat) (hx:a.eval x=.slice (some ⟨b,0,none⟩) 1 1)
  (h0:w.cell? ⟨b,0,none⟩=some (.int .i64 n.1)) (h1:w.cell? ⟨b,1,none⟩=some (.int .i64 n.2)) (h63:l.length≤1000000000) (hbase:base≤w.heap.size)
  (h:∀v' w',Ab w' base v' (l++[n])→w.grownBy w' v.ownBlock→(v'.ownBlock=v.ownBlock∨v'.ownBlock=some w.heap.size)→wpList Tryz.prog ops Q rest (a.put o.dst v') w') :
  wpList Tryz.prog ops Q (o::rest) a w:=by
 obtain⟨D,hi,B,C,A⟩:=CL;refine wpList_append_own_at w hgd s x _ ho base 42 D (.agg #[.int .i64 0,.int .i64 0]) 2 16 Tryz.underlying40 hi B C A rfl (by decide) v l.length (AM l) hs hown ⟨b,0,none⟩ 1 1 (AM [n]) hx rfl ?_ (CG [n]) (by unfold maxLen;omega) (by omega) hbase ?_
 ·intro j u hj;rw[CU]
  match j,hj with
  | 0,hj=>simp[AM,Cp.enc]at hj;subst hj;exact h0
  | 1,hj=>simp[AM,Cp.enc]at hj;subst hj;exact h1
  | j+2,hj=>simp[AM,Cp.enc]at hj
 ·intro v' w' g1 g2 _ g4;exact h v' w' (by unfold Ab;rw[QS,CP];exact g1) g2 g4
theorem BO {ops:Array Oper} {rest:List Oper} {o:Oper} {a:Act} {w:World} {Q:Exit→Act→World→Prop} (hgd:o.guard=none) (s x:Operand)
  (ho:o.op=.call { callee:=.builtin .append,args:=#[s,x],argTypes:=#[40,40] })
  (base:Nat) (v:Value) (l:List Cp.Pb) (hs:a.eval s=v) (hown:Ab w base v l) (xv:Value) (P:Nat→Prop) (news:List Cp.Pb) (hx:a.eval x=xv) (hB:Pbs w P xv news)
  (h63:l.length+news.length≤1000000000) (hbase:base≤w.heap.size) (hnil:FW xv)
  (h:∀v' w',Ab w' base v' (l++news)→w.grownBy w' v.ownBlock→(v'.ownBlock=v.ownBlock∨v'.ownBlock=some w.heap.size)→wpList Tryz.prog ops Q rest (a.put o.dst v') w') :
  wpList Tryz.prog ops Q (o::rest) a w:=by
 obtain⟨I,hi,G,D,E⟩:=CL;obtain⟨J,H,rfl⟩:=hB.form;cases J with
 | none =>
  have K:news=[]:=by
   cases news with
   | nil=>rfl
   | cons p r =>
    obtain⟨g,o,e,_⟩:=hB.at (j:=0) (p:=p) rfl;cases e
  subst K;have C:H=0:=hnil _ _ rfl;subst C;refine wpList_append_own_none hgd s x _ ho base 42 I 2 Tryz.underlying40 hi v _ _ hs hown hx ?_;exact h v w (by rw[List.append_nil];exact hown) ⟨rfl,rfl,rfl,QM _,λ_ _ _=>rfl⟩ (.inl rfl)
 | some ad =>
  refine wpList_append_own_at w hgd s x _ ho base 42 I (.agg #[.int .i64 0,.int .i64 0]) 2 16 Tryz.underlying40 hi G D E rfl (by decide) v l.length (AM l) hs hown ad news.length H (AM news) hx (by rw[Ae]) ?_ (CG news) (by unfold maxLen;omega) (by omega) hbase ?_
  ·intro j u hj;obtain⟨p,F,B⟩:=CM _ _ _ hj;obtain⟨b,A,M,_,_,L,N⟩:=hB.at F;cases M;rw[I5];by_cases hj2:j % 2=0
   ·rw[if_pos hj2]at B;rw[B,show A+j=A+j / 2*2 by omega];exact L
   ·rw[if_neg hj2]at B;rw[B,show A+j=A+j / 2*2+1 by omega];exact N
  ·intro v' w' F B _ h4;exact h v' w' (by unfold Ab;rw[QS,CP];exact F) B h4
namespace Nq
def told (ok:Bool) (rule a:Int):List Cp.Pb:=if ok then [] else [(rule,a)]
end Nq
structure CE (w:World) (base xb:Nat) (fv:Value) (l:List Cp.Pb):Prop where
 box:w.heap[xb]?=some (.cells #[fv] 54 (0,0))
 own:Ab w base fv l
 ne:∀g,fv.ownBlock=some g→g≠xb
 hx:base≤xb
section
variable {w w' : World} {base xb : Nat} {fv : Value} {l : List Cp.Pb}
theorem CE.lt (h:CE w base xb fv l):xb<w.heap.size:=block_lt h.box
theorem CE.keep (h:CE w base xb fv l) (hb:Below w.heap.size w w'):CE w' base xb fv l :=
 ⟨by rw[hb.block _ h.lt];exact h.box,h.own.keep hb,h.ne,h.hx⟩
theorem CE.c0 (h:CE w base xb fv l):w.cell? ⟨xb,0,none⟩=some fv:=by unfold World.cell?;dsimp only;rw[h.box];rfl
end
structure Bd (w w':World) (xb:Nat) (fv fv':Value):Prop where
 but:But (λk=>k=xb∨fv.ownBlock=some k) w w'
 own:∀g,fv'.ownBlock=some g→fv.ownBlock=some g∨w.heap.size≤g
section
variable {w w1 w' : World} {base xb : Nat} {fv fv1 fv' : Value} {l : List Cp.Pb}
theorem Bd.of_below (h:Below w.heap.size w w'):Bd w w' xb fv fv :=
 ⟨⟨h.os,h.tape,h.output,h.size,λk hk _=>h.block k hk⟩,λg hg=>.inl hg⟩
theorem Bd.trans (h:Bd w w1 xb fv fv1) (k:Bd w1 w' xb fv1 fv'):Bd w w' xb fv fv':=by
 refine⟨⟨k.but.os.trans h.but.os,k.but.tape.trans h.but.tape,k.but.output.trans h.but.output,QQ h.but.size k.but.size,λj hj hx=>?_⟩,λg hg=>?_⟩
 ·rw[k.but.block j (Nat.lt_of_lt_of_le hj h.but.size) (λe=>?_)]
  ·exact h.but.block j hj hx
  ·rcases e with e|e
   ·exact hx (.inl e)
   ·rcases h.own j e with e2|e2
    ·exact hx (.inr e2)
    ·omega
 ·rcases k.own g hg with e|e
  ·exact h.own g e
  ·exact .inr (QQ h.but.size e)
theorem Bd.below (h:Bd w w' xb fv fv') (ho:CE w base xb fv l):Below base w w' :=
 ⟨h.but.os,h.but.tape,h.but.output,h.but.size,λk hk=>h.but.block k (by have:=ho.hx;have:=ho.lt;omega) (λe=>by
  rcases e with e|e
  ·have:=ho.hx;omega
  ·have:=(ho.own.lt k e).1;omega)⟩
theorem Bd.cell (h:Bd w w' xb fv fv') {p:Addr} (hp:p.block<w.heap.size) (hx:p.block≠xb) (hf:fv.ownBlock≠some p.block):w'.cell? p=w.cell? p:=by
 unfold World.cell?;rw[h.but.block _ hp (λe=>e.elim hx hf)]
end
theorem DX (base xb:Nat) (fv:Value) (l:List Cp.Pb) (ok:Bool) (rule at_:Int) (q o c:Nat) (w:World) (h:CE w base xb fv l) (hl:l.length≤1000000) (hq:w.cell? ⟨q,o,none⟩=some (.int .i64 at_)) :
  Calls Tryz.prog 12 #[.pointer (some ⟨xb,0,none⟩),.bool ok,.int .i64 rule,.slice (some ⟨q,o,none⟩) 1 c] w λe w'=>e=.returned (.tuple #[])∧∃fv',CE w' base xb fv' (l++Nq.told ok rule at_)∧Bd w w' xb fv fv':=by
 obtain⟨J,L,K,hf,HF⟩:=Ab.form h.own;subst hf;have M:=QA h;have G:Below w.heap.size w (w.alloc (.cells #[.int .i64 rule,.int .i64 at_] 42)):=(Below.refl _ _).alloc (QM _) _;have H:=QA (h.keep G);have Q:=QA h.lt;have P:=QA h.c0;have T:=QA (AK w #[.int .i64 rule,.int .i64 at_] 42 (0,0) 0 _ rfl);have Y:=QA (AK w #[.int .i64 rule,.int .i64 at_] 42 (0,0) 1 _ rfl);have A:base≤(w.alloc (.cells #[.int .i64 rule,.int .i64 at_] 42)).heap.size:=by have:=h.hx;have:=h.lt;simp;omega
 have HB:=QA A;have D:=QA G;have S:Hid (l.length≤1000000000):=QA (by omega);have R:=QA hq;clear h G A hq;go_enter Tryz.func12,Tryz.ntmps12;go_wp2_with fail
 go_loopg [12] 2 (λk i wr=>(k=2∧i=.int .i64 0∧wr=w)∨(k=1∧i=.int .i64 1∧∃fv',CE wr base xb fv' (l++Nq.told ok rule at_)∧Bd w wr xb (.slice J L K) fv'))
 case atStart=>exact .inl ⟨rfl,rfl,rfl⟩
 case round =>
  rcases hrel with⟨rfl,rfl,rfl⟩|⟨rfl,rfl,fv',E,I⟩;rotate_left
  ·have HA:=QA E;have W:=QA I;clear E I;go_wp2_with fail;go_end0;exact⟨rfl,fv',HA.out,W.out⟩
  cases ok;rotate_left
  ·have U:=R.out;go_wp2_with fail;go_roundg 1
   case measure=>omega
   case rel=>exact .inr ⟨rfl,rfl,_,by rw[show Nq.told true rule at_=[] from rfl,List.append_nil];exact M.out,Bd.of_below (Below.refl _ _)⟩
  have U:=R.out;have c0:=P.out;go_wp2_with (first|(at_builtin;refine DR rfl _ _ rfl base (.slice J L K) l rfl H.out.own (rule,at_) wr.heap.size rfl T.out Y.out S.out HB.out ?_;intro v' w5 hown hgrow hloc;obtain⟨X,vn,V,N,Z⟩:=Ab.form hown;subst N;have HO:=QA hown;have B:=QA hgrow;have C:=QA hloc;clear hloc;have F:w5.heap[xb]?=some (.cells #[.slice J L K] 54 (0,0)):=(by rw[hgrow.block xb H.out.lt (λe=>H.out.ne xb e.symm rfl)];exact H.out.box);have y1:w5.cell? ⟨xb,0,none⟩=some (.slice J L K):=(by unfold World.cell?;dsimp only;rw[F];rfl);have yf:w5.frozen? ⟨xb,0,none⟩=false:=(by unfold World.frozen?;dsimp only;rw[F];rfl);have O:=QA F;clear hown hgrow F)|fail);go_roundg 1
  case measure=>omega
  case rel =>
   refine .inr ⟨rfl,rfl,.slice X vn V,⟨?_,?_,?_,H.out.hx⟩,?_⟩
   ·simp[World.setCell,Array.getElem?_modify,O.out]
   ·refine HO.out.heap λg hg=>?_
    rw[Below.heap_setCell _ _ _ _ ?_];show g≠xb;rcases C.out with e|e
    ·exact H.out.ne g (by rw[← e];exact hg)
    ·rw[e]at hg;have E:g=(wr.alloc (.cells #[.int .i64 rule,.int .i64 at_] 42)).heap.size:=(Option.some.inj hg).symm;have I:=Q.out;rw[E];simp;omega
   ·intro g hg;rcases C.out with e|e
    ·exact H.out.ne g (by rw[← e];exact hg)
    ·rw[e]at hg;have E:g=(wr.alloc (.cells #[.int .i64 rule,.int .i64 at_] 42)).heap.size:=(Option.some.inj hg).symm;have I:=Q.out;rw[E];simp;omega
   ·refine⟨⟨B.out.os,B.out.tape,B.out.output,?_,λk hk hx=>?_⟩,λg hg=>?_⟩
    ·have E:=B.out.size;have I:=D.out.size;show wr.heap.size≤(World.setCell _ _ _).heap.size;simp[World.setCell];omega
    ·rw[Below.heap_setCell _ _ _ _ (by show k≠xb;exact λe=>hx (.inl e)),B.out.block k (Nat.lt_of_lt_of_le hk D.out.size) (λe=>hx (.inr e.symm)),D.out.block k hk]
    ·rcases C.out with e|e
     ·exact .inl (by rw[← e];exact hg)
     ·rw[e]at hg;have E:g=(wr.alloc (.cells #[.int .i64 rule,.int .i64 at_] 42)).heap.size:=(Option.some.inj hg).symm;exact .inr (by rw[E];exact D.out.size)
open Go.Maps Go.WideMaps
theorem Bf (x:Int) (w:World):Calls Tryz.prog 59 #[.int .i64 x] w λe w'=>e=.returned (.bool false)∧w'=w:=by
 have o:(x != x)=false:=by simp
 go_enter Tryz.func59,Tryz.ntmps59;go_wp2_with fail;go_ret;exact⟨rfl,rfl⟩
def Cp.cmp (x y:Int):Int:=if x<y then -1 else if y<x then 1 else 0
theorem Dl (x y:Int) (w:World):Calls Tryz.prog 38 #[.int .i64 x,.int .i64 y] w λe w'=>e=.returned (.int .i64 (Cp.cmp x y))∧w'=w:=by
 obtain⟨r,B⟩:∃r,r=Cp.cmp x y:=⟨_,rfl⟩
 have A:=QA B;rw[← B];clear B;by_cases h1:x<y
 ·have D:decide (x<y)=true:=decide_eq_true h1;have o:Hid (Cp.cmp x y=-1):=QA (if_pos h1);go_enter Tryz.func38,Tryz.ntmps38;go_wp2_with fail;refine (Bf x w).mono ?_;rintro e w1 ⟨rfl,rfl⟩;go_wp2_with fail;refine (Bf y w1).mono ?_;rintro e w2 ⟨rfl,rfl⟩;go_wp2_with fail;go_ret;exact⟨by rw[A.out,o.out];rfl,rfl⟩
 ·have D:decide (x<y)=false:=decide_eq_false h1;by_cases h2:y<x
  ·have E:decide (y<x)=true:=decide_eq_true h2;have C:decide (x>y)=true:=decide_eq_true h2;have o:Hid (Cp.cmp x y=1):=QA (by unfold Cp.cmp;rw[if_neg h1,if_pos h2]);go_enter Tryz.func38,Tryz.ntmps38;go_wp2_with fail;refine (Bf x w).mono ?_;rintro e w1 ⟨rfl,rfl⟩;go_wp2_with fail;refine (Bf y w1).mono ?_;rintro e w2 ⟨rfl,rfl⟩;go_wp2_with fail;go_ret;exact⟨by rw[A.out,o.out];rfl,rfl⟩
  ·have E:decide (y<x)=false:=decide_eq_false h2;have C:decide (x>y)=false:=decide_eq_false h2;have o:Hid (Cp.cmp x y=0):=QA (by unfold Cp.cmp;rw[if_neg h1,if_neg h2]);go_enter Tryz.func38,Tryz.ntmps38;go_wp2_with fail;refine (Bf x w).mono ?_;rintro e w1 ⟨rfl,rfl⟩;go_wp2_with fail;refine (Bf y w1).mono ?_;rintro e w2 ⟨rfl,rfl⟩;go_wp2_with fail;go_ret;exact⟨by rw[A.out,o.out];rfl,rfl⟩
open Go.Maps Go.WideMaps
theorem Kn (x y:Int) (b:Nat) (w:World) (h0:w.cell? ⟨b,0,none⟩=some (.int .i64 x)) (h1:w.cell? ⟨b,1,none⟩=some (.int .i64 y)) :
  Calls Tryz.prog 37 #[.slice (some ⟨b,0,none⟩) 2 2] w λe w'=>e=.returned (.int .i64 (if x=0 then y else x))∧w'=w:=by
 obtain⟨r,H⟩:∃r,r=(if x=0 then y else x):=⟨_,rfl⟩
 have E:=QA H;rw[← H];clear H;go_enter Tryz.func37,Tryz.ntmps37;go_wp2_with fail
 go_loopg [5,8] 3 (λk s5 s8 wq=>∃i:Nat,i≤2∧k=3-i∧s8=.int .i64 (i:Nat)∧(1≤i→x=0)∧(2≤i→y=0)∧wq=w)
 case atStart=>exact⟨0,ZT _,rfl,rfl,λh=>by omega,λh=>by omega,rfl⟩
 case round =>
  obtain⟨i,hi,J,rfl,hx,K,I⟩:=hrel;have A:=QA J;have C:=QA hx;have D:=QA K;clear J hx K;subst I;have F:(0:Int)≤(i:Int):=Int.natCast_nonneg _
  match i,hi,A,C,D,F with
  | 0,_,A,C,D,_ =>
   by_cases h:x=0
   ·have G:(x != 0)=false:=by rw[h];rfl
    have B:=QA h;clear h;go_wp2_with fail;go_roundg 2
    case measure=>rw[A.out];omega
    case rel=>exact⟨1,by omega,rfl,rfl,λ_=>B.out,λh=>by omega,rfl⟩
   ·have G:(x != 0)=true:=by simp[h]
    go_wp2_with fail;go_ret;exact⟨by rw[E.out,if_neg h];rfl,rfl⟩
  | 1,_,A,C,D,_ =>
   have B:=QA (C.out (QM _));by_cases h:y=0
   ·have G:(y != 0)=false:=by rw[h];rfl
    have o:=QA h;clear h;go_wp2_with fail;go_roundg 1
    case measure=>rw[A.out];omega
    case rel=>exact⟨2,by omega,rfl,rfl,λ_=>B.out,λ_=>o.out,rfl⟩
   ·have G:(y != 0)=true:=by simp[h]
    go_wp2_with fail;go_ret;exact⟨by rw[E.out,if_pos B.out];rfl,rfl⟩
  | 2,_,A,C,D,_ =>
   have B:=QA (C.out (by omega));have o:=QA (D.out (by omega));go_wp2_with fail;go_ret;exact⟨by rw[E.out,if_pos B.out,o.out];rfl,rfl⟩
  | i+3,hi,_,_,_,_=>exact absurd hi (by omega)
open Go.Sort Go.Lib in
theorem G0 (W:World) (A B C:Obj) (n m k:Nat):(((((W.alloc A).alloc B).drewN n).alloc C).drewN m).drewN k=grow (W.drewN (n+m+k)) #[A,B,C]:=by
 have D:((W.heap.push A).push B).push C=W.heap++#[A,B,C]:=by
  apply Array.toList_inj.1;rw[Array.toList_push,Array.toList_push,Array.toList_push,Array.toList_append];simp
 have o:W.drawn+n+m+k=W.drawn+(n+m+k):=by omega
 exact congr (congrArg (λh d=>({ W with heap:=h,drawn:=d }:World)) D) o
def Cp.cf (p q:Cp.Pb):Int:=if Cp.cmp p.2 q.2=0 then Cp.cmp p.1 q.1 else Cp.cmp p.2 q.2
open Go.Sort Go.Lib in
theorem Fl (x y:Cp.Pb) (W:World):Calls Tryz.prog 36 #[.agg #[.int .i64 x.1,.int .i64 x.2],.agg #[.int .i64 y.1,.int .i64 y.2]] W λe w'=>e=.returned (.int .i64 (Cp.cf x y))∧∃q os',w'=grow (W.drewN q) os':=by
 obtain⟨B,D⟩:=x;obtain⟨C,A⟩:=y
 dsimp only
 obtain⟨r,J⟩:∃r,r=Cp.cf (B,D) (C,A):=⟨_,rfl⟩
 have HR:=QA J;rw[← J];clear J;have F:=λw=>Dl D A w
 have G:=λw=>Dl B C w
 obtain⟨c2,S⟩:∃c,c=Cp.cmp D A:=⟨_,rfl⟩
 obtain⟨c1,R⟩:∃c,c=Cp.cmp B C:=⟨_,rfl⟩
 rw[← S]at F;rw[← R]at G;have H2:=QA S;have H1:=QA R;clear S R;obtain⟨X,I⟩:∃X,X=W.alloc (.cells #[.int .i64 B,.int .i64 D] 42):=⟨_,rfl⟩
 obtain⟨Y,E⟩:∃Y,Y=X.alloc (.cells #[.int .i64 C,.int .i64 A] 42):=⟨_,rfl⟩
 have o:X.heap.size=W.heap.size+1:=by rw[I];simp
 have Z:Y.cell? ⟨W.heap.size,0,none⟩=some (.int .i64 B):=by
  rw[E,((Below.refl X.heap.size X).alloc (QM _) _).cell (by simp[o]),I];exact AK W #[.int .i64 B,.int .i64 D] 42 (0,0) 0 _ rfl
 have L:Y.cell? ⟨W.heap.size,1,none⟩=some (.int .i64 D):=by
  rw[E,((Below.refl X.heap.size X).alloc (QM _) _).cell (by simp[o]),I];exact AK W #[.int .i64 B,.int .i64 D] 42 (0,0) 1 _ rfl
 have V:Y.cell? ⟨W.heap.size+1,0,none⟩=some (.int .i64 C):=by
  rw[E,← o];exact AK X #[.int .i64 C,.int .i64 A] 42 (0,0) 0 _ rfl
 have Q:Y.cell? ⟨W.heap.size+1,1,none⟩=some (.int .i64 A):=by
  rw[E,← o];exact AK X #[.int .i64 C,.int .i64 A] 42 (0,0) 1 _ rfl
 have HX:=QA I;have HY:=QA E;have K:(W.alloc (.cells #[.int .i64 B,.int .i64 D] 42)).alloc (.cells #[.int .i64 C,.int .i64 A] 42)=Y:=by rw[E,I]
 clear I E o;go_enter Tryz.func36,Tryz.ntmps36;go_wp2_with fail;clear K;refine AO [10,11] (by kernel_rfl) (by kernel_rfl) ?_;simp only[BM,List.take_succ_cons,List.take_zero,List.drop_succ_cons,List.drop_zero,Nat.sub_zero,Nat.reduceSub,Nat.reduceAdd]
 repeat (go_big_quiet_step ((first|with_reducible exact Calls.quiet_of_same (F _)|with_reducible exact Calls.quiet_of_same (G _))))
 refine wpQuiet_nil ?_;rintro _ ⟨nq,rfl⟩;go_wp2_with fail;refine wpQuiet_nil ?_;rintro _ ⟨nq2,rfl⟩;have T:(((Y.drewN nq).alloc (.cells #[.int .i64 c2,.int .i64 c1] 3)).drewN nq2).cell? ⟨Y.heap.size,0,none⟩=some (.int .i64 c2):=AK (Y.drewN nq) #[.int .i64 c2,.int .i64 c1] 3 (0,0) 0 _ rfl;have U:(((Y.drewN nq).alloc (.cells #[.int .i64 c2,.int .i64 c1] 3)).drewN nq2).cell? ⟨Y.heap.size,1,none⟩=some (.int .i64 c1):=AK (Y.drewN nq) #[.int .i64 c2,.int .i64 c1] 3 (0,0) 1 _ rfl;have O:=Kn c2 c1 Y.heap.size _ T U;obtain⟨N,H⟩:∃N,N=(if c2=0 then c1 else c2):=⟨_,rfl⟩
 rw[← H]at O;have M:=QA H;have HO:=QA O;clear O H;clear T U Z L V Q G F;go_wp2_with fail;refine HO.out.mono ?_;rintro e w6 ⟨rfl,rfl⟩;go_wp2
 repeat (go_big_quiet_step (fail))
 refine wpQuiet_nil ?_;rintro w8 ⟨n8,rfl⟩;go_wp2_with fail;go_ret;have P:r=N:=by rw[HR.out,M.out];unfold Cp.cf;dsimp only;rw[← H1.out,← H2.out]
 refine⟨by rw[P];rfl,nq+nq2+n8,#[.cells #[.int .i64 B,.int .i64 D] 42,.cells #[.int .i64 C,.int .i64 A] 42,.cells #[.int .i64 c2,.int .i64 c1] 3],?_⟩;rw[HY.out,HX.out];exact G0 W _ _ _ nq nq2 n8
open Go.Maps Go.WideMaps
def Gs:Go.Shelf.Ren:=⟨fun|6=>35|15=>58|14=>57|28=>79|29=>80|20=>71|21=>72|22=>73|23=>74|24=>75|25=>76|26=>77|27=>78|46=>106|47=>107|48=>108|49=>109|50=>110|57=>124|n=>n,fun|22=>40|24=>42|25=>93|3=>3|39=>23|0=>0|53=>137|55=>139|4=>4|46=>130|45=>129|50=>134|5=>5|9=>9|66=>159|70=>163|76=>179|77=>180|n=>n,fun|n=>n⟩
theorem Di:Go.Proofs.SlLaysF0.n6 Tryz.prog Gs:={
 mixed:=by kernel_rfl
 f6:=⟨Tryz.f35.name,by decide,Tryz.func35.trans (congrArg some (by kernel_rfl))⟩
 f14:=⟨Tryz.f57.name,by decide,Tryz.func57.trans (congrArg some (by kernel_rfl))⟩
 f15:=Tryz.func58.trans (congrArg some (by kernel_rfl))
 f20:=⟨Tryz.f71.name,by decide,Tryz.func71.trans (congrArg some (by kernel_rfl))⟩
 f21:=⟨Tryz.f72.name,by decide,Tryz.func72.trans (congrArg some (by kernel_rfl))⟩
 f22:=⟨Tryz.f73.name,by decide,Tryz.func73.trans (congrArg some (by kernel_rfl))⟩
 f23:=⟨Tryz.f74.name,by decide,Tryz.func74.trans (congrArg some (by kernel_rfl))⟩
 f24:=⟨Tryz.f75.name,by decide,Tryz.func75.trans (congrArg some (by kernel_rfl))⟩
 f25:=⟨Tryz.f76.name,by decide,Tryz.func76.trans (congrArg some (by kernel_rfl))⟩
 f26:=⟨Tryz.f77.name,by decide,Tryz.func77.trans (congrArg some (by kernel_rfl))⟩
 f27:=⟨Tryz.f78.name,by decide,Tryz.func78.trans (congrArg some (by kernel_rfl))⟩
 f28:=Tryz.func79.trans (congrArg some (by kernel_rfl))
 f29:=Tryz.func80.trans (congrArg some (by kernel_rfl))
 f46:=⟨Tryz.f106.name,by decide,Tryz.func106.trans (congrArg some (by kernel_rfl))⟩
 f47:=Tryz.func107.trans (congrArg some (by kernel_rfl))
 f48:=Tryz.func108.trans (congrArg some (by kernel_rfl))
 f49:=⟨Tryz.f109.name,by decide,Tryz.func109.trans (congrArg some (by kernel_rfl))⟩
 f50:=⟨Tryz.f110.name,by decide,Tryz.func110.trans (congrArg some (by kernel_rfl))⟩
 f57:=⟨Tryz.f124.name,by decide,Tryz.func124.trans (congrArg some (by kernel_rfl))⟩
 t0:=Tryz.underlying0
 a0:=Tryz.isAgg0
 z0:=Tryz.sizeOf0
 v0:=Tryz.zeroValue0
 t3:=Tryz.underlying3
 a3:=Tryz.isAgg3
 z3:=Tryz.sizeOf3
 v3:=Tryz.zeroValue3
 t4:=Tryz.underlying4
 a4:=Tryz.isAgg4
 z4:=Tryz.sizeOf4
 v4:=Tryz.zeroValue4
 t5:=Tryz.underlying5
 a5:=Tryz.isAgg5
 z5:=Tryz.sizeOf5
 v5:=Tryz.zeroValue5
 t9:=Tryz.underlying9
 a9:=Tryz.isAgg9
 z9:=Tryz.sizeOf9
 v9:=Tryz.zeroValue9
 t22:=Tryz.underlying40
 a22:=Tryz.isAgg40
 z22:=Tryz.sizeOf40
 v22:=Tryz.zeroValue40
 t25:=Tryz.underlying93
 a25:=Tryz.isAgg93
 z25:=Tryz.sizeOf93
 v25:=Tryz.zeroValue93
 t39:=Tryz.underlying23
 a39:=Tryz.isAgg23
 z39:=Tryz.sizeOf23
 v39:=Tryz.zeroValue23
 t45:=Tryz.underlying129
 a45:=Tryz.isAgg129
 z45:=Tryz.sizeOf129
 v45:=Tryz.zeroValue129
 t46:=Tryz.underlying130
 a46:=Tryz.isAgg130
 z46:=Tryz.sizeOf130
 v46:=Tryz.zeroValue130
 t50:=Tryz.underlying134
 a50:=Tryz.isAgg134
 z50:=Tryz.sizeOf134
 v50:=Tryz.zeroValue134
 t53:=Tryz.underlying137
 a53:=Tryz.isAgg137
 z53:=Tryz.sizeOf137
 v53:=Tryz.zeroValue137
 t55:=Tryz.underlying139
 a55:=Tryz.isAgg139
 z55:=Tryz.sizeOf139
 v55:=Tryz.zeroValue139
 t66:=Tryz.underlying159
 a66:=Tryz.isAgg159
 z66:=Tryz.sizeOf159
 v66:=Tryz.zeroValue159
 t70:=Tryz.underlying163
 a70:=Tryz.isAgg163
 z70:=Tryz.sizeOf163
 v70:=Tryz.zeroValue163
 t76:=Tryz.underlying179
 a76:=Tryz.isAgg179
 z76:=Tryz.sizeOf179
 v76:=Tryz.zeroValue179
 t77:=Tryz.underlying180
 a77:=Tryz.isAgg180
 z77:=Tryz.sizeOf180
 v77:=Tryz.zeroValue180 }
open Go.Sort Go.Lib
theorem DY (x y:Cp.Pb):ltOf Cp.cf x y=Cp.lt x y:=by
 obtain⟨o,C⟩:=x;obtain⟨B,A⟩:=y;rw[Bool.eq_iff_iff];unfold ltOf;rw[Cp.lt_iff];unfold Cp.cf Cp.cmp;simp only
 repeat' split
 all_goals (simp;try omega)
theorem LD:SWO (ltOf Cp.cf) where
 irrefl x:=by rw[DY];exact Cp.lt_irrefl x
 trans x y z h1 h2:=by rw[DY]at *;exact Cp.lt_trans h1 h2
 ntrans x y z h1 h2:=by
  rw[DY,← Bool.not_eq_true,Cp.lt_iff]at *;omega
theorem JV (blk off size:Nat) (w:World):CmpLays Tryz.prog 36 #[] Cp.enc 2 Cp.cf blk off size w :=
 λ_ _ _ _ x y=>Fl x y _
theorem Fi (l:List Cp.Pb):flatK Cp.enc 2 l.toArray=(AM l).toArray:=by
 refine ext_get! (by rw[size_flatK,List.size_toArray,List.size_toArray,Ae]) λt ht=>?_
 have o:t<l.toArray.size*2:=by rw[size_flatK]at ht;exact ht
 rw[get_flatK _ _ _ _ o];have A:t<(AM l).length:=by rw[Ae];simpa using o
 obtain⟨p,C,F⟩:=CM l t _ (ZH A);have D:l.toArray[t / 2]! = p:=by
  have B:=(List.getElem?_eq_some_iff.1 C)
  rw[getElem!_pos _ _ (by simpa using B.1)]
  simpa using B.2
 have E:(AM l).toArray[t]! = (AM l)[t]:=by
  rw[getElem!_pos _ _ (by simpa using A)];rfl
 rw[D,E,F];unfold Cp.enc;rcases Nat.mod_two_eq_zero_or_one t with h|h<;>rw[h]<;>rfl
theorem Ab.holds {w:World} {base blk n cap:Nat} {l:List Cp.Pb} (h:Ab w base (.slice (some ⟨blk,0,none⟩) n cap) l):HoldsK Cp.enc 2 w blk 0 l.toArray:=by
 unfold HoldsK;rw[Fi];rcases h.2 with⟨h4,h5⟩|⟨g,cap',cur,hv,hg,hb,hc,hm,hs,ht⟩
 ·cases h4
 cases hv;intro j hj;have o:j<(AM l).length:=by simpa using hj
 have D:(AM l).toArray[j]! = (AM l)[j]:=by
  rw[getElem!_pos _ _ (by simpa using o)];rfl
 have B:=Ae l;have A:j<cur.size:=by omega
 have C:(AM l)[j]=cur[j]:=by
  have:(AM l)[j]?=cur.toList[j]?:=by
   rw[← ht,List.getElem?_take_of_lt (by omega)]
  rw[ZH o,ZH (by simpa using A)]at this
  simpa using this
 refine⟨?_,?_⟩
 ·unfold World.cell?
  dsimp only
  rw[hb];simp only[Option.isSome_none,Bool.false_eq_true,if_false];rw[D,C,Nat.zero_add];simp[A]
 ·unfold World.frozen?
  dsimp only
  rw[hb];simp
theorem Ab.sorted {w:World} {base blk n cap:Nat} {l d:List Cp.Pb} (h:Ab w base (.slice (some ⟨blk,0,none⟩) n cap) l) (hd:d.length=l.length) (m:Nat) (os:Array Obj) :
  Ab (sortWorldK Cp.enc 2 w blk 0 m d.toArray os) base (.slice (some ⟨blk,0,none⟩) n cap) d∧(base≤w.heap.size→Below base w (sortWorldK Cp.enc 2 w blk 0 m d.toArray os)):=by
 rcases h.2 with⟨h4,h5⟩|⟨g,cap',cur,hv,hg,hb,hc,hm,hs,ht⟩
 ·cases h4
 have E:n=l.length:=by cases hv;rfl
 cases hv;have A:blk<w.heap.size:=block_lt hb;have D:(sortWorldK Cp.enc 2 w blk 0 m d.toArray os).heap[blk]?=some (.cells (putCells id 0 (AM d).toArray cur) 42 (0,0)):=by
  unfold sortWorldK;rw[heap_grow_old _ _ (by show blk<(Array.modify _ _ _).size;rw[Array.size_modify];exact A)];unfold putRowK putRow;rw[Fi];show (Array.modify _ blk _)[blk]?=_;rw[Array.getElem?_modify,if_pos rfl];show Option.map _ w.heap[blk]?=_;rw[hb];rfl
 have C:=Ae d;refine⟨⟨by rw[Ae],.inr ⟨blk,cap,_,by rw[hd],hg,D,by omega,hm,by unfold putCells;rw[Array.size_mapIdx];exact hs,?_⟩⟩,λhbw=>?_⟩
 ·apply List.ext_getElem?;intro j;by_cases hj:j<d.length*2
  ·rw[List.getElem?_take_of_lt hj];have B:j<cur.size:=by omega
   have o:j<(AM d).length:=by omega
   unfold putCells;rw[Array.getElem?_toList,Array.getElem?_mapIdx,Array.getElem?_eq_getElem B];simp only[Option.map_some,id];rw[if_pos ⟨ZT _,by simpa using o⟩,ZH o,Nat.sub_zero,getElem!_pos _ _ (by simpa using o)];rfl
  ·rw[List.getElem?_take,if_neg hj,List.getElem?_eq_none (by omega)]
 ·unfold sortWorldK;refine⟨rfl,rfl,rfl,?_,λk hk=>?_⟩
  ·show w.heap.size≤(Array.modify _ _ _++os).size;rw[Array.size_append,Array.size_modify];exact Nat.le_add_right _ _
  ·rw[heap_grow_old _ _ (by show k<(Array.modify _ _ _).size;rw[Array.size_modify];show k<w.heap.size;omega)];unfold putRowK putRow;show (Array.modify _ blk _)[k]?=_;rw[Array.getElem?_modify,if_neg (by omega)];rfl
theorem IY (v:Value) (l:List Cp.Pb) (w:World) (base:Nat) (ho:Ab w base v l) (hbw:base≤w.heap.size) (hl:l.length≤1000000000) :
  Calls Tryz.prog 35 #[v,.func (.func 36) #[] #[]] w λe w'=>e=.returned (.tuple #[])∧∃d:List Cp.Pb,d.length=l.length∧(∀x,x∈d↔x∈l)∧(d.Pairwise λx y=>Cp.lt y x=false)∧Ab w' base v d∧Below base w w':=by
 rcases ho.2 with⟨h4,h5⟩|⟨g,cap,cur,hv,hg,hb,hc,hm,hs,ht⟩
 ·subst h4;refine (AnyF.slices_SortFunc_none Di none 0 _ w).mono ?_;rintro e w' ⟨rfl,rfl⟩;have:l=[]:=List.eq_nil_of_length_eq_zero h5;subst this;exact⟨rfl,[],rfl,λ_=>Iff.rfl,List.Pairwise.nil,ho,Below.refl _ _⟩
 ·subst hv;have E:∀args w,(callFunc 36 args).run Tryz.prog w=.ok (.enter 36 args) w:=enters_of Tryz.func36 (by kernel_rfl) rfl;have A:=AnyQ.slices_SortFunc_total Di 2 Tryz.isAgg42 Tryz.sizeOf42 Cp.enc (λ_=>rfl) (λx v hv=>by simp[Cp.enc]at hv;rcases hv with rfl|rfl<;>rfl) Cp.cf LD 36 #[] g 0 cap l.toArray w E (JV g 0 _ w) ho.holds (block_lt hb) (by simp;omega)
   (λx y h1 h2=>by
    rw[DY]at h1 h2;rcases Cp.lt_total x y with h|h|h
    ·rw[h]at h1;cases h1
    ·exact h
    ·rw[h]at h2;cases h2)
  refine A.mono ?_;rintro e w' ⟨rfl,n,os,rfl⟩;obtain⟨d,B⟩:∃d,d=l.mergeSort (λx y=>!ltOf Cp.cf y x):=⟨_,rfl⟩
  have D:d.Perm l:=by rw[B];exact List.mergeSort_perm _ _
  have o:=ho.sorted D.length_eq n os;rw[show (l.toArray.toList.mergeSort λx y=>!ltOf Cp.cf y x)=d by rw[B]];refine⟨rfl,d,D.length_eq,λx=>D.mem_iff,?_,o.1,o.2 hbw⟩;have C:d.Pairwise (λx y=>(!ltOf Cp.cf y x)=true):=by
   rw[B];refine List.pairwise_mergeSort (λa b c h1 h2=>?_) (λa b=>?_) l
   ·rw[DY]at *;simp only[Bool.not_eq_true']at *;rw[← Bool.not_eq_true,Cp.lt_iff]at *;omega
   ·rw[DY,DY];rcases Cp.lt_total a b with h|h|h
    ·rw[Cp.lt_asymm h];simp
    ·rw[h,Cp.lt_irrefl];simp
    ·rw[Cp.lt_asymm h];simp
  exact C.imp (λ{x y} h=>by rw[DY]at h;simpa using h)
open Go.Maps Go.WideMaps
def DF:Go.Shelf.Ren:=⟨fun|4=>56|n=>n,fun|0=>0|3=>3|4=>4|9=>9|20=>20|22=>40|25=>42|n=>n,fun|n=>n⟩
theorem D9:Go.Proofs.Lays8.n4 Tryz.prog DF:={
 mixed:=by kernel_rfl
 f4:=⟨Tryz.f56.name,by decide,Tryz.func56.trans (congrArg some (by kernel_rfl))⟩
 t0:=Tryz.underlying0
 a0:=Tryz.isAgg0
 z0:=Tryz.sizeOf0
 v0:=Tryz.zeroValue0
 t3:=Tryz.underlying3
 a3:=Tryz.isAgg3
 z3:=Tryz.sizeOf3
 v3:=Tryz.zeroValue3
 t4:=Tryz.underlying4
 a4:=Tryz.isAgg4
 z4:=Tryz.sizeOf4
 v4:=Tryz.zeroValue4
 t9:=Tryz.underlying9
 a9:=Tryz.isAgg9
 z9:=Tryz.sizeOf9
 v9:=Tryz.zeroValue9
 t20:=Tryz.underlying20
 a20:=Tryz.isAgg20
 z20:=Tryz.sizeOf20
 v20:=Tryz.zeroValue20
 t22:=Tryz.underlying40
 a22:=Tryz.isAgg40
 z22:=Tryz.sizeOf40
 v22:=Tryz.zeroValue40 }
theorem H8 (n:Nat) (w:World) (hn:n≤1000000000) :
  Calls Tryz.prog 56 #[.slice none 0 0,.int .i64 n] w λe w'=>∃v,e=.returned v∧Ab w' w.heap.size v []∧Below w.heap.size w w':=by
 obtain⟨E,hi,B,C,A⟩:=CL;by_cases h0:n=0
 ·subst h0;refine (Any8.slices_Grow_room D9 none 0 0 0 w (by omega) (by omega) (by omega) (by omega)).mono ?_;rintro e w' ⟨rfl,rfl⟩;exact⟨_,rfl,World.ownsRow_nil _ _ _ _,Below.refl _ _⟩
 ·refine (Any8.slices_Grow_grow D9 E (.agg #[.int .i64 0,.int .i64 0]) hi B (by rw[C];omega) none 0 0 n [] w (by omega) (by omega) (by rw[A];omega) (by omega) (by simp) (λ_=>rfl) (λa h=>by cases h)).mono ?_;rintro e w' ⟨rfl,rfl⟩;refine⟨_,rfl,?_,⟨rfl,rfl,rfl,by simp,λk hk=>Below.heap_alloc w.drew _ _ hk⟩⟩;have o:=grownCap_le_maxLen w (0+n) 0 (DF.t 25) (by unfold maxLen;omega);have D:=grownCap_ge w (0+n) 0 (DF.t 25);refine⟨rfl,.inr ⟨w.heap.size,_,_,rfl,QM _,AC w.drew _,ZT _,o,?_,?_⟩⟩
  ·rw[Nat.zero_add]at D;simp[Builtin.zeroCells,Value.cells];omega
  ·rfl
def Prp (w:World) (v:Value) (ls:List (List Cp.Pb)):Prop :=
 ∃a cap,v=.slice a ls.length cap∧∀(i:Nat) l,ls[i]?=some l→∃b off v' P,a=some ⟨b,off,none⟩∧b<w.heap.size∧w.cell? ⟨b,off+i,none⟩=some v'∧FW v'∧Pbs w P v' l
theorem Prp.form {w:World} {v:Value} {l:List (List Cp.Pb)} (h:Prp w v l):∃a cap,v=.slice a l.length cap:=by
 obtain⟨a,cap,o,A⟩:=h;exact⟨a,cap,o⟩
theorem Prp.at {w:World} {a:Option Addr} {n cap:Nat} {ls:List (List Cp.Pb)} (h:Prp w (.slice a n cap) ls) {i:Nat} {l:List Cp.Pb} (hi:ls[i]?=some l) :
  ∃b off v' P,a=some ⟨b,off,none⟩∧b<w.heap.size∧w.cell? ⟨b,off+i,none⟩=some v'∧FW v'∧Pbs w P v' l:=by
 obtain⟨G,o,A,E⟩:=h;obtain⟨b,off,v',P,e,B,F,D,C⟩:=E i l hi;simp only[Value.slice.injEq]at A;exact⟨b,off,v',P,by rw[A.1,e],B,F,D,C⟩
theorem ET {α} (ls:List (List α)) (j:Nat) (l:List α) (h:ls[j]?=some l):(ls.take (j+1)).flatten=(ls.take j).flatten++l:=by
 rw[List.take_add_one,h];simp
theorem GY (v:Value) (ls:List (List Cp.Pb)) (w:World) (hV:Prp w v ls) (hl:ls.length≤1000000000) (hs:ls.flatten.length≤1000000) :
  Calls Tryz.prog 34 #[v] w λe w'=>∃v',e=.returned v'∧Ab w' w.heap.size v' ls.flatten∧Below w.heap.size w w':=by
 obtain⟨va,vc,rfl⟩:=hV.form;have HV:=QA hV;clear hV;go_enter Tryz.func34,Tryz.ntmps34;go_wp2_with fail
 go_loopg [3,5,11] ls.length (λk s3 s5 s11 wr=>∃j:Nat,j≤ls.length∧k=ls.length-j∧s11=.int .i64 (j:Nat)∧(∃M:Nat,s3=.int .i64 (M:Nat)∧M=(ls.take j).flatten.length)∧wr=w)
 case atStart=>exact⟨0,ZT _,rfl,rfl,⟨0,rfl,rfl⟩,rfl⟩
 case round =>
  obtain⟨j,hj,N,rfl,⟨M,rfl,hM⟩,ax⟩:=hrel;subst wr;have HK:=QA N;have HM:=QA hM;clear N hM;have ap:(0:Int)≤(j:Int):=Int.natCast_nonneg _;by_cases hjn:j<ls.length
  ·have L:(j:Int)<(ls.length:Int):=by omega
   obtain⟨l,F⟩:∃l,ls[j]?=some l:=⟨_,ZH hjn⟩
   obtain⟨g,o,S,P,rfl,hg,E,B,Q⟩:=HV.out.at F;obtain⟨la,lc,rfl⟩:=Q.form;have J:(ls.take (j+1)).flatten.length=(ls.take j).flatten.length+l.length:=by rw[ET ls j l F,QS]
   have D:(ls.take (j+1)).flatten.length≤ls.flatten.length:=by
    have:=congrArg (λx:List (List Cp.Pb)=>x.flatten.length) (List.take_append_drop (j+1) ls);simp only[List.flatten_append,QS]at this;omega
   have T:(0:Int)≤(M:Int):=Int.natCast_nonneg _;have ag:(M:Int)+(l.length:Int)≤1000000:=by rw[HM.out];omega
   have ac:(0:Int)≤(M:Int)+(l.length:Int):=by omega
   have C:=QA J;clear J D F B;go_wp2_with fail;go_roundg (ls.length-(j+1))
   case measure=>rw[HK.out];omega
   case rel=>exact⟨j+1,by omega,rfl,by simp,⟨M+l.length,by simp,by rw[C.out,HM.out]⟩,rfl⟩
  ·have L:(ls.length:Int)≤(j:Int):=by omega
   have HE:Hid (ls.take j=ls):=QA (List.take_of_length_le (by omega));have Z:M≤1000000000:=by rw[HM.out,HE.out];omega
   go_wp2_with fail;refine (H8 M w Z).mono ?_;rintro e w1 ⟨v1,rfl,ho1,hb1⟩;obtain⟨oa,on,oc,Y,aw⟩:=Ab.form ho1;subst Y;have V:=QA ho1;clear ho1;go_wp2_with fail
   go_loopg [6,8,27] ls.length (λk s6 s8 s27 wq=>∃i:Nat,i≤ls.length∧k=ls.length-i∧s27=.int .i64 (i:Nat)∧Ab wq w.heap.size s6 (ls.take i).flatten∧Below w.heap.size w wq)
   case atStart=>exact⟨0,ZT _,rfl,rfl,V.out,hb1⟩
   case round =>
    obtain⟨i,ar,N,rfl,H,A⟩:=hrel;obtain⟨ao,ay,al,K,ai⟩:=Ab.form H;subst K;have aa:=QA N;clear N;have am:(0:Int)≤(i:Int):=Int.natCast_nonneg _;by_cases hin:i<ls.length
    ·have O:(i:Int)<(ls.length:Int):=by omega
     obtain⟨l,G⟩:∃l,ls[i]?=some l:=⟨_,ZH hin⟩
     obtain⟨g,o,S,P,rfl,hg,E,B,Q⟩:=HV.out.at G;have aj:wr.cell? ⟨g,o+i,none⟩=some S:=by rw[World.cell?_of_block (A.block g hg)];exact E
     have HB:=QA (Q.to (AD.below A));have W:=QA B;have C:=QA (ET ls i l G);have D:(ls.take i).flatten.length+l.length≤1000000000:=by
      have h1:=congrArg (λx:List (List Cp.Pb)=>x.flatten.length) (List.take_append_drop (i+1) ls);simp only[List.flatten_append,QS,C.out]at h1;omega
     have X:=QA D;have R:=QA H;have ae:=A.size;clear Q D H E G B;go_wp2_with (first|(at_builtin;refine BO rfl _ _ rfl w.heap.size _ _ rfl R.out S P l rfl HB.out X.out ae W.out ?_;intro d' w5 hown5 hgrow5 _;have I:=QA hown5;have ab:=QA hgrow5;clear hown5 hgrow5)|fail);go_roundg (ls.length-(i+1))
     case measure=>rw[aa.out];omega
     case rel=>exact⟨i+1,by omega,rfl,by simp,by rw[C.out];exact I.out,R.out.grown A ab.out A.size⟩
    ·have O:(ls.length:Int)≤(i:Int):=by omega
     have U:Hid (ls.take i=ls):=QA (List.take_of_length_le (by omega));rw[U.out]at H;have R:=QA H;clear H;go_wp2_with fail;go_ret;exact⟨_,rfl,R.out,A⟩
theorem Bw (b:Nat) (T:TypeId) (fz:Nat×Nat):∀(vs:List Value) (s:Nat) (w:World) (cur:Array Value),w.heap[b]?=some (.cells cur T fz) →
  ∃cur',(w.setCells b s vs).heap[b]?=some (.cells cur' T fz)∧cur'.size=cur.size∧(∀j,j<s→cur'[j]?=cur[j]?)∧∀k,k≤b→Below k w (w.setCells b s vs)
 | [],s,w,cur,h=>⟨cur,h,rfl,λ_ _=>rfl,λ_ _=>Below.refl _ _⟩
 | v::r,s,w,cur,h=>by
  have B:(w.setCell ⟨b,s,none⟩ v).heap[b]?=some (.cells (cur.setIfInBounds s v) T fz):=by
   simp[World.setCell,Array.getElem?_modify,h]
  obtain⟨cur',D,A,E,C⟩:=Bw b T fz r (s+1) _ _ B;refine⟨cur',D,by rw[A];simp,λj hj=>?_,λk hk=>?_⟩
  ·rw[E j (by omega),Array.getElem?_setIfInBounds_ne (by omega)]
  ·have o:Below k w (w.setCell ⟨b,s,none⟩ v):=⟨rfl,rfl,rfl,by simp[World.setCell],λj hj=>Below.heap_setCell _ _ _ _ (by show j≠b;omega)⟩
   exact o.trans (C k hk)
theorem FO (w:World) (ty:TypeId) (b o n c:Nat) (hn:0<n)
  (hc:∀j,j<n*2→(w.cell? ⟨b,o+j,none⟩).isSome=true) (hf:∀j,j<n*2→w.frozen? ⟨b,o+j,none⟩=false) :
  (Builtin.clear_ #[40] ty #[.slice (some ⟨b,o,none⟩) n c]).run Tryz.prog w=.ok (.tuple #[]) (w.setCells b o (List.replicate (n*2) (.int .i64 0))):=by
 have B:(Builtin.zeroCells #[Value.int .i64 0,.int .i64 0] n).toList=List.replicate (n*2) (.int .i64 0):=by
  apply List.ext_getElem
  ·simp[Builtin.zeroCells]
  ·intro i h1 h2;simp[Builtin.zeroCells];rcases Nat.mod_two_eq_zero_or_one i with h|h<;>rw[h]<;>rfl
 have A:=run_storeCells_cells (P:=Tryz.prog) b o (List.replicate (n*2) (.int .i64 0)) 0 w (by simpa using hc) (by simpa using hf) (by intro v hv';rw[List.eq_of_mem_replicate hv'];rfl);simp only[Nat.add_zero]at A;have C:=Tryz.zeroValue42;obtain⟨m,rfl⟩:∃m,n=m+1:=⟨n-1,by omega⟩
 simp[Builtin.clear_,run_underlying Tryz.underlying40,C,Value.cells,B,A]
open Go.Maps Go.WideMaps
structure Bc (w:World) (g cap:Nat) (d:List Cp.Pb):Prop where
 row:∃cur,w.heap[g]?=some (.cells cur 42 (0,0))∧cur.size=cap*2∧cur.toList.take (d.length*2)=AM d
 le:d.length≤cap
section
variable {w w' : World} {g cap : Nat} {d : List Cp.Pb}
theorem Bc.at (h:Bc w g cap d) {i:Nat} {p:Cp.Pb} (hi:d[i]?=some p):w.cell? ⟨g,i*2,none⟩=some (.int .i64 p.1)∧w.cell? ⟨g,i*2+1,none⟩=some (.int .i64 p.2):=by
 obtain⟨C,D,E,B⟩:=h.row;have F:=(List.getElem?_eq_some_iff.1 hi).1;obtain⟨o,A⟩:=D6 d i p hi;rw[← B,List.getElem?_take_of_lt (by omega)]at o A;unfold World.cell?
 dsimp only
 rw[D];simp only[Option.isSome_none,Bool.false_eq_true,if_false];exact⟨by simpa using o,by simpa using A⟩
theorem Bc.frozen (h:Bc w g cap d) (j:Nat):w.frozen? ⟨g,j,none⟩=false:=by
 obtain⟨A,o,B,C⟩:=h.row;unfold World.frozen?
 dsimp only
 rw[o];simp
theorem Bc.there (h:Bc w g cap d) {j:Nat} (hj:j<cap*2):(w.cell? ⟨g,j,none⟩).isSome=true:=by
 obtain⟨A,o,B,C⟩:=h.row;unfold World.cell?
 dsimp only
 rw[o];simp only[Option.isSome_none,Bool.false_eq_true,if_false];rw[Array.getElem?_eq_getElem (by omega)];rfl
theorem Bc.heap (h:Bc w g cap d) (he:w'.heap[g]?=w.heap[g]?):Bc w' g cap d:=by
 obtain⟨o,A,B,C⟩:=h.row;exact⟨⟨o,by rw[he];exact A,B,C⟩,h.le⟩
theorem Da:∀(d:List Cp.Pb) (i:Nat) (u:Cp.Pb),AM (d.set i u)=((AM d).set (i*2) (.int .i64 u.1)).set (i*2+1) (.int .i64 u.2)
 | [],i,u=>by simp[AM]
 | x::r,0,u=>by rw[List.set_cons_zero,Ad,Ad];rfl
 | x::r,i+1,u=>by
  rw[List.set_cons_succ,Ad,Da r i u,Ad,show (i+1)*2=i*2+1+1 by omega];rfl
theorem take_set {α:Type}:∀(l:List α) (n i:Nat) (x:α),i<n→(l.set i x).take n=(l.take n).set i x
 | [],n,i,x,h=>by simp
 | y::r,0,i,x,h=>by omega
 | y::r,n+1,0,x,h=>by simp
 | y::r,n+1,i+1,x,h=>by simp[take_set r n i x (by omega)]
theorem Bc.set (h:Bc w g cap d) {i:Nat} (hi:i<d.length) (u:Cp.Pb) :
  Bc ((w.setCell ⟨g,i*2,none⟩ (.int .i64 u.1)).setCell ⟨g,i*2+1,none⟩ (.int .i64 u.2)) g cap (d.set i u):=by
 obtain⟨o,A,B,C⟩:=h.row;refine⟨⟨(o.setIfInBounds (i*2) (.int .i64 u.1)).setIfInBounds (i*2+1) (.int .i64 u.2),?_,by simp[B],?_⟩,by rw[List.length_set];exact h.le⟩
 ·simp[World.setCell,Array.getElem?_modify,A]
 ·rw[List.length_set,Array.toList_setIfInBounds,Array.toList_setIfInBounds,take_set _ _ _ _ (by omega),take_set _ _ _ _ (by omega),C,Da]
theorem Bc.take (h:Bc w g cap d) (k:Nat) (hk:k≤d.length):Bc w g cap (d.take k):=by
 obtain⟨o,D,F,C⟩:=h.row;have A:(d.take k).length=k:=by rw[ZI];omega
 refine⟨⟨o,D,F,?_⟩,by rw[A];have:=h.le;omega⟩;rw[A];have E:AM d=AM (d.take k)++AM (d.drop k):=by rw[← CP,List.take_append_drop]
 have B:=congrArg (List.take (k*2)) C;rw[List.take_take,Nat.min_eq_left (by omega)]at B;rw[B,E,List.take_left' (by rw[Ae,A])]
theorem Ab.row {base n:Nat} (h:Ab w base (.slice (some ⟨g,0,none⟩) n cap) d):Bc w g cap d:=by
 rcases h.2 with⟨h4,h5⟩|⟨g',cap',cur,hv,hg,hb,hc,hm,hs,ht⟩
 ·cases h4
 cases hv;exact⟨⟨cur,hb,hs,ht⟩,hc⟩
theorem Bc.own (h:Bc w g cap d) {base:Nat} (hg:base≤g) (hm:cap≤maxLen):Ab w base (.slice (some ⟨g,0,none⟩) d.length cap) d:=by
 obtain⟨o,A,B,C⟩:=h.row;exact⟨Ae d,.inr ⟨g,cap,o,rfl,hg,A,h.le,hm,B,C⟩⟩
end
namespace Cp
structure CI (l:List Pb) (j k:Nat) (d:List Pb):Prop where
 len:d.length=l.length
 le:k+1≤j
 jl:j≤l.length
 kept:d.take k=comp (l.take j)
 rest:∀i,j≤i+1→d[i]?=l[i]?
theorem DJ (l:List Pb) (j:Nat) (hj:j+1≤l.length):(l.take (j+1)).getLast?=l[j]?:=by
 rw[List.getLast?_eq_getElem?,ZI,Nat.min_eq_left hj,List.getElem?_take_of_lt (by omega)];rfl
theorem CI.skip {l d:List Pb} {j k:Nat} (h:CI l (j+1) k d) {x:Pb} (h1:l[j+1]?=some x) (h0:l[j]?=some x):CI l (j+1+1) k d:=by
 have o:=(List.getElem?_eq_some_iff.1 h1).1;refine⟨h.len,by have:=h.le;omega,by omega,?_,λi hi=>h.rest i (by omega)⟩;rw[h.kept,List.take_add_one (i:=j+1),h1];show _=comp (l.take (j+1)++[x]);rw[Cb,if_pos (by rw[DJ l j (by omega)];exact h0)]
theorem CI.keep {l d:List Pb} {j k:Nat} (h:CI l (j+1) k d) {x y:Pb} (h1:l[j+1]?=some x) (h0:l[j]?=some y) (hn:x≠y):CI l (j+1+1) (k+1) (d.set k x):=by
 have B:=(List.getElem?_eq_some_iff.1 h1).1;have o:=h.le;refine⟨by rw[List.length_set];exact h.len,by omega,by omega,?_,λi hi=>by rw[List.getElem?_set_ne (by omega)];exact h.rest i (by omega)⟩;have A:k<d.length:=by rw[h.len];omega
 rw[List.take_add_one,List.getElem?_set_self A,List.take_set_of_le (QM _),h.kept,List.take_add_one (i:=j+1),h1];show _=comp (l.take (j+1)++[x]);rw[Cb,if_neg (by rw[DJ l j (by omega),h0];intro e;exact hn (Option.some.inj e).symm)];rfl
theorem CI.start {l:List Pb} {k:Nat} {x:Pb} (h1:l[k+1]?=some x) (h0:l[k]?=some x) (hd:∀(i:Nat) a b,i+1<k+1→l[i]?=some a→l[i+1]?=some b→a≠b):CI l (k+1+1) (k+1) l:=by
 have o:=(List.getElem?_eq_some_iff.1 h1).1;refine⟨rfl,by omega,by omega,?_,λ_ _=>rfl⟩;rw[List.take_add_one (i:=k+1),h1];show _=comp (l.take (k+1)++[x]);rw[Cb,if_pos (by rw[DJ l k (by omega)];exact h0),comp_same];intro i a b ha hb;have hi:=(List.getElem?_eq_some_iff.1 hb).1;rw[ZI]at hi;rw[List.getElem?_take_of_lt (by omega)]at ha hb;exact hd i a b (by omega) ha hb
end Cp
end Go.Proofs.YtedeapbonbbacaaGreatDoor
