/-
  StoreRefuses, walked. 'StoreFull': the row and its card. 'StoreAgain': the row and its card. 'StoreRefuses': the row and its card.
-/
import Derived.Test.YtjldahcckmmenaaGreatDoorZa23
import Derived.Test.YtjldahcckmmenaaGreatDoorZa22
import Derived.Test.YtjldahcckmmenaaGreatDoorZa14
import Derived.Test.YtjldahcckmmenaaGreatDoorZa21
import Derived.Carry
open Array renaming getInternal_eq_getElem → QD
open Go.Lib renaming hid → QA
open List renaming setIfInBounds_toArray → QC, set_cons_succ → QG, set_cons_zero → QH, getElem_cons_zero → QI, getElem_cons_succ → QJ, getElem_toArray → QK, all_eq_true → ZK
open Nat renaming le_refl → QM, le_trans → QQ
namespace Go.Proofs.YtjldahcckmmenaaGreatDoor
set_option maxRecDepth 100000
set_option maxHeartbeats 4000000
set_option linter.unusedSimpArgs false
set_option linter.unusedVariables false
open Go Go.RowKit
open Go.Maps Go.WideMaps
namespace Sto
theorem wrote_first (a:Int) (ops:List Op):(wrote [(a,[])] ops).length≤1:=by
 unfold wrote;split
 ·have h:=put_snoc [] a [] ops;rw[List.nil_append]at h;rw[h,if_neg (by show ¬4096<0;omega)];simp
 ·simp
theorem wrote_first_live (a:Int) (ops:List Op):live (ents (wrote [(a,[])] ops))≤8768:=by
 rw[ER (by simp)];have o:ents [(a,([]:List (List Op)))]=[]:=rfl;split
 ·rename_i hg;have A:=live_chgs_le ops (ents [(a,[])]);obtain⟨B,C⟩:=chk_len hg.1;rw[o]at A ⊢;have:live ([]:Ents)=0:=rfl;omega
 ·rw[o];exact Nat.zero_le _
theorem wcode_little {S:List Seg} {ops:List Op} (hl:live (ents S)≤8768) (hc:chk ops=0):wcode S ops=0:=by
 obtain⟨A,o⟩:=chk_len hc;have B:=live_chgs_le ops (ents S);exact wcode_ok hc (by omega)
theorem wrote_little {S:List Seg} (hne:S≠[]) {ops:List Op} (hl:live (ents S)≤8768) (hc:chk ops=0):ents (wrote S ops)=chgs (ents S) ops:=by
 rw[ER hne];split
 ·rfl
 ·rename_i hg;have o:ops=[]:=by
   refine List.eq_nil_of_length_eq_zero (Classical.byContradiction λh=>hg ⟨hc,?_,by omega⟩);obtain⟨A,B⟩:=chk_len hc;have C:=live_chgs_le ops (ents S);omega
  rw[o];rfl
end Sto
theorem LI {F:Nat→Prop} {w:World} {v:Value} {l:Sto.ME} (h:Au w F v l) (hi:∀p∈l,F8 p) (hf:∀p∈l,p.1.2.2.length≤9000):∀o∈Sto.opsOf l,ROk o:=λo ho=>by
 obtain⟨p,B,rfl⟩:=List.mem_map.1 ho;obtain⟨i,A⟩:=List.getElem?_of_mem B;obtain⟨a,cap,E,_,C⟩:=h;have D:=hf p B;exact⟨(C i p A).1,(hi p B).2,by omega⟩
theorem Dl (base:Nat) (v u:Value) (gs bs:Sto.ME) (w:World) (hE:Cq base w) (hbase:base≤w.heap.size) (hv:Au w (Low w) v gs) (hu:Au w (Low w) u bs) (hgl:gs.length≤9223372036854775807) (hbl:bs.length≤9223372036854775807)
  (hgi:∀p∈gs,F8 p) (hbi:∀p∈bs,F8 p) :
  Calls Tryz.prog 5 #[v,u] w λe w'=>e=.returned (.bool true)∧Below w.heap.size w w':=by
 obtain⟨va,vc,rfl⟩:=hv.form;obtain⟨ua,uc,rfl⟩:=hu.form;have aI:maxLen=9223372036854775807:=by decide
 have HE:=QA hE;have HV:=QA hv;have HU:=QA hu;have aY:=QA hgi;have aE:=QA hbi;have aD:=QA aI;clear hE hv hu hgi hbi aI;go_enter Tryz.func5,Tryz.ntmps5;go_wp2_with fail;refine (Bz base w HE.out hbase).mono ?_;rintro e w1 ⟨rfl,hb1⟩;have Y:=QA hb1;have aA:=QA (HE.out.below (hb1.mono hbase));have aa:Hid (base≤w1.heap.size):=QA (QQ hbase hb1.size);have aN:=QA (HV.out.mv (MV.below hb1));clear hb1;go_wp2_with fail;refine (Dq _ gs w1 (Low w) aN.out hgl (λp hp=>by have:=(aY.out p hp).1;rw[aD.out]at this;exact this)).mono ?_;rintro e w2 ⟨fb,rfl,hfit,hb2⟩;have G:Hid (Below w.heap.size w w2):=QA (Y.out.trans (hb2.mono Y.out.size));have ac:=QA (aA.out.below (hb2.mono aa.out));have J:Hid (base≤w2.heap.size):=QA (QQ aa.out hb2.size);have aS:=QA (HU.out.mv (F':=Low w) (MV.below G.out));have ar:=QA hfit;clear hb2 hfit;cases fb with
 | false =>
  go_wp2_with fail;refine (Bz base w2 ac.out J.out).mono ?_;rintro e w9 ⟨rfl,hb9⟩;have A:Hid (Below w.heap.size w w9):=QA (G.out.trans (hb9.mono G.out.size));clear hb9;go_wp2_with fail;refine bodyPost_ret (v:=.bool true) (by simp[results,Tryz.results5,go_sem]) rfl ?_;exact⟨rfl,A.out⟩
 | true =>
  go_wp2_with fail;refine (Dq _ bs w2 (Low w) aS.out hbl (λp hp=>by have:=(aE.out p hp).1;rw[aD.out]at this;exact this)).mono ?_;rintro e w3 ⟨fc,rfl,hfit,hb3⟩;have o:Hid (Below w.heap.size w w3):=QA (G.out.trans (hb3.mono G.out.size));have M:=QA (ac.out.below (hb3.mono J.out));have K:Hid (base≤w3.heap.size):=QA (QQ J.out hb3.size);have av:=QA hfit;clear hb3 hfit;cases fc with
  | false =>
   go_wp2_with fail;refine (Bz base w3 M.out K.out).mono ?_;rintro e w9 ⟨rfl,hb9⟩;have A:Hid (Below w.heap.size w w9):=QA (o.out.trans (hb9.mono o.out.size));clear hb9;go_wp2_with fail;refine bodyPost_ret (v:=.bool true) (by simp[results,Tryz.results5,go_sem]) rfl ?_;exact⟨rfl,A.out⟩
  | true =>
   have ay:=QA (ar.out (by simp));have A:=QA (av.out (by simp));clear ar av;go_wp2_with fail;refine (FC base 60000 w3 M.out.sg K.out (by decide) (by decide)).mono ?_;rintro e w4 ⟨r,f4,V4,own4,sv4,mb4,rfl,hr,h4,hb4⟩;have al:=QA h4;have af:=QA hb4;have ax:Hid (A0 w3.heap.size w3):=QA (M.out.sg.mono K.out);have aM:Hid (Au w4 (Low w) (.slice va gs.length vc) gs):=QA (HV.out.mv (MV.below (o.out.trans (hb4.mono o.out.size))));clear h4 hb4;go_wp2_with fail;refine (al.out.write hr (ax.out.below af.out) _ gs aM.out (λb _ hb=>al.out.low hr o.out.size b hb) (QQ ay.out.1 (by decide)) (λp hp=>QQ (ay.out.2 p hp) (by decide)) (by decide) (by decide) (by decide)).mono ?_;rintro e w5 ⟨rfl,f,V,own,ver,mb,sv,l,h5,hf5,hb5⟩;have ak:=Sto.wrote_first 1 (Sto.opsOf gs);have ao:=Sto.wrote_first_live 1 (Sto.opsOf gs);obtain⟨S,L⟩:∃S,Sto.wrote [(1,[])] (Sto.opsOf gs)=S:=⟨_,rfl⟩
   rw[L]at h5 ak ao;have aj:=QA h5;have ad:=QA ao;have au:=QA ak;have aq:Hid (Below w3.heap.size w3 w5):=QA (af.out.trans hb5);clear h5 hf5 hb5 L ak ao al af;go_wp2_with fail;refine AK (λ_=>True) 8 (by kernel_rfl) ?_;have L:True:=trivial;change Ad _ _ _ _ _ _ _ _ _ (w5).drew;refine TK (i:=0) (v:=.pointer (some ⟨r,0,none⟩)) rfl (Or.inl ⟨by rfl,λw hSw=>by go_simp⟩) L ?_;simp only[Act.put,QD,QK,QI,QJ,QC,QH,QG];refine TK (i:=2) (v:=.pointer (some ⟨w3.heap.size+2,0,none⟩)) rfl (Or.inl ⟨by rfl,λw hSw=>by go_simp⟩) L ?_;simp only[Act.put,QD,QK,QI,QJ,QC,QH,QG];refine TK (i:=3) (v:=.pointer (some ⟨w3.heap.size+2,0,none⟩)) rfl (Or.inl ⟨by rfl,λw hSw=>by go_simp⟩) L ?_;simp only[Act.put,QD,QK,QI,QJ,QC,QH,QG];refine TK (i:=4) (v:=.pointer (some ⟨w3.heap.size+2,0,none⟩)) rfl (Or.inl ⟨by rfl,λw hSw=>by go_simp⟩) L ?_;simp only[Act.put,QD,QK,QI,QJ,QC,QH,QG];refine TO (i:=1) ?_;refine AB (by decide) (λK1 HK1=>?_);simp only[List.drop_succ_cons,List.drop_zero,List.take_succ_cons,List.take_zero];go_wp2_with fail;refine ((aj).out.below (Below.drew (Below.refl _ _))).entries.mono ?_;rintro e w6 ⟨wv,rfl,hwo,hb6⟩;obtain⟨wa,wc,aU⟩:=hwo.form;subst aU;have H:Hid (Below (w5).heap.size w5 w6):=QA ((Below.drew (Below.refl _ w5)).trans hb6);have am:=QA ((aj).out.below H.out);have aF:Hid (BW w6 (SF r own) (.slice wa (Sto.ents S).length wc) (Sto.ents S)):=QA (hwo.rosF (λb hb=>(aj).out.fresh b hb));clear hwo hb6;go_wp2;refine HK1.out _ _ ⟨λ_=>L,?_⟩;clear HK1;obtain⟨aL,Z⟩:∃z,(f).steps=z:=⟨_,rfl⟩
   have ab:=QA Z;clear Z;refine TO (i:=5) ?_;refine AB (by decide) (λK5 HK5=>?_);simp only[List.drop_succ_cons,List.drop_zero,List.take_succ_cons,List.take_zero];go_wp2_with fail;refine (BQ w3.heap.size (w3.heap.size+2) f V own w6 am.out.fs).mono ?_;rw[ab.out];rintro e w7 ⟨rfl,hb7⟩;have R:=QA (am.out.below hb7);have aC:=QA (aF.out.mv (MV.below hb7));have I:Hid (Below w3.heap.size w3 w7):=QA (aq.out.trans ((H.out.trans (hb7.mono H.out.size)).mono aq.out.size));clear hb7 am aF H;go_wp2;refine HK5.out _ _ ⟨λ_=>L,?_⟩;clear HK5;refine TK (i:=6) (v:=.slice wa (Sto.ents S).length wc) rfl (Or.inl ⟨by rfl,λw hSw=>by go_simp⟩) L ?_;simp only[Act.put,QD,QK,QI,QJ,QC,QH,QG];refine TK (i:=7) (v:=.int .i64 aL) rfl (Or.inl ⟨by rfl,λw hSw=>by go_simp⟩) L ?_;simp only[Act.put,QD,QK,QI,QJ,QC,QH,QG];refine AN (by kernel_rfl) ?_ _;have P:Hid (Au w7 (Low w) (.slice ua bs.length uc) bs):=QA (HU.out.mv (MV.below (o.out.trans (I.out.mono o.out.size))));have W:Hid ((Sto.ents S).length≤100000):=QA (by have h1:=Sto.live_len (Sto.ents S);have h2:=ad.out;omega);have ah:=QA (LI P.out aE.out A.out.2);have U:=QA (Sto.opsOf_len bs);by_cases hc:Sto.chk (Sto.opsOf bs)=0
   ·have HC:=QA hc;clear hc;go_wp2_with fail;refine (R.out.write hr (ax.out.below I.out) _ bs P.out (λb _ hb=>R.out.low hr o.out.size b hb) (QQ A.out.1 (by decide)) (λp hp=>QQ (A.out.2 p hp) (by decide)) (by decide) (QQ au.out (by decide)) (room_le (m:=1) au.out (by decide))).mono ?_;rw[Sto.wcode_little ad.out HC.out];rintro e w8 ⟨rfl,f8,V8,own8,ver8,mb8,sv8,l8,h8,hf8,hb8⟩;have O:=QA h8;have aK:Hid (Sto.ents (Sto.wrote S (Sto.opsOf bs))=Sto.chgs (Sto.ents S) (Sto.opsOf bs)):=QA (Sto.wrote_little R.out.disk.x.ne ad.out HC.out);have ag:Hid (BW w8 (SF r own8) (.slice wa (Sto.ents S).length wc) (Sto.ents S)):=QA (aC.out.mv hf8.mv);have Q:Hid (Below w3.heap.size w3 w8):=QA (I.out.trans hb8);have T:Hid (Au w8 (Low w) (.slice ua bs.length uc) bs):=QA (P.out.mv (MV.mk_low hb8 o.out.size));clear h8 hf8 hb8;go_wp2_with fail;refine (Er _ bs w8 (Low w) T.out (QQ A.out.1 (by decide)) ah.out).mono ?_;rintro e w9 ⟨rv,rfl,hro,hb9⟩;obtain⟨ra,rc,an⟩:=hro.form;subst an;have ae:=QA (hro.rosF (F:=λ_=>True) (λ_ _=>trivial));have D:=QA hb9;clear hro hb9;go_wp2_with fail;refine (ES _ (Sto.opsOf bs) w9 _ ae.out (by rw[U.out];exact QQ A.out.1 (by decide))).mono ?_;rw[HC.out];rintro e w10 ⟨rfl,rfl⟩;go_wp2_with fail;refine (O.out.below D.out).entries.mono ?_;rintro e w11 ⟨ev,rfl,heo,hb11⟩;rw[aK.out]at heo;obtain⟨ea,ec,ai⟩:=heo.form;subst ai;have N:=QA (heo.rosF (F:=λ_=>True) (λ_ _=>trivial));have C:Hid (Below w8.heap.size w8 w11):=QA (D.out.trans (hb11.mono D.out.size));clear heo hb11;go_wp2_with fail;refine (Er _ bs w11 (Low w) (T.out.mv (MV.below C.out)) (QQ A.out.1 (by decide)) ah.out).mono ?_;rintro e w12 ⟨qv,rfl,hqo,hb12⟩;obtain⟨qa,qc,aO⟩:=hqo.form;subst aO;have aJ:=QA (hqo.rosF (F:=λ_=>True) (λ_ _=>trivial));have aG:=QA (N.out.mv (F':=λ_=>True) (MV.below hb12));have B:Hid (Below w8.heap.size w8 w12):=QA (C.out.trans (hb12.mono C.out.size));clear hqo hb12;go_wp2_with fail;refine (GB _ _ (Sto.ents S) (Sto.opsOf bs) w12 ((ag.out.mv (F':=SF r own8) (MV.below B.out)).mv ⟨QM _,λb _ _=>⟨trivial,rfl⟩⟩) aJ.out W.out (by rw[U.out];exact QQ A.out.1 (by decide))).mono ?_;rintro e w13 ⟨cv,rfl,hcr,hb13⟩;obtain⟨ca,cc,aW⟩:=hcr.form;subst aW;have aw:=QA hcr;have az:=QA (aG.out.mv (F':=λ_=>True) (MV.below hb13));have E:Hid (Below w8.heap.size w8 w13):=QA (B.out.trans (hb13.mono B.out.size));have aB:Hid ((Sto.chgs (Sto.ents S) (Sto.opsOf bs)).length≤1000000000):=QA (by have h1:=Sto.chgs_len (Sto.opsOf bs) (Sto.ents S);have h2:=W.out;have h3:=U.out;have h4:=A.out.1;omega);clear hcr hb13;go_wp2_with fail;refine (Ch _ _ _ _ w13 _ _ az.out aw.out aB.out aB.out).mono ?_;rw[decide_eq_true (rfl:Sto.chgs (Sto.ents S) (Sto.opsOf bs)=Sto.chgs (Sto.ents S) (Sto.opsOf bs))];rintro e w14 ⟨rfl,hb14⟩;have aH:Hid (Below w3.heap.size w3 w14):=QA (Q.out.trans ((E.out.trans (hb14.mono E.out.size)).mono Q.out.size));clear hb14;go_wp2_with fail;refine bodyPost_ret (v:=.bool true) (by simp[results,Tryz.results5,go_sem]) rfl ?_;exact⟨rfl,o.out.trans (aH.out.mono o.out.size)⟩
   ·have HC:=QA hc;clear hc;go_wp2_with fail;refine (Hz r (w3.heap.size+2) mb ver sv _ bs w7 (Low w) R.out.at_.root P.out (QQ A.out.1 (by decide)) (λp hp=>QQ (A.out.2 p hp) (by decide)) HC.out).mono ?_;obtain⟨c,X⟩:∃c,Sto.chk (Sto.opsOf bs)=c:=⟨_,rfl⟩
    have aR:=QA X;rw[X];have a9:(c==0)=false:=by rw[← X];exact beq_eq_false_iff_ne.2 HC.out
    clear X;rintro e w8 ⟨rfl,hb8⟩;have O:=QA (R.out.below hb8);have ag:=QA (aC.out.mv (F':=SF r own) (MV.below hb8));have Q:Hid (Below w3.heap.size w3 w8):=QA (I.out.trans (hb8.mono I.out.size));have T:Hid (Au w8 (Low w) (.slice ua bs.length uc) bs):=QA (P.out.mv (MV.below hb8));clear hb8;go_wp2_with fail;refine (Er _ bs w8 (Low w) T.out (QQ A.out.1 (by decide)) ah.out).mono ?_;rintro e w9 ⟨rv,rfl,hro,hb9⟩;obtain⟨ra,rc,an⟩:=hro.form;subst an;have ae:=QA (hro.rosF (F:=λ_=>True) (λ_ _=>trivial));have D:=QA hb9;clear hro hb9;go_wp2_with fail;refine (ES _ (Sto.opsOf bs) w9 _ ae.out (by rw[U.out];exact QQ A.out.1 (by decide))).mono ?_;rw[aR.out];rintro e w10 ⟨rfl,rfl⟩;go_wp2_with fail;refine (O.out.below D.out).entries.mono ?_;rintro e w11 ⟨ev,rfl,heo,hb11⟩;obtain⟨ea,ec,ai⟩:=heo.form;subst ai;have N:=QA (heo.rosF (F:=λ_=>True) (λ_ _=>trivial));have C:Hid (Below w8.heap.size w8 w11):=QA (D.out.trans (hb11.mono D.out.size));clear heo hb11;go_wp2_with fail;refine (Ch _ _ _ _ w11 _ _ N.out (ag.out.mv (F':=SF r own) (MV.below C.out)) (QQ W.out (by decide)) (QQ W.out (by decide))).mono ?_;rw[decide_eq_true (rfl:Sto.ents S=Sto.ents S)];rintro e w12 ⟨rfl,hb12⟩;have B:Hid (Below w8.heap.size w8 w12):=QA (C.out.trans (hb12.mono C.out.size));clear hb12;go_wp2_with fail;refine (BQ w3.heap.size (w3.heap.size+2) f V own w12 (O.out.below B.out).fs).mono ?_;rw[ab.out];rintro e w13 ⟨rfl,hb13⟩;have E:Hid (Below w8.heap.size w8 w13):=QA (B.out.trans (hb13.mono B.out.size));clear hb13;go_wp2_with fail;refine (Bn w13 r _ mb ver sv false (O.out.below E.out).at_.root).mono ?_;rintro e w14 ⟨rfl,rfl⟩;go_wp2_with fail;refine bodyPost_ret (v:=.bool true) (by simp[results,Tryz.results5,go_sem]) rfl ?_;exact⟨rfl,o.out.trans ((Q.out.trans (E.out.mono Q.out.size)).mono o.out.size)⟩
end Go.Proofs.YtjldahcckmmenaaGreatDoor
namespace Go.Proofs.YtjldahcckmmenaaGreatDoor.storeFull
set_option maxRecDepth 100000
set_option linter.unusedSimpArgs false
set_option linter.unusedVariables false
open Go Go.RowKit
open Go.ChangeShapes Go.WideShapes Go.ChangeAt
theorem contract (H:Type) (enc:TypeId×Value→H) (F:Stop.Interp) (W:World) (base:Nat) (args:Array Value) (ds gs:List (DataW H)) (before:List MemPlace)
  (hval:∀(j:Nat) t v,Tryz.f4.params[j]?=some t→args[j]?=some v→Value.okWide Tryz.prog W .any base t v)
  (hW:DataW.Whole enc Tryz.prog Tryz.f4.params.toList Rows.storeFullSpec.vars false W args.toList ds gs before) (hL:laidMet Tryz.prog CC W) (hS:W.ShapedOpen Tryz.prog) :
  Calls Tryz.prog 4 args W λe W'=>∃v,e=.returned v∧((OpenSpec.ofChange Rows.storeFullSpec).at F).post enc Tryz.prog Tryz.f4 false true false false W args v W':=by
 have A:=hW;obtain⟨p,q,o,D,rfl,M,E⟩:=hW;have C:DataW.TrodAll enc Tryz.prog W 0 (λ_=>true) true Tryz.f4.params.toList args.toList ds p:=o;rw[Tryz.params4]at C hval;obtain⟨J,G,R,S,P,Q,rfl,rfl,rfl,L,O⟩:=trodAll_two C;obtain⟨rfl,rfl⟩:=trodVars_none D;obtain⟨n,rfl,rfl,rfl,I⟩:=open_int Tryz.underlying3 (hval 0 3 J rfl rfl) L;obtain⟨b,rfl,rfl,rfl,K⟩:=open_int Tryz.underlying3 (hval 1 3 G rfl rfl) O;clear o D;have N:=H9 hL hS;refine (FA W.heap.size n b W N (QM _)).mono ?_;rintro e W' ⟨rfl,bel⟩;have B:((OpenSpec.ofChange Rows.storeFullSpec).at F).fn H ([.lit (.int .i64 n),.lit (.int .i64 b)]++[])={ results:=[.lit (.bool true)],args:=[.lit (.int .i64 n),.lit (.int .i64 b)] }:=rfl;refine⟨_,rfl,_,_,_,[],[],[],A,?_,?_,?_,bel.frame _,λh=>by cases h⟩
 ·rw[B];exact trodAll_mk1 (shut_bool Tryz.underlying4 _)
 ·rw[B];exact trodAll_mk2 (shut_int Tryz.underlying3 I) (shut_int Tryz.underlying3 K)
 ·rw[B];rfl
theorem reads (os:Os) {H:Type} (enc:TypeId×Value→H):∃places,DataW.whole enc Tryz.prog ((BO os).forCall (λ_ _=>0) ⟨#[],#[.int .i64 0,.int .i64 0],[]⟩).memory Tryz.f4.params.toList Rows.storeFullSpec.vars false (#[.int .i64 0,.int .i64 0]:Array Value).toList 8=some ([.lit (.int .i64 0),.lit (.int .i64 0)],[],places) :=
 ⟨[],by kernel_rfl⟩
theorem lifted (os:Os) (started:os.Started) (H:Type) (enc:TypeId×Value→H) (F:Stop.Interp) :
  ReturnsInHanded {} Tryz.checked os 4 .any ((OpenSpec.ofChange Rows.storeFullSpec).preRow enc Tryz.prog Tryz.f4 Rows.storeFullRow.domain false Rows.storeFullRow.laid) (((OpenSpec.ofChange Rows.storeFullSpec).at F).post enc Tryz.prog Tryz.f4 false true false false):=by
 obtain⟨o,A⟩:=reads os enc;refine returnsInHanded_of_row (C:=Tryz.checked) (s:=OpenSpec.ofChange Rows.storeFullSpec) own started (by kernel_rfl) Tryz.func4
  (witness_row_at (enc:=enc) (C:=Tryz.checked) false (BO os) #[.int .i64 0,.int .i64 0] rfl (by kernel_rfl) (by kernel_rfl) (by kernel_rfl)
   (OpenSpec.preRow_of_cond 8 A (by kernel_rfl) (λk hk=>by cases hk) (by kernel_rfl) (Eg os _))) ?_
 intro W base args ds gs before hval hW _ _ _ hL hS _;exact contract H enc F W base args ds gs before hval hW hL hS
theorem said:Rows.StoreFullSaid :=
 OpenClaim.holds_of_cond 4 Tryz.f4 rfl rfl rfl rfl rfl rfl rfl ⟨rfl,rfl,rfl,rfl,rfl⟩ rfl rfl rfl rfl rfl (by kernel_rfl) Tryz.func4 (by kernel_rfl)
  (of_decide_eq_true (by kernel_rfl)) (by unfold Func.isWrapper;first|(rw[if_pos (by decide +kernel)];kernel_rfl)|(rw[if_neg (by decide +kernel)];exact⟨rfl,rfl⟩))
  (λos started H enc _ F=>by rw[OpenClaim.pre_eq_preRow];exact lifted os started H enc F)
theorem plain (f : FuncId) (fn : Func) (hf : Tryz.pinned.checked.prog.funcNamed "rubric/rubriclaw06.StoreFull" = some f) (hfn : Tryz.pinned.checked.prog.funcs[f]? = some fn) :
  true=Tryz.pinned.checked.prog.looks []∧∀(j:Nat) t,fn.params[j]?=some t→Tryz.pinned.checked.prog.wantsStandIn t=false:=by
 obtain rfl : f = 4 := Option.some.inj ((show Tryz.prog.funcNamed "rubric/rubriclaw06.StoreFull" = some 4 by kernel_rfl).symm.trans hf) |>.symm;obtain rfl:fn=Tryz.f4:=(Option.some.inj (Tryz.func4.symm.trans hfn)).symm;refine ⟨by kernel_rfl,fun j t ht=>?_⟩;have o:(Tryz.f4.params.toList.all fun t=>!Tryz.prog.wantsStandIn t)=true:=by kernel_rfl
 have:=ZK.1 o t (Array.mem_toList_iff.2 (Array.mem_of_getElem? ht));exact Bool.not_eq_true' _ |>.mp this
theorem card:Rows.StoreFullCardSaid :=
 Claim7.holds_tied_plain_at .later [] _ _ _ _ said (λ_ h=>by cases h) (by kernel_rfl) (λ_ h=>by cases h) storeFull_row_tie rfl ⟨rfl,rfl⟩ (by kernel_rfl) rfl plain (by kernel_rfl)
end Go.Proofs.YtjldahcckmmenaaGreatDoor.storeFull
namespace Go.Proofs.YtjldahcckmmenaaGreatDoor.storeAgain
set_option maxRecDepth 100000
set_option linter.unusedSimpArgs false
set_option linter.unusedVariables false
open Go Go.RowKit
open Go.ChangeShapes Go.WideShapes Go.ChangeAt
theorem contract (H:Type) (enc:TypeId×Value→H) (F:Stop.Interp) (W:World) (base:Nat) (args:Array Value) (ds gs:List (DataW H)) (before:List MemPlace)
  (hval:∀(j:Nat) t v,Tryz.f6.params[j]?=some t→args[j]?=some v→Value.okWide Tryz.prog W .any base t v)
  (hW:DataW.Whole enc Tryz.prog Tryz.f6.params.toList Rows.storeAgainSpec.vars false W args.toList ds gs before) (hL:laidMet Tryz.prog CC W) (hS:W.ShapedOpen Tryz.prog) :
  Calls Tryz.prog 6 args W λe W'=>∃v,e=.returned v∧((OpenSpec.ofChange Rows.storeAgainSpec).at F).post enc Tryz.prog Tryz.f6 false true false false W args v W':=by
 have B:=hW;obtain⟨p,q,A,M,rfl,S,O⟩:=hW;have D:DataW.TrodAll enc Tryz.prog W 0 (λ_=>true) true Tryz.f6.params.toList args.toList ds p:=A;rw[Tryz.params6]at D hval;obtain⟨J,P,K,Z,I,Q,rfl,rfl,rfl,L,X⟩:=trodAll_two D;obtain⟨rfl,rfl⟩:=trodVars_none M;have E:∀x∈I++Q,x.block<W.heap.size:=λx hx=>B.lt x (by simpa using hx)
 have N:=λ(W':World) (hn:Below W.heap.size W W')=>Below.trod (t:=66) laidOut (by kernel_rfl) (of_decide_eq_true (by kernel_rfl)) L hn (λx hx=>E x (by simp[hx]))
 obtain⟨Y,C,V,o⟩:=KP L (hval 0 66 J rfl rfl);obtain⟨b,rfl,rfl,rfl,R⟩:=open_int Tryz.underlying3 (hval 1 3 P rfl rfl) X;clear A M D;have U:=H9 hL hS;have T:maxLen=9223372036854775807:=by decide
 refine (Ee W.heap.size J Y b W U (QM _) C (by omega) (λl hl=>⟨by have:=(o l hl).1;omega,λp hp=>by have:=((o l hl).2 p hp).1;omega⟩)).mono ?_;rintro e W' ⟨rfl,bel⟩;have G:((OpenSpec.ofChange Rows.storeAgainSpec).at F).fn H ([K,.lit (.int .i64 b)]++[])={ results:=[.lit (.bool true)],args:=[K,.lit (.int .i64 b)] }:=rfl;refine⟨_,rfl,_,_,_,[],I++[],[],B,?_,?_,?_,bel.frame _,λh=>by cases h⟩
 ·rw[G];exact trodAll_mk1 (shut_bool Tryz.underlying4 _)
 ·rw[G];exact trodAll_mk2 (N W' bel) (shut_int Tryz.underlying3 R)
 ·rw[G];rfl
theorem reads (os:Os) {H:Type} (enc:TypeId×Value→H):∃places,DataW.whole enc Tryz.prog ((BO os).forCall (λ_ _=>0) ⟨#[],#[.slice none 0 0,.int .i64 0],[]⟩).memory Tryz.f6.params.toList Rows.storeAgainSpec.vars false (#[.slice none 0 0,.int .i64 0]:Array Value).toList 8=some ([.nil,.lit (.int .i64 0)],[],places) :=
 ⟨[],by kernel_rfl⟩
theorem lifted (os:Os) (started:os.Started) (H:Type) (enc:TypeId×Value→H) (F:Stop.Interp) :
  ReturnsInHanded {} Tryz.checked os 6 .any ((OpenSpec.ofChange Rows.storeAgainSpec).preRow enc Tryz.prog Tryz.f6 Rows.storeAgainRow.domain false Rows.storeAgainRow.laid) (((OpenSpec.ofChange Rows.storeAgainSpec).at F).post enc Tryz.prog Tryz.f6 false true false false):=by
 obtain⟨o,A⟩:=reads os enc;refine returnsInHanded_of_row (C:=Tryz.checked) (s:=OpenSpec.ofChange Rows.storeAgainSpec) own started (by kernel_rfl) Tryz.func6
  (witness_row_at (enc:=enc) (C:=Tryz.checked) false (BO os) #[.slice none 0 0,.int .i64 0] rfl (by kernel_rfl) (by kernel_rfl) (by kernel_rfl)
   (OpenSpec.preRow_of_cond 8 A (by kernel_rfl) (λk hk=>by cases hk) (by kernel_rfl) (Eg os _))) ?_
 intro W base args ds gs before hval hW _ _ _ hL hS _;exact contract H enc F W base args ds gs before hval hW hL hS
theorem said:Rows.StoreAgainSaid :=
 OpenClaim.holds_of_cond 6 Tryz.f6 rfl rfl rfl rfl rfl rfl rfl ⟨rfl,rfl,rfl,rfl,rfl⟩ rfl rfl rfl rfl rfl (by kernel_rfl) Tryz.func6 (by kernel_rfl)
  (of_decide_eq_true (by kernel_rfl)) (by unfold Func.isWrapper;first|(rw[if_pos (by decide +kernel)];kernel_rfl)|(rw[if_neg (by decide +kernel)];exact⟨rfl,rfl⟩))
  (λos started H enc _ F=>by rw[OpenClaim.pre_eq_preRow];exact lifted os started H enc F)
theorem plain (f : FuncId) (fn : Func) (hf : Tryz.pinned.checked.prog.funcNamed "rubric/rubriclaw06.StoreAgain" = some f) (hfn : Tryz.pinned.checked.prog.funcs[f]? = some fn) :
  true=Tryz.pinned.checked.prog.looks []∧∀(j:Nat) t,fn.params[j]?=some t→Tryz.pinned.checked.prog.wantsStandIn t=false:=by
 obtain rfl : f = 6 := Option.some.inj ((show Tryz.prog.funcNamed "rubric/rubriclaw06.StoreAgain" = some 6 by kernel_rfl).symm.trans hf) |>.symm;obtain rfl:fn=Tryz.f6:=(Option.some.inj (Tryz.func6.symm.trans hfn)).symm;refine ⟨by kernel_rfl,fun j t ht=>?_⟩;have o:(Tryz.f6.params.toList.all fun t=>!Tryz.prog.wantsStandIn t)=true:=by kernel_rfl
 have:=ZK.1 o t (Array.mem_toList_iff.2 (Array.mem_of_getElem? ht));exact Bool.not_eq_true' _ |>.mp this
theorem card:Rows.StoreAgainCardSaid :=
 Claim7.holds_tied_plain_at .later [] _ _ _ _ said (λ_ h=>by cases h) (by kernel_rfl) (λ_ h=>by cases h) storeAgain_row_tie rfl ⟨rfl,rfl⟩ (by kernel_rfl) rfl plain (by kernel_rfl)
end Go.Proofs.YtjldahcckmmenaaGreatDoor.storeAgain
namespace Go.Proofs.YtjldahcckmmenaaGreatDoor.storeRefuses
set_option maxRecDepth 100000
set_option linter.unusedSimpArgs false
set_option linter.unusedVariables false
open Go Go.RowKit
open Go.ChangeShapes Go.WideShapes Go.ChangeAt
theorem contract (H:Type) (enc:TypeId×Value→H) (F:Stop.Interp) (W:World) (base:Nat) (args:Array Value) (ds gs:List (DataW H)) (before:List MemPlace)
  (hval:∀(j:Nat) t v,Tryz.f5.params[j]?=some t→args[j]?=some v→Value.okWide Tryz.prog W .any base t v)
  (hW:DataW.Whole enc Tryz.prog Tryz.f5.params.toList Rows.storeRefusesSpec.vars false W args.toList ds gs before) (hL:laidMet Tryz.prog CC W) (hS:W.ShapedOpen Tryz.prog) :
  Calls Tryz.prog 5 args W λe W'=>∃v,e=.returned v∧((OpenSpec.ofChange Rows.storeRefusesSpec).at F).post enc Tryz.prog Tryz.f5 false true false false W args v W':=by
 have B:=hW;obtain⟨p,q,A,Q,rfl,Y,V⟩:=hW;have D:DataW.TrodAll enc Tryz.prog W 0 (λ_=>true) true Tryz.f5.params.toList args.toList ds p:=A;rw[Tryz.params5]at D hval;obtain⟨N,K,O,S,L,M,rfl,rfl,rfl,P,R⟩:=trodAll_two D;obtain⟨rfl,rfl⟩:=trodVars_none Q;have o:∀x∈L++M,x.block<W.heap.size:=λx hx=>B.lt x (by simpa using hx)
 have T:=λ(W':World) (hn:Below W.heap.size W W')=>Below.trod (t:=22) laidOut (by kernel_rfl) (of_decide_eq_true (by kernel_rfl)) P hn (λx hx=>o x (by simp[hx]))
 have U:=λ(W':World) (hn:Below W.heap.size W W')=>Below.trod (t:=22) laidOut (by kernel_rfl) (of_decide_eq_true (by kernel_rfl)) R hn (λx hx=>o x (by simp[hx]))
 obtain⟨X,C,ac,E⟩:=J7 P (hval 0 22 N rfl rfl);obtain⟨bl,I,ab,G⟩:=J7 R (hval 1 22 K rfl rfl);clear A Q D;have hE:=H9 hL hS;have Z:maxLen=9223372036854775807:=by decide
 refine (Dl W.heap.size N K X bl W hE (QM _) C I (by omega) (by omega) E G).mono ?_;rintro e W' ⟨rfl,bel⟩;have J:((OpenSpec.ofChange Rows.storeRefusesSpec).at F).fn H ([O,S]++[])={ results:=[.lit (.bool true)],args:=[O,S] }:=rfl;refine⟨_,rfl,_,_,_,[],L++M,[],B,?_,?_,?_,bel.frame _,λh=>by cases h⟩
 ·rw[J];exact trodAll_mk1 (shut_bool Tryz.underlying4 _)
 ·rw[J];exact trodAll_mk2 (T W' bel) (U W' bel)
 ·rw[J];rfl
theorem reads (os:Os) {H:Type} (enc:TypeId×Value→H):∃places,DataW.whole enc Tryz.prog ((BO os).forCall (λ_ _=>0) ⟨#[],#[.slice none 0 0,.slice none 0 0],[]⟩).memory Tryz.f5.params.toList Rows.storeRefusesSpec.vars false (#[.slice none 0 0,.slice none 0 0]:Array Value).toList 8=some ([.nil,.nil],[],places) :=
 ⟨[],by kernel_rfl⟩
theorem lifted (os:Os) (started:os.Started) (H:Type) (enc:TypeId×Value→H) (F:Stop.Interp) :
  ReturnsInHanded {} Tryz.checked os 5 .any ((OpenSpec.ofChange Rows.storeRefusesSpec).preRow enc Tryz.prog Tryz.f5 Rows.storeRefusesRow.domain false Rows.storeRefusesRow.laid) (((OpenSpec.ofChange Rows.storeRefusesSpec).at F).post enc Tryz.prog Tryz.f5 false true false false):=by
 obtain⟨o,A⟩:=reads os enc;refine returnsInHanded_of_row (C:=Tryz.checked) (s:=OpenSpec.ofChange Rows.storeRefusesSpec) own started (by kernel_rfl) Tryz.func5
  (witness_row_at (enc:=enc) (C:=Tryz.checked) false (BO os) #[.slice none 0 0,.slice none 0 0] rfl (by kernel_rfl) (by kernel_rfl) (by kernel_rfl)
   (OpenSpec.preRow_of_cond 8 A (by kernel_rfl) (λk hk=>by cases hk) (by kernel_rfl) (Eg os _))) ?_
 intro W base args ds gs before hval hW _ _ _ hL hS _;exact contract H enc F W base args ds gs before hval hW hL hS
theorem said:Rows.StoreRefusesSaid :=
 OpenClaim.holds_of_cond 5 Tryz.f5 rfl rfl rfl rfl rfl rfl rfl ⟨rfl,rfl,rfl,rfl,rfl⟩ rfl rfl rfl rfl rfl (by kernel_rfl) Tryz.func5 (by kernel_rfl)
  (of_decide_eq_true (by kernel_rfl)) (by unfold Func.isWrapper;first|(rw[if_pos (by decide +kernel)];kernel_rfl)|(rw[if_neg (by decide +kernel)];exact⟨rfl,rfl⟩))
  (λos started H enc _ F=>by rw[OpenClaim.pre_eq_preRow];exact lifted os started H enc F)
theorem plain (f : FuncId) (fn : Func) (hf : Tryz.pinned.checked.prog.funcNamed "rubric/rubriclaw06.StoreRefuses" = some f) (hfn : Tryz.pinned.checked.prog.funcs[f]? = some fn) :
  true=Tryz.pinned.checked.prog.looks []∧∀(j:Nat) t,fn.params[j]?=some t→Tryz.pinned.checked.prog.wantsStandIn t=false:=by
 obtain rfl : f = 5 := Option.some.inj ((show Tryz.prog.funcNamed "rubric/rubriclaw06.StoreRefuses" = some 5 by kernel_rfl).symm.trans hf) |>.symm;obtain rfl:fn=Tryz.f5:=(Option.some.inj (Tryz.func5.symm.trans hfn)).symm;refine ⟨by kernel_rfl,fun j t ht=>?_⟩;have o:(Tryz.f5.params.toList.all fun t=>!Tryz.prog.wantsStandIn t)=true:=by kernel_rfl
 have:=ZK.1 o t (Array.mem_toList_iff.2 (Array.mem_of_getElem? ht));exact Bool.not_eq_true' _ |>.mp this
theorem card:Rows.StoreRefusesCardSaid :=
 Claim7.holds_tied_plain_at .later [] _ _ _ _ said (λ_ h=>by cases h) (by kernel_rfl) (λ_ h=>by cases h) storeRefuses_row_tie rfl ⟨rfl,rfl⟩ (by kernel_rfl) rfl plain (by kernel_rfl)
end Go.Proofs.YtjldahcckmmenaaGreatDoor.storeRefuses
