/-
  The document's manifests: Save, walked. Manifests: Decode, walked.
-/
import Derived.Test.YtmlekglfdiacpaaGreatDoorZp18
import Derived.Test.YtmlekglfdiacpaaGreatDoorZp17
import Derived.Test.YtmlekglfdiacpaaGreatDoorZp2
import Derived.Lib.SplitLaws
open Array renaming getInternal_eq_getElem → QD
open Go.Lib renaming hid → QA
open List renaming setIfInBounds_toArray → QC, drop_succ_cons → QE, take_succ_cons → QF, set_cons_succ → QG, set_cons_zero → QH, getElem_cons_zero → QI, getElem_cons_succ → QJ, getElem_toArray → QK, drop_zero → QL, take_zero → QN
open Nat renaming le_refl → QM, le_trans → QQ, lt_of_lt_of_le → ZT
namespace Go.Proofs.YtmlekglfdiacpaaGreatDoor
set_option maxRecDepth 100000
set_option maxHeartbeats 4000000
set_option linter.unusedSimpArgs false
set_option linter.unusedVariables false
open Go Go.RowKit
open Go.Maps Go.WideMaps
theorem Fs.first_err {f:Fs.St→Fs.St×Int} {r:List (Fs.St→Fs.St×Int)} {st st':Fs.St} {c:Int} (h:f st=(st',c)) (hc:c≠0):Fs.first (f::r) st=(st',c):=by
 rw[Fs.first,h,if_pos hc]
set_option maxHeartbeats 8000000 in
theorem G5 (st:Fs.St) (V:RV) (ver:Int) (sv:Value) (l:List Int) (w:World) (h:RF w st V) (k:Nat) (hF:Fs.Fit st k) (hk:k≤100000) (hN:Be w sv l) (hl:l.length≤1000000000) :
  Calls Tryz.prog 10 #[.agg (AG st V),.agg #[.int .i64 ver,sv]] w (ROp st V (Mf.save st ver l) w):=by
 obtain⟨sa,sc,rfl⟩:=hN.form;have h0:=RAu.start h ver (.slice sa l.length sc);obtain⟨W0,al⟩:∃q,q=((w.alloc (.cells (AG st V) 33)).alloc (.cells #[.int .i64 ver,.slice sa l.length sc] 48)).alloc (.cells fs0 33):=⟨_,rfl⟩
 rw[← al]at h0;have aV:(AG st V).size=8:=rfl;have m0:W0.cell? ⟨w.heap.size+1,0,none⟩=some (.int .i64 ver):=AA h0.m 0 _ rfl;have m1:W0.cell? ⟨w.heap.size+1,1,none⟩=some (.slice sa l.length sc):=AA h0.m 1 _ rfl;have aL:=QA (C8 ver (.slice sa l.length sc) l W0 (hN.below h0.e) (by omega));have H0:=QA h0;have HF:=QA hF;have HN:=QA hN;have aD:=QA al.symm;rw[al]at m0 m1;clear h0 h hF hN al;go_enter Tryz.func10,Tryz.ntmps10;go_wp2_with fail;rw[aD.out];refine aL.out.mono ?_;rintro e w1 ⟨rfl,hb1⟩;have H1:=QA (H0.out.below hb1);clear hb1 aL m0 m1 aD;obtain⟨g,hg⟩:∃g,g=Mf.good ver l:=⟨_,rfl⟩
 rw[← hg];have aA:=QA hg.symm;clear hg;cases g
 ·have S:Hid (Mf.save st ver l=(st,1)):=QA (by unfold Mf.save;rw[if_pos aA.out]);go_wp2_with (first|(refine AD rfl _ rfl _ _ _ rfl H1.out.a ?_)|(refine AB rfl _ _ rfl _ st V H1.out.one fs0 rfl rfl rfl H1.out.b ?_)|fail);rw[S.out];exact H1.out.fin Tryz.results10 1 rfl rfl rfl
 have HG:=aA;have ap:Hid (Mf.save st ver l=Fs.first (Mf.steps (Mf.enc ver l)) st):=QA (by unfold Mf.save;rw[if_neg (by rw[HG.out];simp)]);have aF:=QA (IH st V ⟨#[109,97,110,105,102,101,115,116,46,116,109,112]⟩ w1 H1.out.rf (by have:=HF.out.cap.dir;omega));go_wp2_with (first|(refine AD rfl _ rfl _ _ _ rfl H1.out.a ?_)|fail);refine aF.out.mono ?_;rintro e w2 ⟨rfl,hb2⟩;have HA:=QA (H1.out.below hb2);clear hb2 aF;obtain⟨b,hb⟩:∃b,b=Fs.mhas st.dir Mf.draft:=⟨_,rfl⟩
 rw[show Fs.mhas st.dir (ByteArray.mk #[109,97,110,105,102,101,115,116,46,116,109,112]).data.toList=b from hb.symm];have HB:=QA hb.symm;clear hb;cases b
 ·have ae:Hid (Mf.save st ver l=Fs.first ((Mf.steps (Mf.enc ver l)).drop 1) st):=QA (ap.out.trans (Fs.first_ok (f:=Mf.clear) (r:=(Mf.steps (Mf.enc ver l)).drop 1) (by unfold Mf.clear;rw[HB.out];rfl)));have FA:Hid (Fs.Fit st (k+2)):=QA (HF.out.mono (by omega));have N:=QA ((CB st V ⟨#[109,97,110,105,102,101,115,116,46,116,109,112]⟩ _ HA.out.rf (FA.out.rok (by omega)) (by have:=FA.out.sound.nf;omega) (by decide)).mono λ_ _ h=>(show ROp st V (Fs.create st Mf.draft) _ _ _ from h));go_wp2_with (first |  (refine AD rfl _ rfl _ _ _ rfl HA.out.a ?_)|fail);refine N.out.mono ?_;rintro e w3 ⟨hb3,V2,rfl,hl3⟩;clear N;obtain⟨⟨B,o⟩,I⟩:∃q,q=Fs.create st Mf.draft:=⟨_,rfl⟩
  have A:=FA.out.create Mf.draft;rw[← I]at hl3 A ⊢;simp only at hl3 A ⊢;have M:=HA.out.below hb3;have J:=HA.out.put hb3 hl3;obtain⟨E,C⟩:∃q,q=rput w3 w.heap.size B V2:=⟨_,rfl⟩
  rw[← C]at J;have O:=QA I.symm;have P:=QA M;have L:=QA J;have D:=QA C.symm;have F2:Hid (Fs.Fit B (k+2+2)):=QA A;clear hb3 hl3 I M J C A;by_cases hc:o=0;rotate_left
  ·have S:Hid (Mf.save st ver l=(B,o)):=QA (ae.out.trans (Fs.first_err (f:=(λst=>Fs.create st Mf.draft)) (r:=(Mf.steps (Mf.enc ver l)).drop 2) O.out hc));have Y:(o==0)=false:=by rw[beq_eq_false_iff_ne];exact hc
   have U:decide (o=0)=false:=decide_eq_false hc;clear hc;go_wp2_with (first|(refine AB rfl _ _ rfl _ B V2 L.out.one _ rfl rfl rfl P.out.a ?_;rw[D.out])|(refine AD rfl _ rfl _ _ _ rfl L.out.a ?_)|(refine AB rfl _ _ rfl _ B V2 L.out.one fs0 rfl rfl rfl L.out.b ?_)|fail);rw[S.out];exact L.out.fin Tryz.results10 o rfl rfl rfl
  subst hc;have ah:Hid (Mf.save st ver l=Fs.first ((Mf.steps (Mf.enc ver l)).drop 2) B):=QA (ae.out.trans (Fs.first_ok (f:=(λst=>Fs.create st Mf.draft)) (r:=(Mf.steps (Mf.enc ver l)).drop 2) O.out));go_wp2_with (first|(refine AB rfl _ _ rfl _ B V2 L.out.one _ rfl rfl rfl P.out.a ?_;rw[D.out])|fail);have ag:Hid (∀x:World,Below E.heap.size E x→Calls Tryz.prog 48 #[.agg #[.int .i64 ver,.slice sa l.length sc]] x λe w'=>e=.returned (.string ⟨(Mf.enc ver l).toArray⟩)∧Below x.heap.size x w'):=QA λx hb=>DF ver (.slice sa l.length sc) l x (HN.out.below (L.out.below hb).e) HG.out
  have b0:E.cell? ⟨w.heap.size,0,none⟩=some (.int .i64 B.room):=AA L.out.a 0 _ rfl;have b1:E.cell? ⟨w.heap.size,1,none⟩=some V2.fv:=AA L.out.a 1 _ rfl;have b2:E.cell? ⟨w.heap.size,2,none⟩=some V2.dv:=AA L.out.a 2 _ rfl;have b3:E.cell? ⟨w.heap.size,3,none⟩=some V2.sv:=AA L.out.a 3 _ rfl;have b4:E.cell? ⟨w.heap.size,4,none⟩=some V2.cv:=AA L.out.a 4 _ rfl;have b5:E.cell? ⟨w.heap.size,5,none⟩=some (.int .i64 B.steps):=AA L.out.a 5 _ rfl;have b6:E.cell? ⟨w.heap.size,6,none⟩=some (.int .i64 B.left):=AA L.out.a 6 _ rfl;have b7:E.cell? ⟨w.heap.size,7,none⟩=some V2.pv:=AA L.out.a 7 _ rfl;have n0:E.cell? ⟨w.heap.size+1,0,none⟩=some (.int .i64 ver):=AA L.out.m 0 _ rfl;have n1:E.cell? ⟨w.heap.size+1,1,none⟩=some (.slice sa l.length sc):=AA L.out.m 1 _ rfl;refine AK (λw'=>w'.cell? ⟨w.heap.size,0,none⟩=some (.int .i64 B.room)∧w'.cell? ⟨w.heap.size,1,none⟩=some V2.fv∧w'.cell? ⟨w.heap.size,2,none⟩=some V2.dv∧w'.cell? ⟨w.heap.size,3,none⟩=some V2.sv∧w'.cell? ⟨w.heap.size,4,none⟩=some V2.cv∧w'.cell? ⟨w.heap.size,5,none⟩=some (.int .i64 B.steps)∧w'.cell? ⟨w.heap.size,6,none⟩=some (.int .i64 B.left)∧w'.cell? ⟨w.heap.size,7,none⟩=some V2.pv∧w'.cell? ⟨w.heap.size+1,0,none⟩=some (.int .i64 ver)∧w'.cell? ⟨w.heap.size+1,1,none⟩=some (.slice sa l.length sc)) 3 (by kernel_rfl) ?_;have hS:E.drew.cell? ⟨w.heap.size,0,none⟩=some (.int .i64 B.room)∧E.drew.cell? ⟨w.heap.size,1,none⟩=some V2.fv∧E.drew.cell? ⟨w.heap.size,2,none⟩=some V2.dv∧E.drew.cell? ⟨w.heap.size,3,none⟩=some V2.sv∧E.drew.cell? ⟨w.heap.size,4,none⟩=some V2.cv∧E.drew.cell? ⟨w.heap.size,5,none⟩=some (.int .i64 B.steps)∧E.drew.cell? ⟨w.heap.size,6,none⟩=some (.int .i64 B.left)∧E.drew.cell? ⟨w.heap.size,7,none⟩=some V2.pv∧E.drew.cell? ⟨w.heap.size+1,0,none⟩=some (.int .i64 ver)∧E.drew.cell? ⟨w.heap.size+1,1,none⟩=some (.slice sa l.length sc):=⟨b0,b1,b2,b3,b4,b5,b6,b7,n0,n1⟩
  refine AX (i:=0) (v:=(.agg #[.int .i64 B.room,V2.fv,V2.dv,V2.sv,V2.cv,.int .i64 B.steps,.int .i64 B.left,V2.pv])) [3,4,5,6,7,8] (by kernel_rfl) (by kernel_rfl) (by decide) rfl (by kernel_rfl) (by kernel_rfl) (by kernel_rfl) (λ_ _ _ h=>h) (Or.inl ⟨by rfl,λw hSw=>by go_simp⟩) hS ?_;simp only[Act.put,QD,QK,QI,QJ,QC,QH,QG];refine AX (i:=1) (v:=(.agg #[.int .i64 ver,.slice sa l.length sc])) [2,3,4,5,6,7,8] (by kernel_rfl) (by kernel_rfl) (by decide) rfl (by kernel_rfl) (by kernel_rfl) (by kernel_rfl) (λ_ _ _ h=>h) (Or.inl ⟨by rfl,λw hSw=>by go_simp⟩) hS ?_;simp only[Act.put,QD,QK,QI,QJ,QC,QH,QG];have aj:Below E.heap.size E E.drew:=Below.drew (Below.refl _ _);have ao:=QA (L.out.below aj);refine TO (i:=2) ?_;refine AF (by decide) (λK5 HK5=>?_);simp only[QE,QL,QF,QN];go_wp2_with fail;refine (ag.out _ aj).mono ?_;rintro e w5 ⟨rfl,hb5⟩;have Q:=QA (ao.out.below hb5);clear b0 b1 b2 b3 b4 b5 b6 b7 n0 n1 hS ag;go_wp2_with fail;refine HK5.out _ _ ⟨λ_=>⟨AA Q.out.a 0 _ rfl,AA Q.out.a 1 _ rfl,AA Q.out.a 2 _ rfl,AA Q.out.a 3 _ rfl,AA Q.out.a 4 _ rfl,AA Q.out.a 5 _ rfl,AA Q.out.a 6 _ rfl,AA Q.out.a 7 _ rfl,AA Q.out.m 0 _ rfl,AA Q.out.m 1 _ rfl⟩,?_⟩;clear HK5;refine TO (i:=3) ?_;refine AF (by decide) (λK6 HK6=>?_);simp only[QE,QL,QF,QN];have N:=QA ((CN B V2 ⟨#[109,97,110,105,102,101,115,116,46,116,109,112]⟩ ⟨(Mf.enc ver l).toArray⟩ w5 Q.out.rf (F2.out.rok (by omega)) (F2.out.rfl' (by omega)) F2.out.f65 F2.out.sound.room F2.out.plan.how (by have:=Mf.enc_len HG.out;simp[ByteArray.size];omega)).mono λ_ _ h=>(show ROp B V2 (Fs.append B Mf.draft (Mf.enc ver l)) _ _ _ from h));go_wp2_with fail;refine N.out.mono ?_;rintro e w3 ⟨hb3,V3,rfl,hl3⟩;clear N;have HQ:=Q;clear Q;obtain⟨⟨F,o⟩,I⟩:∃q,q=Fs.append B Mf.draft (Mf.enc ver l):=⟨_,rfl⟩
  have A:=F2.out.append Mf.draft (Mf.enc ver l);rw[← I]at hl3 A ⊢;simp only at hl3 A ⊢;have M:=HQ.out.below hb3;have J:=HQ.out.put hb3 hl3;obtain⟨E,C⟩:∃q,q=rput w3 w.heap.size F V3:=⟨_,rfl⟩
  rw[← C]at J;have O:=QA I.symm;have P:=QA M;have H6:=QA J;have D:=QA C.symm;have F3:Hid (Fs.Fit F (k+2+2)):=QA A;clear hb3 hl3 I M J C A;go_wp2_with fail;refine HK6.out _ _ ⟨λh=>absurd h (by decide),?_⟩;clear HK6;refine TA (i:=4) (v:=(.tuple #[.agg (AG F V3),.int .i64 o])) rfl (Or.inl ⟨by rfl,λw _=>by go_simp⟩) ?_;simp only[Act.put,QD,QK,QI,QJ,QC,QH,QG];refine TA (i:=5) (v:=(.agg (AG F V3))) rfl (Or.inl ⟨by rfl,λw _=>by go_simp⟩) ?_;simp only[Act.put,QD,QK,QI,QJ,QC,QH,QG];refine TA (i:=6) (v:=(.int .i64 o)) rfl (Or.inl ⟨by rfl,λw _=>by go_simp⟩) ?_;simp only[Act.put,QD,QK,QI,QJ,QC,QH,QG];refine TO (i:=7) ?_;refine AF (by decide) (λK7 HK7=>?_);simp only[QE,QL,QF,QN];go_wp2_with (first|(refine AB rfl _ _ rfl _ F V3 H6.out.one _ rfl rfl rfl P.out.a ?_;rw[D.out])|fail);refine HK7.out _ _ ⟨λh=>absurd h (by decide),?_⟩;clear HK7;refine TA (i:=8) (v:=(.int .i64 o)) rfl (Or.inl ⟨by rfl,λw _=>by go_simp⟩) ?_;simp only[Act.put,QD,QK,QI,QJ,QC,QH,QG];refine AM (by kernel_rfl) ?_ _;by_cases hc:o=0;rotate_left
  ·have S:Hid (Mf.save st ver l=(F,o)):=QA (ah.out.trans (Fs.first_err (f:=(λst=>Fs.append st Mf.draft (Mf.enc ver l))) (r:=(Mf.steps (Mf.enc ver l)).drop 3) O.out hc));have Y:(o==0)=false:=by rw[beq_eq_false_iff_ne];exact hc
   have U:decide (o=0)=false:=decide_eq_false hc;clear hc;go_wp2_with (first|(refine AB rfl _ _ rfl _ F V3 H6.out.one _ rfl rfl rfl P.out.a ?_;rw[D.out])|(refine AD rfl _ rfl _ _ _ rfl H6.out.a ?_)|(refine AB rfl _ _ rfl _ F V3 H6.out.one fs0 rfl rfl rfl H6.out.b ?_)|fail);rw[S.out];exact H6.out.fin Tryz.results10 o rfl rfl rfl
  subst hc;have ai:Hid (Mf.save st ver l=Fs.first ((Mf.steps (Mf.enc ver l)).drop 3) F):=QA (ah.out.trans (Fs.first_ok (f:=(λst=>Fs.append st Mf.draft (Mf.enc ver l))) (r:=(Mf.steps (Mf.enc ver l)).drop 3) O.out));have N:=QA ((DU F V3 ⟨#[109,97,110,105,102,101,115,116,46,116,109,112]⟩ _ H6.out.rf (F3.out.rok (by omega)) (F3.out.rfl' (by omega))).mono λ_ _ h=>(show ROp F V3 (Fs.sync F Mf.draft) _ _ _ from h));go_wp2_with (first |  (refine AD rfl _ rfl _ _ _ rfl H6.out.a ?_)|fail);refine N.out.mono ?_;rintro e w3 ⟨hb3,V4,rfl,hl3⟩;clear N;obtain⟨⟨H,o⟩,I⟩:∃q,q=Fs.sync F Mf.draft:=⟨_,rfl⟩
  have A:=F3.out.sync Mf.draft;rw[← I]at hl3 A ⊢;simp only at hl3 A ⊢;have M:=H6.out.below hb3;have J:=H6.out.put hb3 hl3;obtain⟨E,C⟩:∃q,q=rput w3 w.heap.size H V4:=⟨_,rfl⟩
  rw[← C]at J;have O:=QA I.symm;have P:=QA M;have T:=QA J;have D:=QA C.symm;have F4:Hid (Fs.Fit H (k+2+2)):=QA A;clear hb3 hl3 I M J C A;by_cases hc:o=0;rotate_left
  ·have S:Hid (Mf.save st ver l=(H,o)):=QA (ai.out.trans (Fs.first_err (f:=(λst=>Fs.sync st Mf.draft)) (r:=(Mf.steps (Mf.enc ver l)).drop 4) O.out hc));have Y:(o==0)=false:=by rw[beq_eq_false_iff_ne];exact hc
   have U:decide (o=0)=false:=decide_eq_false hc;clear hc;go_wp2_with (first|(refine AB rfl _ _ rfl _ H V4 T.out.one _ rfl rfl rfl P.out.a ?_;rw[D.out])|(refine AD rfl _ rfl _ _ _ rfl T.out.a ?_)|(refine AB rfl _ _ rfl _ H V4 T.out.one fs0 rfl rfl rfl T.out.b ?_)|fail);rw[S.out];exact T.out.fin Tryz.results10 o rfl rfl rfl
  subst hc;have af:Hid (Mf.save st ver l=Fs.first ((Mf.steps (Mf.enc ver l)).drop 4) H):=QA (ai.out.trans (Fs.first_ok (f:=(λst=>Fs.sync st Mf.draft)) (r:=(Mf.steps (Mf.enc ver l)).drop 4) O.out));have N:=QA ((CH H V4 ⟨#[109,97,110,105,102,101,115,116,46,116,109,112]⟩ ⟨#[109,97,110,105,102,101,115,116]⟩ _ T.out.rf (F4.out.rok (by omega)) (by decide) (by decide)).mono λ_ _ h=>(show ROp H V4 (Fs.rename H Mf.draft Mf.final) _ _ _ from h));go_wp2_with (first|(refine AB rfl _ _ rfl _ H V4 T.out.one _ rfl rfl rfl P.out.a ?_;rw[D.out])|(refine AD rfl _ rfl _ _ _ rfl T.out.a ?_)|fail);refine N.out.mono ?_;rintro e w3 ⟨hb3,V5,rfl,hl3⟩;clear N;obtain⟨⟨G,o⟩,I⟩:∃q,q=Fs.rename H Mf.draft Mf.final:=⟨_,rfl⟩
  have A:=F4.out.rename Mf.draft Mf.final;rw[← I]at hl3 A ⊢;simp only at hl3 A ⊢;have M:=T.out.below hb3;have J:=T.out.put hb3 hl3;obtain⟨E,C⟩:∃q,q=rput w3 w.heap.size G V5:=⟨_,rfl⟩
  rw[← C]at J;have O:=QA I.symm;have P:=QA M;have W:=QA J;have D:=QA C.symm;have F5:Hid (Fs.Fit G (k+2+2+2)):=QA A;clear hb3 hl3 I M J C A;by_cases hc:o=0;rotate_left
  ·have S:Hid (Mf.save st ver l=(G,o)):=QA (af.out.trans (Fs.first_err (f:=(λst=>Fs.rename st Mf.draft Mf.final)) (r:=(Mf.steps (Mf.enc ver l)).drop 5) O.out hc));have Y:(o==0)=false:=by rw[beq_eq_false_iff_ne];exact hc
   have U:decide (o=0)=false:=decide_eq_false hc;clear hc;go_wp2_with (first|(refine AB rfl _ _ rfl _ G V5 W.out.one _ rfl rfl rfl P.out.a ?_;rw[D.out])|(refine AD rfl _ rfl _ _ _ rfl W.out.a ?_)|(refine AB rfl _ _ rfl _ G V5 W.out.one fs0 rfl rfl rfl W.out.b ?_)|fail);rw[S.out];exact W.out.fin Tryz.results10 o rfl rfl rfl
  subst hc;have ak:Hid (Mf.save st ver l=Fs.first ((Mf.steps (Mf.enc ver l)).drop 5) G):=QA (af.out.trans (Fs.first_ok (f:=(λst=>Fs.rename st Mf.draft Mf.final)) (r:=(Mf.steps (Mf.enc ver l)).drop 5) O.out));have N:=QA ((Bf G V5 _ W.out.rf (F5.out.rok (by omega)).left (F5.out.rok (by omega)).plan).mono λ_ _ h=>(show ROp G V5 (Fs.syncDir G) _ _ _ from h));go_wp2_with (first|(refine AB rfl _ _ rfl _ G V5 W.out.one _ rfl rfl rfl P.out.a ?_;rw[D.out])|(refine AD rfl _ rfl _ _ _ rfl W.out.a ?_)|fail);refine N.out.mono ?_;rintro e w3 ⟨hb3,V6,rfl,hl3⟩;clear N;obtain⟨⟨K,o⟩,I⟩:∃q,q=Fs.syncDir G:=⟨_,rfl⟩
  have A:=F5.out.syncDir;rw[← I]at hl3 A ⊢;simp only at hl3 A ⊢;have M:=W.out.below hb3;have J:=W.out.put hb3 hl3;obtain⟨E,C⟩:∃q,q=rput w3 w.heap.size K V6:=⟨_,rfl⟩
  rw[← C]at J;have O:=QA I.symm;have P:=QA M;have X:=QA J;have D:=QA C.symm;have F6:Hid (Fs.Fit K (k+2+2+2)):=QA A;clear hb3 hl3 I M J C A;by_cases hc:o=0;rotate_left
  ·have S:Hid (Mf.save st ver l=(K,o)):=QA (ak.out.trans (Fs.first_err (f:=Fs.syncDir) (r:=(Mf.steps (Mf.enc ver l)).drop 6) O.out hc));have Y:(o==0)=false:=by rw[beq_eq_false_iff_ne];exact hc
   have U:decide (o=0)=false:=decide_eq_false hc;clear hc;go_wp2_with (first|(refine AB rfl _ _ rfl _ K V6 X.out.one _ rfl rfl rfl P.out.a ?_;rw[D.out])|(refine AD rfl _ rfl _ _ _ rfl X.out.a ?_)|(refine AB rfl _ _ rfl _ K V6 X.out.one fs0 rfl rfl rfl X.out.b ?_)|fail);rw[S.out];exact X.out.fin Tryz.results10 o rfl rfl rfl
  subst hc;have ax:Hid (Mf.save st ver l=Fs.first ((Mf.steps (Mf.enc ver l)).drop 6) K):=QA (ak.out.trans (Fs.first_ok (f:=Fs.syncDir) (r:=(Mf.steps (Mf.enc ver l)).drop 6) O.out));go_wp2_with (first|(refine AB rfl _ _ rfl _ K V6 X.out.one _ rfl rfl rfl P.out.a ?_;rw[D.out])|(refine AD rfl _ rfl _ _ _ rfl X.out.a ?_)|(refine AB rfl _ _ rfl _ K V6 X.out.one fs0 rfl rfl rfl X.out.b ?_)|fail);have au:Mf.save st ver l=(K,0):=ax.out;rw[au];exact X.out.fin Tryz.results10 0 rfl rfl rfl
 ·have an:Hid (Mf.clear st=Fs.remove st Mf.draft):=QA (by unfold Mf.clear;rw[HB.out];rfl);have N:=QA ((CJ st V ⟨#[109,97,110,105,102,101,115,116,46,116,109,112]⟩ _ HA.out.rf (HF.out.rok (by omega)) (by decide)).mono λ_ _ h=>(show ROp st V (Mf.clear st) _ _ _ by rw[an.out];exact h));go_wp2_with (first|(refine AD rfl _ rfl _ _ _ rfl HA.out.a ?_)|fail);refine N.out.mono ?_;rintro e w3 ⟨hb3,V1,rfl,hl3⟩;clear N;obtain⟨⟨R,o⟩,I⟩:∃q,q=Mf.clear st:=⟨_,rfl⟩
  have A:=(show Fs.Fit (Mf.clear st).1 (k+2) by rw[an.out];exact HF.out.remove Mf.draft)
  rw[← I]at hl3 A ⊢;simp only at hl3 A ⊢;have M:=HA.out.below hb3;have J:=HA.out.put hb3 hl3;obtain⟨E,C⟩:∃q,q=rput w3 w.heap.size R V1:=⟨_,rfl⟩
  rw[← C]at J;have O:=QA I.symm;have P:=QA M;have Z:=QA J;have D:=QA C.symm;have FA:Hid (Fs.Fit R (k+2)):=QA A;clear hb3 hl3 I M J C A;by_cases hc:o=0;rotate_left
  ·have S:Hid (Mf.save st ver l=(R,o)):=QA (ap.out.trans (Fs.first_err (f:=Mf.clear) (r:=(Mf.steps (Mf.enc ver l)).drop 1) O.out hc));have Y:(o==0)=false:=by rw[beq_eq_false_iff_ne];exact hc
   have U:decide (o=0)=false:=decide_eq_false hc;clear hc;go_wp2_with (first|(refine AB rfl _ _ rfl _ R V1 Z.out.one _ rfl rfl rfl P.out.a ?_;rw[D.out])|(refine AD rfl _ rfl _ _ _ rfl Z.out.a ?_)|(refine AB rfl _ _ rfl _ R V1 Z.out.one fs0 rfl rfl rfl Z.out.b ?_)|fail);rw[S.out];exact Z.out.fin Tryz.results10 o rfl rfl rfl
  subst hc;have ae:Hid (Mf.save st ver l=Fs.first ((Mf.steps (Mf.enc ver l)).drop 1) R):=QA (ap.out.trans (Fs.first_ok (f:=Mf.clear) (r:=(Mf.steps (Mf.enc ver l)).drop 1) O.out));have N:=QA ((CB R V1 ⟨#[109,97,110,105,102,101,115,116,46,116,109,112]⟩ _ Z.out.rf (FA.out.rok (by omega)) (by have:=FA.out.sound.nf;omega) (by decide)).mono λ_ _ h=>(show ROp R V1 (Fs.create R Mf.draft) _ _ _ from h));go_wp2_with (first|(refine AB rfl _ _ rfl _ R V1 Z.out.one _ rfl rfl rfl P.out.a ?_;rw[D.out])|(refine AD rfl _ rfl _ _ _ rfl Z.out.a ?_)|fail);refine N.out.mono ?_;rintro e w3 ⟨hb3,V2,rfl,hl3⟩;clear N;obtain⟨⟨B,o⟩,I⟩:∃q,q=Fs.create R Mf.draft:=⟨_,rfl⟩
  have A:=FA.out.create Mf.draft;rw[← I]at hl3 A ⊢;simp only at hl3 A ⊢;have M:=Z.out.below hb3;have J:=Z.out.put hb3 hl3;obtain⟨E,C⟩:∃q,q=rput w3 w.heap.size B V2:=⟨_,rfl⟩
  rw[← C]at J;have O:=QA I.symm;have P:=QA M;have L:=QA J;have D:=QA C.symm;have F2:Hid (Fs.Fit B (k+2+2)):=QA A;clear hb3 hl3 I M J C A;by_cases hc:o=0;rotate_left
  ·have S:Hid (Mf.save st ver l=(B,o)):=QA (ae.out.trans (Fs.first_err (f:=(λst=>Fs.create st Mf.draft)) (r:=(Mf.steps (Mf.enc ver l)).drop 2) O.out hc));have Y:(o==0)=false:=by rw[beq_eq_false_iff_ne];exact hc
   have U:decide (o=0)=false:=decide_eq_false hc;clear hc;go_wp2_with (first|(refine AB rfl _ _ rfl _ B V2 L.out.one _ rfl rfl rfl P.out.a ?_;rw[D.out])|(refine AD rfl _ rfl _ _ _ rfl L.out.a ?_)|(refine AB rfl _ _ rfl _ B V2 L.out.one fs0 rfl rfl rfl L.out.b ?_)|fail);rw[S.out];exact L.out.fin Tryz.results10 o rfl rfl rfl
  subst hc;have ah:Hid (Mf.save st ver l=Fs.first ((Mf.steps (Mf.enc ver l)).drop 2) B):=QA (ae.out.trans (Fs.first_ok (f:=(λst=>Fs.create st Mf.draft)) (r:=(Mf.steps (Mf.enc ver l)).drop 2) O.out));go_wp2_with (first|(refine AB rfl _ _ rfl _ B V2 L.out.one _ rfl rfl rfl P.out.a ?_;rw[D.out])|fail);have ag:Hid (∀x:World,Below E.heap.size E x→Calls Tryz.prog 48 #[.agg #[.int .i64 ver,.slice sa l.length sc]] x λe w'=>e=.returned (.string ⟨(Mf.enc ver l).toArray⟩)∧Below x.heap.size x w'):=QA λx hb=>DF ver (.slice sa l.length sc) l x (HN.out.below (L.out.below hb).e) HG.out
  have b0:E.cell? ⟨w.heap.size,0,none⟩=some (.int .i64 B.room):=AA L.out.a 0 _ rfl;have b1:E.cell? ⟨w.heap.size,1,none⟩=some V2.fv:=AA L.out.a 1 _ rfl;have b2:E.cell? ⟨w.heap.size,2,none⟩=some V2.dv:=AA L.out.a 2 _ rfl;have b3:E.cell? ⟨w.heap.size,3,none⟩=some V2.sv:=AA L.out.a 3 _ rfl;have b4:E.cell? ⟨w.heap.size,4,none⟩=some V2.cv:=AA L.out.a 4 _ rfl;have b5:E.cell? ⟨w.heap.size,5,none⟩=some (.int .i64 B.steps):=AA L.out.a 5 _ rfl;have b6:E.cell? ⟨w.heap.size,6,none⟩=some (.int .i64 B.left):=AA L.out.a 6 _ rfl;have b7:E.cell? ⟨w.heap.size,7,none⟩=some V2.pv:=AA L.out.a 7 _ rfl;have n0:E.cell? ⟨w.heap.size+1,0,none⟩=some (.int .i64 ver):=AA L.out.m 0 _ rfl;have n1:E.cell? ⟨w.heap.size+1,1,none⟩=some (.slice sa l.length sc):=AA L.out.m 1 _ rfl;refine AK (λw'=>w'.cell? ⟨w.heap.size,0,none⟩=some (.int .i64 B.room)∧w'.cell? ⟨w.heap.size,1,none⟩=some V2.fv∧w'.cell? ⟨w.heap.size,2,none⟩=some V2.dv∧w'.cell? ⟨w.heap.size,3,none⟩=some V2.sv∧w'.cell? ⟨w.heap.size,4,none⟩=some V2.cv∧w'.cell? ⟨w.heap.size,5,none⟩=some (.int .i64 B.steps)∧w'.cell? ⟨w.heap.size,6,none⟩=some (.int .i64 B.left)∧w'.cell? ⟨w.heap.size,7,none⟩=some V2.pv∧w'.cell? ⟨w.heap.size+1,0,none⟩=some (.int .i64 ver)∧w'.cell? ⟨w.heap.size+1,1,none⟩=some (.slice sa l.length sc)) 3 (by kernel_rfl) ?_;have hS:E.drew.cell? ⟨w.heap.size,0,none⟩=some (.int .i64 B.room)∧E.drew.cell? ⟨w.heap.size,1,none⟩=some V2.fv∧E.drew.cell? ⟨w.heap.size,2,none⟩=some V2.dv∧E.drew.cell? ⟨w.heap.size,3,none⟩=some V2.sv∧E.drew.cell? ⟨w.heap.size,4,none⟩=some V2.cv∧E.drew.cell? ⟨w.heap.size,5,none⟩=some (.int .i64 B.steps)∧E.drew.cell? ⟨w.heap.size,6,none⟩=some (.int .i64 B.left)∧E.drew.cell? ⟨w.heap.size,7,none⟩=some V2.pv∧E.drew.cell? ⟨w.heap.size+1,0,none⟩=some (.int .i64 ver)∧E.drew.cell? ⟨w.heap.size+1,1,none⟩=some (.slice sa l.length sc):=⟨b0,b1,b2,b3,b4,b5,b6,b7,n0,n1⟩
  refine AX (i:=0) (v:=(.agg #[.int .i64 B.room,V2.fv,V2.dv,V2.sv,V2.cv,.int .i64 B.steps,.int .i64 B.left,V2.pv])) [3,4,5,6,7,8] (by kernel_rfl) (by kernel_rfl) (by decide) rfl (by kernel_rfl) (by kernel_rfl) (by kernel_rfl) (λ_ _ _ h=>h) (Or.inl ⟨by rfl,λw hSw=>by go_simp⟩) hS ?_;simp only[Act.put,QD,QK,QI,QJ,QC,QH,QG];refine AX (i:=1) (v:=(.agg #[.int .i64 ver,.slice sa l.length sc])) [2,3,4,5,6,7,8] (by kernel_rfl) (by kernel_rfl) (by decide) rfl (by kernel_rfl) (by kernel_rfl) (by kernel_rfl) (λ_ _ _ h=>h) (Or.inl ⟨by rfl,λw hSw=>by go_simp⟩) hS ?_;simp only[Act.put,QD,QK,QI,QJ,QC,QH,QG];have aj:Below E.heap.size E E.drew:=Below.drew (Below.refl _ _);have ao:=QA (L.out.below aj);refine TO (i:=2) ?_;refine AF (by decide) (λK5 HK5=>?_);simp only[QE,QL,QF,QN];go_wp2_with fail;refine (ag.out _ aj).mono ?_;rintro e w5 ⟨rfl,hb5⟩;have Q:=QA (ao.out.below hb5);clear b0 b1 b2 b3 b4 b5 b6 b7 n0 n1 hS ag;go_wp2_with fail;refine HK5.out _ _ ⟨λ_=>⟨AA Q.out.a 0 _ rfl,AA Q.out.a 1 _ rfl,AA Q.out.a 2 _ rfl,AA Q.out.a 3 _ rfl,AA Q.out.a 4 _ rfl,AA Q.out.a 5 _ rfl,AA Q.out.a 6 _ rfl,AA Q.out.a 7 _ rfl,AA Q.out.m 0 _ rfl,AA Q.out.m 1 _ rfl⟩,?_⟩;clear HK5;refine TO (i:=3) ?_;refine AF (by decide) (λK6 HK6=>?_);simp only[QE,QL,QF,QN];have N:=QA ((CN B V2 ⟨#[109,97,110,105,102,101,115,116,46,116,109,112]⟩ ⟨(Mf.enc ver l).toArray⟩ w5 Q.out.rf (F2.out.rok (by omega)) (F2.out.rfl' (by omega)) F2.out.f65 F2.out.sound.room F2.out.plan.how (by have:=Mf.enc_len HG.out;simp[ByteArray.size];omega)).mono λ_ _ h=>(show ROp B V2 (Fs.append B Mf.draft (Mf.enc ver l)) _ _ _ from h));go_wp2_with fail;refine N.out.mono ?_;rintro e w3 ⟨hb3,V3,rfl,hl3⟩;clear N;have HQ:=Q;clear Q;obtain⟨⟨F,o⟩,I⟩:∃q,q=Fs.append B Mf.draft (Mf.enc ver l):=⟨_,rfl⟩
  have A:=F2.out.append Mf.draft (Mf.enc ver l);rw[← I]at hl3 A ⊢;simp only at hl3 A ⊢;have M:=HQ.out.below hb3;have J:=HQ.out.put hb3 hl3;obtain⟨E,C⟩:∃q,q=rput w3 w.heap.size F V3:=⟨_,rfl⟩
  rw[← C]at J;have O:=QA I.symm;have P:=QA M;have H6:=QA J;have D:=QA C.symm;have F3:Hid (Fs.Fit F (k+2+2)):=QA A;clear hb3 hl3 I M J C A;go_wp2_with fail;refine HK6.out _ _ ⟨λh=>absurd h (by decide),?_⟩;clear HK6;refine TA (i:=4) (v:=(.tuple #[.agg (AG F V3),.int .i64 o])) rfl (Or.inl ⟨by rfl,λw _=>by go_simp⟩) ?_;simp only[Act.put,QD,QK,QI,QJ,QC,QH,QG];refine TA (i:=5) (v:=(.agg (AG F V3))) rfl (Or.inl ⟨by rfl,λw _=>by go_simp⟩) ?_;simp only[Act.put,QD,QK,QI,QJ,QC,QH,QG];refine TA (i:=6) (v:=(.int .i64 o)) rfl (Or.inl ⟨by rfl,λw _=>by go_simp⟩) ?_;simp only[Act.put,QD,QK,QI,QJ,QC,QH,QG];refine TO (i:=7) ?_;refine AF (by decide) (λK7 HK7=>?_);simp only[QE,QL,QF,QN];go_wp2_with (first|(refine AB rfl _ _ rfl _ F V3 H6.out.one _ rfl rfl rfl P.out.a ?_;rw[D.out])|fail);refine HK7.out _ _ ⟨λh=>absurd h (by decide),?_⟩;clear HK7;refine TA (i:=8) (v:=(.int .i64 o)) rfl (Or.inl ⟨by rfl,λw _=>by go_simp⟩) ?_;simp only[Act.put,QD,QK,QI,QJ,QC,QH,QG];refine AM (by kernel_rfl) ?_ _;by_cases hc:o=0;rotate_left
  ·have S:Hid (Mf.save st ver l=(F,o)):=QA (ah.out.trans (Fs.first_err (f:=(λst=>Fs.append st Mf.draft (Mf.enc ver l))) (r:=(Mf.steps (Mf.enc ver l)).drop 3) O.out hc));have Y:(o==0)=false:=by rw[beq_eq_false_iff_ne];exact hc
   have U:decide (o=0)=false:=decide_eq_false hc;clear hc;go_wp2_with (first|(refine AB rfl _ _ rfl _ F V3 H6.out.one _ rfl rfl rfl P.out.a ?_;rw[D.out])|(refine AD rfl _ rfl _ _ _ rfl H6.out.a ?_)|(refine AB rfl _ _ rfl _ F V3 H6.out.one fs0 rfl rfl rfl H6.out.b ?_)|fail);rw[S.out];exact H6.out.fin Tryz.results10 o rfl rfl rfl
  subst hc;have ai:Hid (Mf.save st ver l=Fs.first ((Mf.steps (Mf.enc ver l)).drop 3) F):=QA (ah.out.trans (Fs.first_ok (f:=(λst=>Fs.append st Mf.draft (Mf.enc ver l))) (r:=(Mf.steps (Mf.enc ver l)).drop 3) O.out));have N:=QA ((DU F V3 ⟨#[109,97,110,105,102,101,115,116,46,116,109,112]⟩ _ H6.out.rf (F3.out.rok (by omega)) (F3.out.rfl' (by omega))).mono λ_ _ h=>(show ROp F V3 (Fs.sync F Mf.draft) _ _ _ from h));go_wp2_with (first |  (refine AD rfl _ rfl _ _ _ rfl H6.out.a ?_)|fail);refine N.out.mono ?_;rintro e w3 ⟨hb3,V4,rfl,hl3⟩;clear N;obtain⟨⟨H,o⟩,I⟩:∃q,q=Fs.sync F Mf.draft:=⟨_,rfl⟩
  have A:=F3.out.sync Mf.draft;rw[← I]at hl3 A ⊢;simp only at hl3 A ⊢;have M:=H6.out.below hb3;have J:=H6.out.put hb3 hl3;obtain⟨E,C⟩:∃q,q=rput w3 w.heap.size H V4:=⟨_,rfl⟩
  rw[← C]at J;have O:=QA I.symm;have P:=QA M;have T:=QA J;have D:=QA C.symm;have F4:Hid (Fs.Fit H (k+2+2)):=QA A;clear hb3 hl3 I M J C A;by_cases hc:o=0;rotate_left
  ·have S:Hid (Mf.save st ver l=(H,o)):=QA (ai.out.trans (Fs.first_err (f:=(λst=>Fs.sync st Mf.draft)) (r:=(Mf.steps (Mf.enc ver l)).drop 4) O.out hc));have Y:(o==0)=false:=by rw[beq_eq_false_iff_ne];exact hc
   have U:decide (o=0)=false:=decide_eq_false hc;clear hc;go_wp2_with (first|(refine AB rfl _ _ rfl _ H V4 T.out.one _ rfl rfl rfl P.out.a ?_;rw[D.out])|(refine AD rfl _ rfl _ _ _ rfl T.out.a ?_)|(refine AB rfl _ _ rfl _ H V4 T.out.one fs0 rfl rfl rfl T.out.b ?_)|fail);rw[S.out];exact T.out.fin Tryz.results10 o rfl rfl rfl
  subst hc;have af:Hid (Mf.save st ver l=Fs.first ((Mf.steps (Mf.enc ver l)).drop 4) H):=QA (ai.out.trans (Fs.first_ok (f:=(λst=>Fs.sync st Mf.draft)) (r:=(Mf.steps (Mf.enc ver l)).drop 4) O.out));have N:=QA ((CH H V4 ⟨#[109,97,110,105,102,101,115,116,46,116,109,112]⟩ ⟨#[109,97,110,105,102,101,115,116]⟩ _ T.out.rf (F4.out.rok (by omega)) (by decide) (by decide)).mono λ_ _ h=>(show ROp H V4 (Fs.rename H Mf.draft Mf.final) _ _ _ from h));go_wp2_with (first|(refine AB rfl _ _ rfl _ H V4 T.out.one _ rfl rfl rfl P.out.a ?_;rw[D.out])|(refine AD rfl _ rfl _ _ _ rfl T.out.a ?_)|fail);refine N.out.mono ?_;rintro e w3 ⟨hb3,V5,rfl,hl3⟩;clear N;obtain⟨⟨G,o⟩,I⟩:∃q,q=Fs.rename H Mf.draft Mf.final:=⟨_,rfl⟩
  have A:=F4.out.rename Mf.draft Mf.final;rw[← I]at hl3 A ⊢;simp only at hl3 A ⊢;have M:=T.out.below hb3;have J:=T.out.put hb3 hl3;obtain⟨E,C⟩:∃q,q=rput w3 w.heap.size G V5:=⟨_,rfl⟩
  rw[← C]at J;have O:=QA I.symm;have P:=QA M;have W:=QA J;have D:=QA C.symm;have F5:Hid (Fs.Fit G (k+2+2+2)):=QA A;clear hb3 hl3 I M J C A;by_cases hc:o=0;rotate_left
  ·have S:Hid (Mf.save st ver l=(G,o)):=QA (af.out.trans (Fs.first_err (f:=(λst=>Fs.rename st Mf.draft Mf.final)) (r:=(Mf.steps (Mf.enc ver l)).drop 5) O.out hc));have Y:(o==0)=false:=by rw[beq_eq_false_iff_ne];exact hc
   have U:decide (o=0)=false:=decide_eq_false hc;clear hc;go_wp2_with (first|(refine AB rfl _ _ rfl _ G V5 W.out.one _ rfl rfl rfl P.out.a ?_;rw[D.out])|(refine AD rfl _ rfl _ _ _ rfl W.out.a ?_)|(refine AB rfl _ _ rfl _ G V5 W.out.one fs0 rfl rfl rfl W.out.b ?_)|fail);rw[S.out];exact W.out.fin Tryz.results10 o rfl rfl rfl
  subst hc;have ak:Hid (Mf.save st ver l=Fs.first ((Mf.steps (Mf.enc ver l)).drop 5) G):=QA (af.out.trans (Fs.first_ok (f:=(λst=>Fs.rename st Mf.draft Mf.final)) (r:=(Mf.steps (Mf.enc ver l)).drop 5) O.out));have N:=QA ((Bf G V5 _ W.out.rf (F5.out.rok (by omega)).left (F5.out.rok (by omega)).plan).mono λ_ _ h=>(show ROp G V5 (Fs.syncDir G) _ _ _ from h));go_wp2_with (first|(refine AB rfl _ _ rfl _ G V5 W.out.one _ rfl rfl rfl P.out.a ?_;rw[D.out])|(refine AD rfl _ rfl _ _ _ rfl W.out.a ?_)|fail);refine N.out.mono ?_;rintro e w3 ⟨hb3,V6,rfl,hl3⟩;clear N;obtain⟨⟨K,o⟩,I⟩:∃q,q=Fs.syncDir G:=⟨_,rfl⟩
  have A:=F5.out.syncDir;rw[← I]at hl3 A ⊢;simp only at hl3 A ⊢;have M:=W.out.below hb3;have J:=W.out.put hb3 hl3;obtain⟨E,C⟩:∃q,q=rput w3 w.heap.size K V6:=⟨_,rfl⟩
  rw[← C]at J;have O:=QA I.symm;have P:=QA M;have X:=QA J;have D:=QA C.symm;have F6:Hid (Fs.Fit K (k+2+2+2)):=QA A;clear hb3 hl3 I M J C A;by_cases hc:o=0;rotate_left
  ·have S:Hid (Mf.save st ver l=(K,o)):=QA (ak.out.trans (Fs.first_err (f:=Fs.syncDir) (r:=(Mf.steps (Mf.enc ver l)).drop 6) O.out hc));have Y:(o==0)=false:=by rw[beq_eq_false_iff_ne];exact hc
   have U:decide (o=0)=false:=decide_eq_false hc;clear hc;go_wp2_with (first|(refine AB rfl _ _ rfl _ K V6 X.out.one _ rfl rfl rfl P.out.a ?_;rw[D.out])|(refine AD rfl _ rfl _ _ _ rfl X.out.a ?_)|(refine AB rfl _ _ rfl _ K V6 X.out.one fs0 rfl rfl rfl X.out.b ?_)|fail);rw[S.out];exact X.out.fin Tryz.results10 o rfl rfl rfl
  subst hc;have ax:Hid (Mf.save st ver l=Fs.first ((Mf.steps (Mf.enc ver l)).drop 6) K):=QA (ak.out.trans (Fs.first_ok (f:=Fs.syncDir) (r:=(Mf.steps (Mf.enc ver l)).drop 6) O.out));go_wp2_with (first|(refine AB rfl _ _ rfl _ K V6 X.out.one _ rfl rfl rfl P.out.a ?_;rw[D.out])|(refine AD rfl _ rfl _ _ _ rfl X.out.a ?_)|(refine AB rfl _ _ rfl _ K V6 X.out.one fs0 rfl rfl rfl X.out.b ?_)|fail);have au:Mf.save st ver l=(K,0):=ax.out;rw[au];exact X.out.fin Tryz.results10 0 rfl rfl rfl
open Go.Maps Go.WideMaps
structure EX (B:Nat) (w:World):Prop where
 sg:B5 B w
 ml:∃m,w.cell? ⟨3,0,none⟩=some (.int .i64 m)
 low:3<B
theorem EX.below {B:Nat} {w w':World} (h:EX B w) (hb:Below B w w'):EX B w':=by
 obtain⟨m,o⟩:=h.ml;exact⟨h.sg.below hb,⟨m,by rw[hb.cell h.low];exact o⟩,h.low⟩
theorem EX.mono {B B':Nat} {w:World} (h:EX B w) (hb:B≤B'):EX B' w:=⟨h.sg.mono hb,h.ml,ZT h.low hb⟩
theorem Ea (a b:Value) (l m:List UInt8) (w:World) (ha:Al w a l) (hb:Al w b m) (hl:l.length≤1000000000) (hm:m.length≤1000000000) :
  Calls Tryz.prog 88 #[a,b] w λe w'=>e=.returned (.bool (l==m))∧w'=w:=by
 obtain⟨C,A,rfl,_⟩:=ha.form;obtain⟨D,E,rfl,_⟩:=hb.form;have o:=Cq ha;have B:=Cq hb;go_enter Tryz.func88,Tryz.ntmps88;go_wp2_with fail;go_ret;exact⟨rfl,rfl⟩
def IF (b:List UInt8) (w:World) (e:Ending) (w':World):Prop :=
 Below w.heap.size w w'∧((∃v l sv,Mf.read b=some (v,l)∧e=.returned (.tuple #[.agg #[.int .i64 v,sv],.int .i64 0])∧Ae w' w.heap.size sv l) ∨
  (Mf.read b=none∧e=.returned (.tuple #[.agg #[.int .i64 0,.slice none 0 0],.int .i64 2])))
theorem Gs {L:List (List UInt8)} {j:Nat} {x:List UInt8} (h:L[j]?=some x):Mf.nums (L.drop j)=match Lib.atoiAll x with|.ok n=>(Mf.nums (L.drop (j+1))).map (n::·)|_=>none:=by
 obtain⟨A,o⟩:=List.getElem?_eq_some_iff.1 h;rw[List.drop_eq_getElem_cons A,o,Mf.nums];cases Lib.atoiAll x<;>rfl
theorem But.grown2 {X:Nat→Prop} {a w w':World} {r:Option Nat} (h:But X a w) (hg:w.grownBy w' r) (hr:∀k,r=some k→X k∨a.heap.size≤k):But X a w' :=
 ⟨hg.os.trans h.os,hg.tape.trans h.tape,hg.output.trans h.output,QQ h.size hg.size,λk hk hx=>by
  rw[hg.block k (ZT hk h.size) (λe=>by rcases hr k e.symm with h1|h1;exact hx h1;omega)];exact h.block k hk hx⟩
theorem EV:∀(k:Nat) (l:List UInt8),k=l.count 10→(Lib.splitK [10] 0 k l).length=k+1
 | 0,l,_=>rfl
 | k+1,l,h=>by
  obtain⟨x,r,o,e⟩:∃x r,(10:UInt8) ∉ x∧l=x++10::r:=by
   have A:(10:UInt8)∈l:=List.count_pos_iff.1 (by omega);clear h
   induction l with
   | nil=>cases A
   | cons c l ih =>
    by_cases hc:c=10
    ·exact⟨[],l,by simp,by rw[hc];rfl⟩
    ·obtain⟨x,r,C,D⟩:=ih (by rcases List.mem_cons.1 A with h|h;exact absurd h.symm hc;exact h);exact⟨c::x,r,by simp[C];exact λh=>hc h.symm,by rw[D];rfl⟩
  subst e;rw[Lib.splitK,Mf.index_line x r o,if_neg (by simp),List.length_cons];have B:(x++10::r).drop (((x.length:Nat):Int).toNat+([10]:List UInt8).length)=r:=by
   rw[Int.toNat_natCast,← List.drop_drop,List.drop_left];rfl
  rw[B,EV k r (by rw[List.count_append,List.count_eq_zero_of_not_mem o,List.count_cons_self]at h;omega)]
theorem Da:∀(k:Nat) (l x:List UInt8),x∈Lib.splitK [10] 0 k l→x.length≤l.length
 | 0,l,x,h=>by
  rw[Lib.splitK]at h;simp at h;rw[h];exact QM _
 | k+1,l,x,h=>by
  rw[Lib.splitK]at h;split at h
  ·simp at h;rw[h];exact QM _
  ·rcases List.mem_cons.1 h with h|h
   ·rw[h];simp;omega
   ·have:=Da k _ x h;simp at this;omega
theorem Bm {Q:Ending→World→Prop} {a:Act} {W:World} (g:Nat) (ver c:Int) (sv:Value) (h2:a.tmps[2]?=some (.pointer (some ⟨g,0,none⟩))) (h3:a.tmps[3]?=some (.int .i64 c)) (hd:a.defers=[])
  (hW:W.heap[g]?=some (.cells #[.int .i64 ver,sv] 37 (0,0))) (hQ:Q (.returned (.tuple #[.agg #[.int .i64 ver,sv],.int .i64 c])) W):bodyPost Tryz.prog Tryz.f53 Q .ret a W:=by
 have A:W.cell? ⟨g,0,none⟩=some (.int .i64 ver):=AA hW 0 _ rfl;have o:W.cell? ⟨g,1,none⟩=some sv:=AA hW 1 _ rfl;exact bodyPost_ret (v:=.tuple #[.agg #[.int .i64 ver,sv],.int .i64 c]) (by simp[results,Tryz.results53,go_sem,h2,h3,A,o]) hd hQ
theorem Ae.mono2 {w:World} {base base':Nat} {v:Value} {l:List Int} (h:Ae w base v l) (hb:base'≤base):Ae w base' v l:=by
 refine⟨h.1,?_⟩;rcases h.2 with h2|⟨g,cap,cur,hv,hg,hc⟩
 ·exact .inl h2
 ·exact .inr ⟨g,cap,cur,hv,QQ hb hg,hc⟩
theorem FJ (v:Value) (b:List UInt8) (w:World) (B:Nat) (hE:EX B w) (hBw:B≤w.heap.size) (hV:Al w v b) (hl:b.length≤1000000000) :
  Calls Tryz.prog 53 #[v] w (IF b w):=by
 obtain⟨va,vc,rfl,_⟩:=hV.form;have aU:Below w.heap.size w (w.alloc (.cells #[.int .i64 0,.slice none 0 0] 37)):=(Below.refl _ _).alloc (QM _) _;have aZ:=AH w (.cells #[.int .i64 0,.slice none 0 0] 37);have HV:=QA hV;have HE:=QA hE;have ai:=QA aU;have aK:=QA aZ;clear hV hE aU aZ;go_enter Tryz.func53,Tryz.ntmps53;go_wp2_with fail;refine (GF _ b _ (HV.out.below ai.out) hl).mono ?_;rintro e w1 ⟨hb1,hres⟩;have J:=QA (ai.out.trans (hb1.mono ai.out.size));have ao:w1.heap[w.heap.size]?=some (.cells #[.int .i64 0,.slice none 0 0] 37 (0,0)):=by rw[hb1.block _ (AE aK.out)];exact aK.out
 have I:=QA ao;have av:w.heap.size<w1.heap.size:=AE ao;clear hb1 ao;rcases hres with⟨h0,pv,rfl,ho⟩|⟨h0,rfl⟩
 ·obtain⟨pa,pn,pc,a8,bL⟩:=Au.form3 ho;subst a8;have HO:=QA ho;have p0:w1.frozen? ⟨w.heap.size,0,none⟩=false:=AC I.out 0;have p1:w1.frozen? ⟨w.heap.size,1,none⟩=false:=AC I.out 1;have q0:w1.cell? ⟨w.heap.size,0,none⟩=some (.int .i64 0):=AA I.out 0 _ rfl;have q1:w1.cell? ⟨w.heap.size,1,none⟩=some (.slice none 0 0):=AA I.out 1 _ rfl;have ap:=J.out.alloc J.out.size (.cells #[.int .i64 (Fr.kind b),.slice pa pn pc] 150);obtain⟨K,hK⟩:∃K,K=Fr.kind b:=⟨_,rfl⟩
  rw[← hK]at ap ⊢;have bP:=QA ap;have HK:=QA hK;have H0:=QA h0;clear ho ap hK h0;by_cases hk9:K=9
  ·subst hk9;have ar:Below w1.heap.size w1 ((w1.alloc (.cells #[.int .i64 9,.slice pa pn pc] 150)).alloc (.cells #[.int .i64 0,.slice none 0 0] 37)):=((Below.refl _ _).alloc (QM _) _).alloc (by simp) _;have bt:=Cq (HO.out.byts.below ar);have e1:(w1.alloc (.cells #[.int .i64 9,.slice pa pn pc] 150)).heap.size=w1.heap.size+1:=by simp
   have az:=AH (w1.alloc (.cells #[.int .i64 9,.slice pa pn pc] 150)) (.cells #[.int .i64 0,.slice none 0 0] 37);rw[e1]at az;have bf:=QA az;have aN:=QA ar;have aI:(Fr.pay b).length≤1000000000:=by unfold Fr.pay;simp;omega
   have au:=QA aI;clear az ar e1 p0 p1 q0 q1 aI;go_wp2_with fail;refine (Tryz.strings_TrimSuffix ⟨(Fr.pay b).toArray⟩ ⟨#[10]⟩ _ (by have:=au.out;show (Fr.pay b).toArray.size≤_;simp;omega)).mono ?_;rintro e w2 ⟨rfl,rfl⟩;obtain⟨T,hT⟩:∃T:ByteArray,T=⟨(Lib.trimSuffix (⟨(Fr.pay b).toArray⟩:ByteArray).data.toList (⟨#[10]⟩:ByteArray).data.toList).toArray⟩:=⟨_,rfl⟩
   rw[← hT];have HT:Hid (T.data.toList=Lib.trimSuffix (Fr.pay b) [10]):=by rw[hT];exact QA rfl
   have bU:T.size≤1000000000:=by
    rw[hT];show (Lib.trimSuffix _ _).toArray.size≤_;have:=au.out;unfold Lib.trimSuffix;split<;>simp<;>omega
   clear hT bt;obtain⟨ml,aT⟩:=(HE.out.below (J.out.trans (aN.out.mono J.out.size) |>.mono hBw)).ml;go_wp2_with fail;refine (Tryz.strings_Split T ⟨#[10]⟩ ml _ (by omega) aT (by decide)).mono ?_;rintro e w3 ⟨rfl,hw3⟩;have e2:((w1.alloc (.cells #[.int .i64 9,.slice pa pn pc] 150)).alloc (.cells #[.int .i64 0,.slice none 0 0] 37)).heap.size=w1.heap.size+2:=by simp
   rw[e2];have aW:Hid (w3.heap.size=w1.heap.size+3):=by rw[hw3];exact QA (by simp)
   have ac:Hid (Below w1.heap.size w1 w3):=by rw[hw3];exact QA (aN.out.alloc (by simp;omega) _)
   have bw:Hid (w3.heap[w1.heap.size+1]?=some (.cells #[.int .i64 0,.slice none 0 0] 37 (0,0))):=by
    rw[hw3,Lib.alloc_old _ _ _ (by simp)];exact bf
   obtain⟨W,ak⟩:∃W,W=Lib.splitB ⟨#[10]⟩ 0 (Lib.countB T ⟨#[10]⟩) T:=⟨_,rfl⟩
   have ax:Hid (W.map (·.data.toList)=Mf.lines (Lib.trimSuffix (Fr.pay b) [10])):=by
    refine QA ?_;rw[ak,Lib.splitB_data,HT.out];unfold Mf.lines;rw[show Lib.countB T ⟨#[10]⟩=Lib.count T.data.toList [10] from rfl,HT.out,Lib.count_one]
   have aG:W.length=Lib.countB T ⟨#[10]⟩+1:=by
    have:=congrArg List.length ax.out;rw[List.length_map]at this;rw[this];unfold Mf.lines;rw[show Lib.countB T ⟨#[10]⟩=Lib.count T.data.toList [10] from rfl,HT.out,Lib.count_one];exact EV _ _ rfl
   obtain⟨n,hn⟩:∃n,n=Lib.countB T ⟨#[10]⟩+1:=⟨_,rfl⟩
   rw[← hn]at aG ⊢;have bx:Hid (Ca w3 (.slice (some ⟨w1.heap.size+2,0,none⟩) n n) W):=by
    refine QA ⟨some ⟨w1.heap.size+2,0,none⟩,n,by rw[aG],λi s hi=>⟨w1.heap.size+2,0,rfl,by have:=aW.out;omega,?_⟩⟩;rw[hw3,← e2,Nat.zero_add];exact A4 _ _ _ i _ (by rw[← ak];simp[hi])
   have bJ:n≤1000000001:=by
    rw[hn];have:=Lib.countB_mul_le ⟨#[10]⟩ (by decide) T.size T (QM _);rw[show (⟨#[10]⟩:ByteArray).size=1 from rfl]at this;omega
   have bN:1≤n:=by omega
   have a9:Hid (∀s∈W,s.size≤1000000000):=by
    refine QA λs hs=>?_
    have h1:s.data.toList∈W.map (·.data.toList):=List.mem_map.2 ⟨s,hs,rfl⟩;rw[ax.out]at h1;have:=Da _ _ _ h1;have h2:(Lib.trimSuffix (Fr.pay b) [10]).length≤(Fr.pay b).length:=by unfold Lib.trimSuffix;split<;>simp
    have h3:=au.out;have h4:s.size=s.data.toList.length:=by simp
    omega
   have U:Hid (Mf.read b=(Mf.nums (W.map (·.data.toList))).bind (Mf.fit b)):=by
    unfold Mf.read;rw[if_neg (by rw[H0.out,← HK.out];simp),ax.out];exact QA rfl
   have b0:=QA (HE.out.below ((J.out.trans (ac.out.mono J.out.size)).mono hBw));have aP:Hid (w3.heap[w.heap.size]?=some (.cells #[.int .i64 0,.slice none 0 0] 37 (0,0))):=by rw[ac.out.block _ av];exact I
   clear hw3 e2 hn ak aT;go_wp2_with fail
   go_loopg [32] n (λk s32 wr=>∃(j:Nat) (A:List Int) (sv:Value),j≤n∧k=n-j∧s32=.int .i64 (j:Nat)∧A.length=j∧wr.heap[w1.heap.size+1]?=some (.cells #[.int .i64 (A.headD 0),sv] 37 (0,0))∧Ae wr w3.heap.size sv A.tail ∧
    But (λk=>k=w1.heap.size+1) w3 wr∧(Mf.nums (W.map (·.data.toList))=(Mf.nums ((W.map (·.data.toList)).drop j)).map (A++·)))
   case atStart=>exact⟨0,[],.slice none 0 0,Nat.zero_le _,rfl,rfl,rfl,bw.out,World.ownsRow_nil _ _ _ _,But.refl _ _,by rw[QL];simp⟩
   case round =>
    obtain⟨j,A,sv,hj,hk,rfl,aV,hM,aL,P,ah⟩:=hrel;have a3:=QA hk;have Z:=QA aV;have HM:=QA hM;have S:=QA aL;have am:=QA P;have V:=QA ah;have b1:(0:Int)≤(j:Int):=Int.natCast_nonneg _;have bS:w3.heap.size≤wr.heap.size:=P.size;have bM:=aW.out;have a2:w1.heap.size+1<wr.heap.size:=AE hM;have M:Hid (Below w.heap.size w wr):=by
     refine QA ?_;have h1:=J.out.trans (ac.out.mono J.out.size);exact⟨P.os.trans h1.os,P.tape.trans h1.tape,P.output.trans h1.output,QQ h1.size P.size,λk hk=>by
      rw[P.block k (ZT hk h1.size) (by show k≠_;omega)];exact h1.block k hk⟩
    have ag:wr.heap[w.heap.size]?=some (.cells #[.int .i64 0,.slice none 0 0] 37 (0,0)):=by rw[P.block _ (AE aP.out) (by show w.heap.size≠_;omega)];exact aP.out
    have O:=QA ag;clear hk aV hM aL P ah ag;by_cases hjn:j<n
    ·have aJ:(j:Int)<(n:Int):=by omega
     obtain⟨s,hs⟩:∃s,W[j]?=some s:=⟨_,List.getElem?_eq_getElem (by omega)⟩
     have bV:=a9.out s (List.mem_of_getElem? hs);have bd:wr.cell? ⟨w1.heap.size+2,j,none⟩=some (.string s):=by
      obtain⟨bb,b4,e1,e2⟩:=bx.out.at hs;simp only[Option.some.injEq,Addr.mk.injEq,and_true]at e1;obtain⟨rfl,rfl⟩:=e1;rw[Nat.zero_add]at e2;rw[World.cell?_of_block (am.out.block _ (by show w1.heap.size+2<w3.heap.size;omega) (by show w1.heap.size+2≠w1.heap.size+1;omega))];exact e2
     have HD:=QA (Gs (L:=W.map (·.data.toList)) (j:=j) (x:=s.data.toList) (by rw[List.getElem?_map,hs];rfl));clear hs;cases hat:Lib.atoiAll s.data.toList with
     | ok v =>
      rw[hat]at HD;go_wp2_with fail;refine (Tryz.strconv_Atoi_ok s (by omega) v hat wr).mono ?_;rintro e w4 ⟨rfl,hw4⟩;have C:Below wr.heap.size wr w4:=by
       rcases hw4 with rfl|⟨t,rfl⟩
       ·exact Below.refl _ _
       ·exact Joins.below_bytesWorld wr.heap.size wr 5 t (QM _)
      have Y:=QA C;have R:w4.heap[w1.heap.size+1]?=some (.cells #[.int .i64 (A.headD 0),sv] 37 (0,0)):=by rw[C.block _ a2];exact HM.out
      have bm:=C.size;have a1:Hid (Mf.nums (W.map (·.data.toList))=(Mf.nums ((W.map (·.data.toList)).drop (j+1))).map ((A++[v])++·)):=by
       rw[V.out,HD.out];show Hid (((Mf.nums _).map _).map _=_);rw[Option.map_map];refine QA (congrArg (λf=>Option.map f _) (funext λx=>?_));show A++v::x=(A++[v])++x;simp
      have X:=QA R;clear hw4 C hat R bd;by_cases hj0':j=0
      ·subst hj0';have aa:A=[]:=List.length_eq_zero_iff.1 Z.out;subst aa;have q0:w4.cell? ⟨w1.heap.size+1,0,none⟩=some (.int .i64 0):=AA X.out 0 _ rfl;have p0:w4.frozen? ⟨w1.heap.size+1,0,none⟩=false:=AC X.out 0;go_wp2_with fail;go_roundg (n-(0+1))
       case measure=>rw[a3.out];omega
       case rel =>
        refine⟨1,[v],sv,by omega,rfl,by simp,rfl,heap_set X.out _,?_,?_,a1.out⟩
        ·refine AQ (S.out.keep Y.out) (λg hg=>Below.heap_setCell _ _ _ _ ?_);have:=(World.ownsRow.lt S.out g hg).1;show g≠w1.heap.size+1;omega
        ·exact ((am.out.trans (But.of_below Y.out)).setCell (p:=⟨w1.heap.size+1,0,none⟩) (.inl rfl) _)
      ·obtain⟨E,F,G,al,aS⟩:=Ae.form3 S.out;subst al;have q1:w4.cell? ⟨w1.heap.size+1,1,none⟩=some (.slice E F G):=AA X.out 1 _ rfl;have bZ:(w4.alloc (.cells #[.int .i64 v] 3)).cell? ⟨w1.heap.size+1,1,none⟩=some (.slice E F G):=by
        rw[World.cell?_of_block (Lib.alloc_old _ _ _ (show w1.heap.size+1<w4.heap.size by omega))];exact q1
       have aj:=QA (S.out.keep Y.out);have bq:Hid (Ae (w4.alloc (.cells #[.int .i64 v] 3)) w3.heap.size (.slice E F G) A.tail):=QA (aj.out.keep ((Below.refl _ _).alloc (QM _) _));have bp:=QA (Ae.one w4 v w4.heap.size (QM _)).nums;have bO:((j:Int)==0)=false:=by rw[beq_eq_false_iff_ne];omega
       have bH:(j==0)=false:=by rw[beq_eq_false_iff_ne];exact hj0'
       have a4:A.tail.length≤1000000001:=by have:=Z.out;simp;omega
       have bg:=QA a4;have be:∀w5,(w4.alloc (.cells #[.int .i64 v] 3)).grownBy w5 (Value.slice E F G).ownBlock→w5.heap[w1.heap.size+1]?=some (.cells #[.int .i64 (A.headD 0),.slice E F G] 37 (0,0)):=λw5 hg5=>by
        rw[hg5.block _ (by simp;omega) (λe=>by have:=(World.ownsRow.lt aj.out _ e.symm).1;omega),Lib.alloc_old _ _ _ (by omega)];exact X.out
       clear a4;go_wp2_with (first|(at_builtin;refine BI rfl _ _ rfl w3.heap.size (.slice E F G) A.tail rfl bq.out (.slice (some ⟨w4.heap.size,0,none⟩) 1 1) [v] rfl bp.out (by simp) (by have:=bg.out;rw[List.length_singleton];omega) (by simp;omega) ?_;intro d' w5 hown hgrow hloc;clear hloc;obtain⟨dA,dN,dC,bl,bG⟩:=Ae.form3 hown;subst bl;have aw:=QA (be _ hgrow);have q5:w5.cell? ⟨w1.heap.size+1,1,none⟩=some (.slice E F G):=AA aw.out 1 _ rfl;have p5:w5.frozen? ⟨w1.heap.size+1,1,none⟩=false:=AC aw.out 1;have af:=QA hown;have br:=QA hgrow;clear hown hgrow)|fail);go_roundg (n-(j+1))
       case measure=>rw[a3.out];omega
       case rel =>
        obtain⟨a0,r0,aa⟩:∃a0 r0,A=a0::r0:=by
         cases hacc:A with
         | nil=>have:=Z.out;rw[hacc]at this;simp at this;omega
         | cons a r=>exact⟨a,r,rfl⟩
        refine⟨j+1,A++[v],.slice dA dN dC,by omega,rfl,by simp,by rw[List.length_append,Z.out];rfl,?_,?_,?_,a1.out⟩
        ·have h5:=aw.out;rw[aa]at h5 ⊢;exact heap_set h5 _
        ·have h6:(A++[v]).tail=A.tail++[v]:=by rw[aa];rfl
         rw[h6];refine AQ af.out (λg hg=>Below.heap_setCell _ _ _ _ ?_);have:=(World.ownsRow.lt af.out g hg).1;show g≠w1.heap.size+1;omega
        ·exact (((am.out.trans (But.of_below Y.out)).alloc _).grown2 br.out (λk hk=>.inr (World.ownsRow.lt aj.out k hk).1)).setCell (p:=⟨w1.heap.size+1,1,none⟩) (.inl rfl) _
     | range =>
      rw[hat]at HD;obtain⟨tp,p,hv⟩:=(HE.out.sg.below (M.out.mono hBw)).rng;have an:Hid (Mf.read b=none):=by rw[U.out,V.out,HD.out];exact QA rfl
      go_wp2_with fail;refine (Tryz.strconv_Atoi_range_var s (by omega) hat tp p wr hv).mono ?_;rintro e w4 ⟨N,rfl,hN,_,C⟩;clear hat hv;have o:w4.heap[w.heap.size]?=some (.cells #[.int .i64 0,.slice none 0 0] 37 (0,0)):=by rw[C.block _ (AE O.out)];exact O.out
      have H:=QA o;have p0:w4.frozen? ⟨w.heap.size,0,none⟩=false:=AC o 0;have p1:w4.frozen? ⟨w.heap.size,1,none⟩=false:=AC o 1;have z0:w4.cell? ⟨w.heap.size,0,none⟩=some (.int .i64 0):=AA o 0 _ rfl;have z1:w4.cell? ⟨w.heap.size,1,none⟩=some (.slice none 0 0):=AA o 1 _ rfl;have D:=QA (M.out.trans (C.mono M.out.size));clear o C;go_wp2_with fail;refine Bm w.heap.size 0 2 _ rfl rfl rfl (heap_set (heap_set H.out _) _) ?_;exact⟨((D.out.setCell (p:=⟨w.heap.size,0,none⟩) (QM _) _).setCell (p:=⟨w.heap.size,1,none⟩) (QM _) _),.inr ⟨an.out,rfl⟩⟩
     | _ =>
      rw[hat]at HD;obtain⟨tp,p,hv⟩:=(HE.out.sg.below (M.out.mono hBw)).syn;have an:Hid (Mf.read b=none):=by rw[U.out,V.out,HD.out];exact QA rfl
      go_wp2_with fail;refine (Tryz.strconv_Atoi_syntax_var s (by omega) hat tp p wr hv).mono ?_;rintro e w4 ⟨N,rfl,hN,_,C⟩;clear hat hv;have o:w4.heap[w.heap.size]?=some (.cells #[.int .i64 0,.slice none 0 0] 37 (0,0)):=by rw[C.block _ (AE O.out)];exact O.out
      have H:=QA o;have p0:w4.frozen? ⟨w.heap.size,0,none⟩=false:=AC o 0;have p1:w4.frozen? ⟨w.heap.size,1,none⟩=false:=AC o 1;have z0:w4.cell? ⟨w.heap.size,0,none⟩=some (.int .i64 0):=AA o 0 _ rfl;have z1:w4.cell? ⟨w.heap.size,1,none⟩=some (.slice none 0 0):=AA o 1 _ rfl;have D:=QA (M.out.trans (C.mono M.out.size));clear o C;go_wp2_with fail;refine Bm w.heap.size 0 2 _ rfl rfl rfl (heap_set (heap_set H.out _) _) ?_;exact⟨((D.out.setCell (p:=⟨w.heap.size,0,none⟩) (QM _) _).setCell (p:=⟨w.heap.size,1,none⟩) (QM _) _),.inr ⟨an.out,rfl⟩⟩
    ·have aJ:(n:Int)≤(j:Int):=by omega
     have bF:j=n:=by omega
     obtain⟨Q,l0,aa⟩:∃Q l0,A=Q::l0:=by
      cases hacc:A with
      | nil=>have:=Z.out;rw[hacc]at this;simp at this;omega
      | cons a r=>exact⟨a,r,rfl⟩
     subst aa;have aq:Hid (Mf.read b=Mf.fit b (Q::l0)):=by
      rw[U.out,V.out,List.drop_of_length_le (by rw[List.length_map];omega)];show Hid (((some []).map _).bind _=_);refine QA ?_;simp only[Option.map_some,Option.bind_some,List.append_nil]
     obtain⟨E,F,G,al,aS⟩:=Ae.form3 S.out;subst al;have q0:wr.cell? ⟨w1.heap.size+1,0,none⟩=some (.int .i64 Q):=AA HM.out 0 _ rfl;have q1:wr.cell? ⟨w1.heap.size+1,1,none⟩=some (.slice E F G):=AA HM.out 1 _ rfl;have bz:Hid (l0.length≤1000000000):=by have:=Z.out;simp at this;exact QA (by omega)
     go_wp2_with fail;refine (Dl Q _ l0 wr B (HE.out.sg.below (M.out.mono hBw)) (QQ hBw M.out.size) S.out.nums bz.out).mono ?_;rintro e w4 ⟨C,hres⟩;have Y:=QA C;have R:w4.heap[w1.heap.size+1]?=some (.cells #[.int .i64 Q,.slice E F G] 37 (0,0)):=by rw[C.block _ a2];exact HM.out
     have o:w4.heap[w.heap.size]?=some (.cells #[.int .i64 0,.slice none 0 0] 37 (0,0)):=by rw[C.block _ (AE O.out)];exact O.out
     have H:=QA o;have X:=QA R;have x0:w4.cell? ⟨w1.heap.size+1,0,none⟩=some (.int .i64 Q):=AA R 0 _ rfl;have x1:w4.cell? ⟨w1.heap.size+1,1,none⟩=some (.slice E F G):=AA R 1 _ rfl;have p0:w4.frozen? ⟨w.heap.size,0,none⟩=false:=AC o 0;have p1:w4.frozen? ⟨w.heap.size,1,none⟩=false:=AC o 1;have z0:w4.cell? ⟨w.heap.size,0,none⟩=some (.int .i64 0):=AA o 0 _ rfl;have z1:w4.cell? ⟨w.heap.size,1,none⟩=some (.slice none 0 0):=AA o 1 _ rfl;have D:=QA (M.out.trans (C.mono M.out.size));have bm:=C.size;clear C R o q0 q1;rcases hres with⟨hg,bb,rfl,hob⟩|⟨hg,rfl⟩
     ·obtain⟨ba,bn,bc,bk,bX⟩:=Au.form3 hob;subst bk;have bh:=QA hob;have bu:(Mf.enc Q l0).length≤1000000000:=by have:=Mf.enc_len hg;omega
      have bv:=QA (HV.out.below D.out);have HG:=QA hg;clear hob hg;go_wp2_with fail;refine (Ea _ _ (Mf.enc Q l0) b w4 bh.out.byts bv.out bu hl).mono ?_;rintro e w5 ⟨rfl,hw5⟩;subst hw5;by_cases heq:Mf.enc Q l0=b
      ·have ad:Hid (Mf.read b=some (Q,l0)):=by rw[aq.out,Mf.fit,if_pos ⟨HG.out,heq⟩];exact QA rfl
       have hb:(Mf.enc Q l0==b)=true:=by rw[beq_iff_eq];exact heq
       rw[hb];clear heq hb;go_wp2_with fail;refine Bm w.heap.size Q 0 (.slice E F G) rfl rfl rfl (heap_set (heap_set H.out _) _) ?_;refine⟨((D.out.setCell (p:=⟨w.heap.size,0,none⟩) (QM _) _).setCell (p:=⟨w.heap.size,1,none⟩) (QM _) _),.inl ⟨Q,l0,_,ad.out,rfl,?_⟩⟩;have ho:=S.out.keep Y.out;refine AQ (ho.mono2 (by omega)) (λg hg=>?_);have:=(World.ownsRow.lt ho g hg).1;rw[Below.heap_setCell _ _ _ _ (by show g≠w.heap.size;omega),Below.heap_setCell _ _ _ _ (by show g≠w.heap.size;omega)]
      ·have ad:Hid (Mf.read b=none):=by rw[aq.out,Mf.fit,if_neg (λh=>heq h.2)];exact QA rfl
       have hb:(Mf.enc Q l0==b)=false:=by rw[beq_eq_false_iff_ne];exact heq
       rw[hb];clear heq hb;go_wp2_with fail;refine Bm w.heap.size 0 2 _ rfl rfl rfl (heap_set (heap_set H.out _) _) ?_;exact⟨((D.out.setCell (p:=⟨w.heap.size,0,none⟩) (QM _) _).setCell (p:=⟨w.heap.size,1,none⟩) (QM _) _),.inr ⟨ad.out,rfl⟩⟩
     ·have ad:Hid (Mf.read b=none):=by rw[aq.out,Mf.fit,if_neg (λh=>by rw[hg]at h;cases h.1)];exact QA rfl
      clear hg;go_wp2_with fail;refine Bm w.heap.size 0 2 _ rfl rfl rfl (heap_set (heap_set H.out _) _) ?_;exact⟨((D.out.setCell (p:=⟨w.heap.size,0,none⟩) (QM _) _).setCell (p:=⟨w.heap.size,1,none⟩) (QM _) _),.inr ⟨ad.out,rfl⟩⟩
  ·have U:Hid (Mf.read b=none):=by unfold Mf.read;rw[if_pos (.inr (by rw[← HK.out];exact hk9))];exact QA rfl
   have ht:(K != 9)=true:=by rw[bne_iff_ne];exact hk9
   clear hk9;go_wp2_with fail;refine Bm w.heap.size 0 2 _ rfl rfl rfl (by rw[Lib.alloc_old _ _ _ (by simp[World.setCell];exact av)];exact heap_set (heap_set I.out _) _) ?_;exact⟨((J.out.setCell (p:=⟨w.heap.size,0,none⟩) (QM _) _).setCell (p:=⟨w.heap.size,1,none⟩) (QM _) _).alloc (by simp[World.setCell];omega) _,.inr ⟨U.out,rfl⟩⟩
 ·have U:Hid (Mf.read b=none):=by unfold Mf.read;rw[if_pos (.inl h0)];exact QA rfl
  have p0:w1.frozen? ⟨w.heap.size,0,none⟩=false:=AC I.out 0;have p1:w1.frozen? ⟨w.heap.size,1,none⟩=false:=AC I.out 1;have q0:w1.cell? ⟨w.heap.size,0,none⟩=some (.int .i64 0):=AA I.out 0 _ rfl;have q1:w1.cell? ⟨w.heap.size,1,none⟩=some (.slice none 0 0):=AA I.out 1 _ rfl;have ht:(Fr.decE b != 0)=true:=by rw[bne_iff_ne];exact h0
  go_wp2_with fail;refine Bm w.heap.size 0 2 _ rfl rfl rfl (by rw[Lib.alloc_old _ _ _ (by simp[World.setCell];exact av)];exact heap_set (heap_set I.out _) _) ?_;exact⟨((J.out.setCell (p:=⟨w.heap.size,0,none⟩) (QM _) _).setCell (p:=⟨w.heap.size,1,none⟩) (QM _) _).alloc (by simp[World.setCell];omega) _,.inr ⟨U.out,rfl⟩⟩
end Go.Proofs.YtmlekglfdiacpaaGreatDoor
