/-
  'ShowOne': the row and its card.
-/
import Derived.Test.YtefjgpkpplkkgaaGreatDoorZo21
import Derived.Test.YtefjgpkpplkkgaaGreatDoorZo31
import Derived.Carry
namespace Go.Proofs.YtefjgpkpplkkgaaGreatDoor.showOne
set_option maxRecDepth 100000
set_option linter.unusedSimpArgs false
set_option linter.unusedVariables false
open Go Go.RowKit
open Go.ChangeShapes Go.WideShapes Go.ChangeAt
theorem laidOut:laidOutB Tryz.prog=true:=by kernel_rfl
theorem contract (H:Type) (enc:TypeId×Value→H) (F:Stop.Interp) (W:World) (base:Nat) (args:Array Value) (ds gs:List (DataW H)) (before:List MemPlace)
  (hval:∀(j:Nat) t v,Tryz.f5.params[j]?=some t→args[j]?=some v→Value.okWide Tryz.prog W .any base t v)
  (hW:DataW.Whole enc Tryz.prog Tryz.f5.params.toList Rows.showOneSpec.vars false W args.toList ds gs before) (hL:laidMet Tryz.prog laidList W) (hS:W.ShapedOpen Tryz.prog) :
  Calls Tryz.prog 5 args W λe W'=>∃v,e=.returned v∧((OpenSpec.ofChange Rows.showOneSpec).at F).post enc Tryz.prog Tryz.f5 false true false false W args v W':=by
 have C:=hW;obtain⟨p,q,A,L,rfl,Q,ab⟩:=hW;have D:DataW.TrodAll enc Tryz.prog W 0 (λ_=>true) true Tryz.f5.params.toList args.toList ds p:=A;rw[Tryz.params5]at D hval;obtain⟨V,N,E,K,I,M,rfl,rfl,rfl,J,G⟩:=trodAll_two D;obtain⟨rfl,rfl⟩:=trodVars_none L;have o:∀x∈I++M,x.block<W.heap.size:=λx hx=>C.lt x (by simpa using hx)
 have Z:=λ(W':World) (hn:Below W.heap.size W W')=>Below.trod (t:=43) laidOut (by kernel_rfl) (of_decide_eq_true (by kernel_rfl)) J hn (λx hx=>o x (by simp[hx]))
 have k1:=λ(W':World) (hn:Below W.heap.size W W')=>Below.trod (t:=43) laidOut (by kernel_rfl) (of_decide_eq_true (by kernel_rfl)) G hn (λx hx=>o x (by simp[hx]))
 obtain⟨x,S,a2,c1,c2,rfl,T,Y⟩:=doc_arg (hval 0 43 V rfl rfl) J;obtain⟨y,R,b2,B,P,rfl,O,X⟩:=doc_arg (hval 1 43 N rfl rfl) G;clear A L D;obtain⟨U,h3⟩:=env_of hL hS;refine (showOne_any x y T O S a2 R b2 c1 c2 B P W U h3 Y X).mono ?_;rintro e W' ⟨rfl,bel⟩;have B:((OpenSpec.ofChange Rows.showOneSpec).at F).fn H ([E,K]++[])={ results:=[.lit (.bool true)],args:=[E,K] }:=rfl;refine⟨_,rfl,_,_,_,[],I++M,[],C,?_,?_,?_,bel.frame _,λh=>by cases h⟩
 ·rw[B];exact trodAll_mk1 (shut_bool Tryz.underlying4 _)
 ·rw[B];exact trodAll_mk2 (Z W' bel) (k1 W' bel)
 ·rw[B];rfl
theorem reads (os:Os) {H:Type} (enc:TypeId×Value→H):∃places,DataW.whole enc Tryz.prog ((laidWorld os).forCall (λ_ _=>0) ⟨#[],#[.agg #[.slice none 0 0,.slice none 0 0],.agg #[.slice none 0 0,.slice none 0 0]],[]⟩).memory Tryz.f5.params.toList Rows.showOneSpec.vars false (#[.agg #[.slice none 0 0,.slice none 0 0],.agg #[.slice none 0 0,.slice none 0 0]]:Array Value).toList 8=some ([.agg [.nil,.nil],.agg [.nil,.nil]],[],places) :=
 ⟨[],by kernel_rfl⟩
theorem lifted (os:Os) (started:os.Started) (H:Type) (enc:TypeId×Value→H) (F:Stop.Interp) :
  ReturnsInHanded {} Tryz.checked os 5 .any ((OpenSpec.ofChange Rows.showOneSpec).preRow enc Tryz.prog Tryz.f5 Rows.showOneRow.domain false Rows.showOneRow.laid) (((OpenSpec.ofChange Rows.showOneSpec).at F).post enc Tryz.prog Tryz.f5 false true false false):=by
 obtain⟨o,A⟩:=reads os enc;refine returnsInHanded_of_row (C:=Tryz.checked) (s:=OpenSpec.ofChange Rows.showOneSpec) own started (by kernel_rfl) Tryz.func5
  (witness_row_at (enc:=enc) (C:=Tryz.checked) false (laidWorld os) #[.agg #[.slice none 0 0,.slice none 0 0],.agg #[.slice none 0 0,.slice none 0 0]] rfl (by kernel_rfl) (by kernel_rfl) (by kernel_rfl)
   (OpenSpec.preRow_of_cond 8 A (by kernel_rfl) (λk hk=>by cases hk) (by kernel_rfl) (laid_met os _))) ?_
 intro W base args ds gs before hval hW _ _ _ hL hS _;exact contract H enc F W base args ds gs before hval hW hL hS
theorem said:Rows.ShowOneSaid :=
 OpenClaim.holds_of_cond 5 Tryz.f5 rfl rfl rfl rfl rfl rfl rfl ⟨rfl,rfl,rfl,rfl,rfl⟩ rfl rfl rfl rfl rfl (by kernel_rfl) Tryz.func5 (by kernel_rfl)
  (of_decide_eq_true (by kernel_rfl)) (by unfold Func.isWrapper;first|(rw[if_pos (by decide +kernel)];kernel_rfl)|(rw[if_neg (by decide +kernel)];exact⟨rfl,rfl⟩))
  (λos started H enc _ F=>by rw[OpenClaim.pre_eq_preRow];exact lifted os started H enc F)
theorem plain (f : FuncId) (fn : Func) (hf : Tryz.pinned.checked.prog.funcNamed "rubric/rubriclaw11.ShowOne" = some f) (hfn : Tryz.pinned.checked.prog.funcs[f]? = some fn) :
  false=Tryz.pinned.checked.prog.looks []∧∀(j:Nat) t,fn.params[j]?=some t→Tryz.pinned.checked.prog.wantsStandIn t=false:=by
 obtain rfl : f = 5 := Option.some.inj ((show Tryz.prog.funcNamed "rubric/rubriclaw11.ShowOne" = some 5 by kernel_rfl).symm.trans hf) |>.symm;obtain rfl:fn=Tryz.f5:=(Option.some.inj (Tryz.func5.symm.trans hfn)).symm;refine ⟨by kernel_rfl,fun j t ht=>?_⟩;have o:(Tryz.f5.params.toList.all fun t=>!Tryz.prog.wantsStandIn t)=true:=by kernel_rfl
 have:=List.all_eq_true.1 o t (Array.mem_toList_iff.2 (Array.mem_of_getElem? ht));exact Bool.not_eq_true' _ |>.mp this
theorem card:Rows.ShowOneCardSaid :=
 Claim7.holds_tied_plain_at .later [] _ _ _ _ said (λ_ h=>by cases h) (by kernel_rfl) (λ_ h=>by cases h) showOne_row_tie rfl ⟨rfl,rfl⟩ (by kernel_rfl) rfl plain (by kernel_rfl)
end Go.Proofs.YtefjgpkpplkkgaaGreatDoor.showOne
