/-
  'ShowParts': the row and its card.
-/
import Derived.Test.YtefjgpkpplkkgaaGreatDoorZp22
import Derived.Test.YtefjgpkpplkkgaaGreatDoorZp30
import Derived.Carry
namespace Go.Proofs.YtefjgpkpplkkgaaGreatDoor.showParts
set_option linter.unusedSimpArgs false
set_option linter.unusedVariables false
open Go Go.RowKit
open Go.ChangeShapes Go.WideShapes Go.ChangeAt
theorem laidOut:laidOutB Tryz.prog=true:=by kernel_rfl
set_option maxRecDepth 100000 in
theorem contract (H:Type) (enc:TypeId×Value→H) (F:Stop.Interp) (W:World) (base:Nat) (args:Array Value) (ds gs:List (DataW H)) (before:List MemPlace)
  (hval:∀ (j:Nat) t v,Tryz.f4.params[j]?=some t→args[j]?=some v→Value.okWide Tryz.prog W .any base t v)
  (hW:DataW.Whole enc Tryz.prog Tryz.f4.params.toList Rows.showPartsSpec.vars false W args.toList ds gs before) (hL:laidMet Tryz.prog laidList W) (hS:W.ShapedOpen Tryz.prog) :
  Calls Tryz.prog 4 args W fun e W'=>∃ v,e=.returned v∧((OpenSpec.ofChange Rows.showPartsSpec).at F).post enc Tryz.prog Tryz.f4 false true false false W args v W':=by
 have B:=hW
 obtain ⟨p,q,o,E,rfl,O,ac⟩:=hW
 have D:DataW.TrodAll enc Tryz.prog W 0 (fun _=>true) true Tryz.f4.params.toList args.toList ds p:=o
 rw[Tryz.params4] at D hval
 obtain ⟨Z,Q,M,I,L,J,rfl,rfl,rfl,K,G⟩:=trodAll_two D
 obtain ⟨rfl,rfl⟩:=trodVars_none E
 have C:∀ x∈L++J,x.block<W.heap.size:=fun x hx=>B.lt x (by simpa using hx)
 have T:=fun (W':World) (hn:Below W.heap.size W W')=>Below.trod (t:=43) laidOut (by kernel_rfl) (of_decide_eq_true (by kernel_rfl)) K hn (fun x hx=>C x (by simp[hx]))
 have k1:=fun (W':World) (hn:Below W.heap.size W W')=>Below.trod (t:=43) laidOut (by kernel_rfl) (of_decide_eq_true (by kernel_rfl)) G hn (fun x hx=>C x (by simp[hx]))
 obtain ⟨x,V,a2,c1,c2,rfl,R,X⟩:=doc_arg (hval 0 43 Z rfl rfl) K
 obtain ⟨y,U,b2,A,P,rfl,N,Y⟩:=doc_arg (hval 1 43 Q rfl rfl) G
 clear o E D
 obtain ⟨S,h3⟩:=env_of hL hS
 refine (showParts_any x y R N V a2 U b2 c1 c2 A P W S h3 X Y).mono ?_
 rintro e W' ⟨rfl,bel⟩
 have A:((OpenSpec.ofChange Rows.showPartsSpec).at F).fn H ([M,I]++[])={ results:=[.lit (.bool true)],args:=[M,I] }:=rfl
 refine ⟨_,rfl,_,_,_,[],L++J,[],B,?_,?_,?_,bel.frame _,fun h=>by cases h⟩
 ·rw[A];exact trodAll_mk1 (shut_bool Tryz.underlying4 _)
 ·rw[A];exact trodAll_mk2 (T W' bel) (k1 W' bel)
 ·rw[A];rfl
theorem reads (os:Os) {H:Type} (enc:TypeId×Value→H):∃ places,DataW.whole enc Tryz.prog ((laidWorld os).forCall (fun _ _=>0) ⟨#[],#[.agg #[.slice none 0 0,.slice none 0 0],.agg #[.slice none 0 0,.slice none 0 0]],[]⟩).memory Tryz.f4.params.toList Rows.showPartsSpec.vars false (#[.agg #[.slice none 0 0,.slice none 0 0],.agg #[.slice none 0 0,.slice none 0 0]]:Array Value).toList 8=some ([.agg [.nil,.nil],.agg [.nil,.nil]],[],places) :=
 ⟨[],by kernel_rfl⟩
set_option maxRecDepth 100000 in
theorem lifted (os:Os) (started:os.Started) (H:Type) (enc:TypeId×Value→H) (F:Stop.Interp) :
  ReturnsInHanded {} Tryz.checked os 4 .any ((OpenSpec.ofChange Rows.showPartsSpec).preRow enc Tryz.prog Tryz.f4 Rows.showPartsRow.domain false Rows.showPartsRow.laid) (((OpenSpec.ofChange Rows.showPartsSpec).at F).post enc Tryz.prog Tryz.f4 false true false false):=by
 obtain ⟨o,A⟩:=reads os enc
 refine returnsInHanded_of_row (C:=Tryz.checked) (s:=OpenSpec.ofChange Rows.showPartsSpec) own started (by kernel_rfl) Tryz.func4
  (witness_row_at (enc:=enc) (C:=Tryz.checked) false (laidWorld os) #[.agg #[.slice none 0 0,.slice none 0 0],.agg #[.slice none 0 0,.slice none 0 0]] rfl (by kernel_rfl) (by kernel_rfl) (by kernel_rfl)
   (OpenSpec.preRow_of_cond 8 A (by kernel_rfl) (fun k hk=>by cases hk) (by kernel_rfl) (laid_met os _))) ?_
 intro W base args ds gs before hval hW _ _ _ hL hS _
 exact contract H enc F W base args ds gs before hval hW hL hS
theorem said:Rows.ShowPartsSaid :=
 OpenClaim.holds_of_cond 4 Tryz.f4 rfl rfl rfl rfl rfl rfl rfl ⟨rfl,rfl,rfl,rfl,rfl⟩ rfl rfl rfl rfl rfl (by kernel_rfl) Tryz.func4 (by kernel_rfl)
  (of_decide_eq_true (by kernel_rfl)) (by unfold Func.isWrapper;first|(rw[if_pos (by decide +kernel)];kernel_rfl)|(rw[if_neg (by decide +kernel)];exact ⟨rfl,rfl⟩))
  (fun os started H enc _ F=>by rw[OpenClaim.pre_eq_preRow];exact lifted os started H enc F)
theorem plain (f : FuncId) (fn : Func) (hf : Tryz.pinned.checked.prog.funcNamed "rubric/rubriclaw11.ShowParts" = some f) (hfn : Tryz.pinned.checked.prog.funcs[f]? = some fn) :
  false=Tryz.pinned.checked.prog.looks []∧∀ (j:Nat) t,fn.params[j]?=some t→Tryz.pinned.checked.prog.wantsStandIn t=false:=by
 obtain rfl : f = 4 := Option.some.inj ((show Tryz.prog.funcNamed "rubric/rubriclaw11.ShowParts" = some 4 by kernel_rfl).symm.trans hf) |>.symm
 obtain rfl:fn=Tryz.f4:=(Option.some.inj (Tryz.func4.symm.trans hfn)).symm
 refine ⟨by kernel_rfl,fun j t ht=>?_⟩
 have o:(Tryz.f4.params.toList.all fun t=>!Tryz.prog.wantsStandIn t)=true:=by kernel_rfl
 have:=List.all_eq_true.1 o t (Array.mem_toList_iff.2 (Array.mem_of_getElem? ht))
 exact Bool.not_eq_true' _ |>.mp this
theorem card:Rows.ShowPartsCardSaid :=
 Claim7.holds_tied_plain_at .later [] _ _ _ _ said (fun _ h=>by cases h) (by kernel_rfl) (fun _ h=>by cases h) showParts_row_tie rfl ⟨rfl,rfl⟩ (by kernel_rfl) rfl plain (by kernel_rfl)
end Go.Proofs.YtefjgpkpplkkgaaGreatDoor.showParts
