/-
  'StoreCompacts': the row and its card.
-/
import Derived.Test.YtjldahcckmmenaaGreatDoorZc14
import Derived.Test.YtjldahcckmmenaaGreatDoorZc22
import Derived.Carry
namespace Go.Proofs.YtjldahcckmmenaaGreatDoor.storeCompacts
set_option maxRecDepth 100000
set_option linter.unusedSimpArgs false
set_option linter.unusedVariables false
open Go Go.RowKit
open Go.ChangeShapes Go.WideShapes Go.ChangeAt
theorem contract (H:Type) (enc:TypeId×Value→H) (F:Stop.Interp) (W:World) (base:Nat) (args:Array Value) (ds gs:List (DataW H)) (before:List MemPlace)
  (hval:∀(j:Nat) t v,Tryz.f7.params[j]?=some t→args[j]?=some v→Value.okWide Tryz.prog W .any base t v)
  (hW:DataW.Whole enc Tryz.prog Tryz.f7.params.toList Rows.storeCompactsSpec.vars false W args.toList ds gs before) (hL:laidMet Tryz.prog laidList W) (hS:W.ShapedOpen Tryz.prog) :
  Calls Tryz.prog 7 args W λe W'=>∃v,e=.returned v∧((OpenSpec.ofChange Rows.storeCompactsSpec).at F).post enc Tryz.prog Tryz.f7 false true false false W args v W':=by
 have o:=hW;obtain⟨p,q,B,K,rfl,Y,U⟩:=hW;have I:DataW.TrodAll enc Tryz.prog W 0 (λ_=>true) true Tryz.f7.params.toList args.toList ds p:=B;rw[Tryz.params7]at I hval;obtain⟨Q,M,S,R,P,N,rfl,rfl,rfl,L,O⟩:=trodAll_two I;obtain⟨rfl,rfl⟩:=trodVars_none K;have A:∀x∈P++N,x.block<W.heap.size:=λx hx=>o.lt x (by simpa using hx)
 have X:=λ(W':World) (hn:Below W.heap.size W W')=>Below.trod (t:=25) laidOut (by kernel_rfl) (of_decide_eq_true (by kernel_rfl)) O hn (λx hx=>A x (by simp[hx]))
 have k0:=λ(W':World) (hn:Below W.heap.size W W')=>Below.trod (t:=66) laidOut (by kernel_rfl) (of_decide_eq_true (by kernel_rfl)) L hn (λx hx=>A x (by simp[hx]))
 obtain⟨V,J,T,C⟩:=opss_of L (hval 0 66 Q rfl rfl);obtain⟨zs,G,Z,E⟩:=irow_arg O (hval 1 25 M rfl rfl);clear B K I;have hE:=env_of hL hS;have ad:maxLen=9223372036854775807:=by decide
 refine (storeCompacts_any W.heap.size Q M V zs W hE (Nat.le_refl _) J (by omega) (λl hl=>⟨by have:=(C l hl).1;omega,λp hp=>by have:=((C l hl).2 p hp).1;omega⟩) G (by omega) E).mono ?_;rintro e W' ⟨rfl,bel⟩;have D:((OpenSpec.ofChange Rows.storeCompactsSpec).at F).fn H ([S,R]++[])={ results:=[.lit (.bool true)],args:=[S,R] }:=rfl;refine⟨_,rfl,_,_,_,[],P++N,[],o,?_,?_,?_,bel.frame _,λh=>by cases h⟩
 ·rw[D];exact trodAll_mk1 (shut_bool Tryz.underlying4 _)
 ·rw[D];exact trodAll_mk2 (k0 W' bel) (X W' bel)
 ·rw[D];rfl
theorem reads (os:Os) {H:Type} (enc:TypeId×Value→H):∃places,DataW.whole enc Tryz.prog ((laidWorld os).forCall (λ_ _=>0) ⟨#[],#[.slice none 0 0,.slice none 0 0],[]⟩).memory Tryz.f7.params.toList Rows.storeCompactsSpec.vars false (#[.slice none 0 0,.slice none 0 0]:Array Value).toList 8=some ([.nil,.nil],[],places) :=
 ⟨[],by kernel_rfl⟩
theorem lifted (os:Os) (started:os.Started) (H:Type) (enc:TypeId×Value→H) (F:Stop.Interp) :
  ReturnsInHanded {} Tryz.checked os 7 .any ((OpenSpec.ofChange Rows.storeCompactsSpec).preRow enc Tryz.prog Tryz.f7 Rows.storeCompactsRow.domain false Rows.storeCompactsRow.laid) (((OpenSpec.ofChange Rows.storeCompactsSpec).at F).post enc Tryz.prog Tryz.f7 false true false false):=by
 obtain⟨o,A⟩:=reads os enc;refine returnsInHanded_of_row (C:=Tryz.checked) (s:=OpenSpec.ofChange Rows.storeCompactsSpec) own started (by kernel_rfl) Tryz.func7
  (witness_row_at (enc:=enc) (C:=Tryz.checked) false (laidWorld os) #[.slice none 0 0,.slice none 0 0] rfl (by kernel_rfl) (by kernel_rfl) (by kernel_rfl)
   (OpenSpec.preRow_of_cond 8 A (by kernel_rfl) (λk hk=>by cases hk) (by kernel_rfl) (laid_met os _))) ?_
 intro W base args ds gs before hval hW _ _ _ hL hS _;exact contract H enc F W base args ds gs before hval hW hL hS
theorem said:Rows.StoreCompactsSaid :=
 OpenClaim.holds_of_cond 7 Tryz.f7 rfl rfl rfl rfl rfl rfl rfl ⟨rfl,rfl,rfl,rfl,rfl⟩ rfl rfl rfl rfl rfl (by kernel_rfl) Tryz.func7 (by kernel_rfl)
  (of_decide_eq_true (by kernel_rfl)) (by unfold Func.isWrapper;first|(rw[if_pos (by decide +kernel)];kernel_rfl)|(rw[if_neg (by decide +kernel)];exact⟨rfl,rfl⟩))
  (λos started H enc _ F=>by rw[OpenClaim.pre_eq_preRow];exact lifted os started H enc F)
theorem plain (f : FuncId) (fn : Func) (hf : Tryz.pinned.checked.prog.funcNamed "rubric/rubriclaw06.StoreCompacts" = some f) (hfn : Tryz.pinned.checked.prog.funcs[f]? = some fn) :
  true=Tryz.pinned.checked.prog.looks []∧∀(j:Nat) t,fn.params[j]?=some t→Tryz.pinned.checked.prog.wantsStandIn t=false:=by
 obtain rfl : f = 7 := Option.some.inj ((show Tryz.prog.funcNamed "rubric/rubriclaw06.StoreCompacts" = some 7 by kernel_rfl).symm.trans hf) |>.symm;obtain rfl:fn=Tryz.f7:=(Option.some.inj (Tryz.func7.symm.trans hfn)).symm;refine ⟨by kernel_rfl,fun j t ht=>?_⟩;have o:(Tryz.f7.params.toList.all fun t=>!Tryz.prog.wantsStandIn t)=true:=by kernel_rfl
 have:=List.all_eq_true.1 o t (Array.mem_toList_iff.2 (Array.mem_of_getElem? ht));exact Bool.not_eq_true' _ |>.mp this
theorem card:Rows.StoreCompactsCardSaid :=
 Claim7.holds_tied_plain_at .later [] _ _ _ _ said (λ_ h=>by cases h) (by kernel_rfl) (λ_ h=>by cases h) storeCompacts_row_tie rfl ⟨rfl,rfl⟩ (by kernel_rfl) rfl plain (by kernel_rfl)
end Go.Proofs.YtjldahcckmmenaaGreatDoor.storeCompacts
