/-
  'StoreOrder': the row and its card.
-/
import Derived.Test.YtjldahcckmmenaaGreatDoorZd14
import Derived.Test.YtjldahcckmmenaaGreatDoorZd22
import Derived.Carry
namespace Go.Proofs.YtjldahcckmmenaaGreatDoor.storeOrder
set_option maxRecDepth 100000
set_option linter.unusedSimpArgs false
set_option linter.unusedVariables false
open Go Go.RowKit
open Go.ChangeShapes Go.WideShapes Go.ChangeAt
theorem contract (H:Type) (enc:TypeId×Value→H) (F:Stop.Interp) (W:World) (base:Nat) (args:Array Value) (ds gs:List (DataW H)) (before:List MemPlace)
  (hval:∀(j:Nat) t v,Tryz.f3.params[j]?=some t→args[j]?=some v→Value.okWide Tryz.prog W .any base t v)
  (hW:DataW.Whole enc Tryz.prog Tryz.f3.params.toList Rows.storeOrderSpec.vars false W args.toList ds gs before) (hL:laidMet Tryz.prog laidList W) (hS:W.ShapedOpen Tryz.prog) :
  Calls Tryz.prog 3 args W λe W'=>∃v,e=.returned v∧((OpenSpec.ofChange Rows.storeOrderSpec).at F).post enc Tryz.prog Tryz.f3 false true false false W args v W':=by
 have A:=hW;obtain⟨p,q,o,J,rfl,X,R⟩:=hW;have C:DataW.TrodAll enc Tryz.prog W 0 (λ_=>true) true Tryz.f3.params.toList args.toList ds p:=o;rw[Tryz.params3]at C hval;obtain⟨I,U,M,Z,L,T,rfl,rfl,rfl,K,N⟩:=trodAll_two C;obtain⟨rfl,rfl⟩:=trodVars_none J;have D:∀x∈L++T,x.block<W.heap.size:=λx hx=>A.lt x (by simpa using hx)
 have O:=λ(W':World) (hn:Below W.heap.size W W')=>Below.trod (t:=22) laidOut (by kernel_rfl) (of_decide_eq_true (by kernel_rfl)) K hn (λx hx=>D x (by simp[hx]))
 obtain⟨Y,E,Q,B⟩:=ops_of K (hval 0 22 I rfl rfl);obtain⟨b,rfl,rfl,rfl,P⟩:=open_int Tryz.underlying3 (hval 1 3 U rfl rfl) N;clear o J C;have V:=env_of hL hS;have S:maxLen=9223372036854775807:=by decide
 refine (storeOrder_any W.heap.size I Y b W V (Nat.le_refl _) E (by omega) B).mono ?_;rintro e W' ⟨rfl,bel⟩;have G:((OpenSpec.ofChange Rows.storeOrderSpec).at F).fn H ([M,.lit (.int .i64 b)]++[])={ results:=[.lit (.bool true)],args:=[M,.lit (.int .i64 b)] }:=rfl;refine⟨_,rfl,_,_,_,[],L++[],[],A,?_,?_,?_,bel.frame _,λh=>by cases h⟩
 ·rw[G];exact trodAll_mk1 (shut_bool Tryz.underlying4 _)
 ·rw[G];exact trodAll_mk2 (O W' bel) (shut_int Tryz.underlying3 P)
 ·rw[G];rfl
theorem reads (os:Os) {H:Type} (enc:TypeId×Value→H):∃places,DataW.whole enc Tryz.prog ((laidWorld os).forCall (λ_ _=>0) ⟨#[],#[.slice none 0 0,.int .i64 0],[]⟩).memory Tryz.f3.params.toList Rows.storeOrderSpec.vars false (#[.slice none 0 0,.int .i64 0]:Array Value).toList 8=some ([.nil,.lit (.int .i64 0)],[],places) :=
 ⟨[],by kernel_rfl⟩
theorem lifted (os:Os) (started:os.Started) (H:Type) (enc:TypeId×Value→H) (F:Stop.Interp) :
  ReturnsInHanded {} Tryz.checked os 3 .any ((OpenSpec.ofChange Rows.storeOrderSpec).preRow enc Tryz.prog Tryz.f3 Rows.storeOrderRow.domain false Rows.storeOrderRow.laid) (((OpenSpec.ofChange Rows.storeOrderSpec).at F).post enc Tryz.prog Tryz.f3 false true false false):=by
 obtain⟨o,A⟩:=reads os enc;refine returnsInHanded_of_row (C:=Tryz.checked) (s:=OpenSpec.ofChange Rows.storeOrderSpec) own started (by kernel_rfl) Tryz.func3
  (witness_row_at (enc:=enc) (C:=Tryz.checked) false (laidWorld os) #[.slice none 0 0,.int .i64 0] rfl (by kernel_rfl) (by kernel_rfl) (by kernel_rfl)
   (OpenSpec.preRow_of_cond 8 A (by kernel_rfl) (λk hk=>by cases hk) (by kernel_rfl) (laid_met os _))) ?_
 intro W base args ds gs before hval hW _ _ _ hL hS _;exact contract H enc F W base args ds gs before hval hW hL hS
theorem said:Rows.StoreOrderSaid :=
 OpenClaim.holds_of_cond 3 Tryz.f3 rfl rfl rfl rfl rfl rfl rfl ⟨rfl,rfl,rfl,rfl,rfl⟩ rfl rfl rfl rfl rfl (by kernel_rfl) Tryz.func3 (by kernel_rfl)
  (of_decide_eq_true (by kernel_rfl)) (by unfold Func.isWrapper;first|(rw[if_pos (by decide +kernel)];kernel_rfl)|(rw[if_neg (by decide +kernel)];exact⟨rfl,rfl⟩))
  (λos started H enc _ F=>by rw[OpenClaim.pre_eq_preRow];exact lifted os started H enc F)
theorem plain (f : FuncId) (fn : Func) (hf : Tryz.pinned.checked.prog.funcNamed "rubric/rubriclaw06.StoreOrder" = some f) (hfn : Tryz.pinned.checked.prog.funcs[f]? = some fn) :
  true=Tryz.pinned.checked.prog.looks []∧∀(j:Nat) t,fn.params[j]?=some t→Tryz.pinned.checked.prog.wantsStandIn t=false:=by
 obtain rfl : f = 3 := Option.some.inj ((show Tryz.prog.funcNamed "rubric/rubriclaw06.StoreOrder" = some 3 by kernel_rfl).symm.trans hf) |>.symm;obtain rfl:fn=Tryz.f3:=(Option.some.inj (Tryz.func3.symm.trans hfn)).symm;refine ⟨by kernel_rfl,fun j t ht=>?_⟩;have o:(Tryz.f3.params.toList.all fun t=>!Tryz.prog.wantsStandIn t)=true:=by kernel_rfl
 have:=List.all_eq_true.1 o t (Array.mem_toList_iff.2 (Array.mem_of_getElem? ht));exact Bool.not_eq_true' _ |>.mp this
theorem card:Rows.StoreOrderCardSaid :=
 Claim7.holds_tied_plain_at .later [] _ _ _ _ said (λ_ h=>by cases h) (by kernel_rfl) (λ_ h=>by cases h) storeOrder_row_tie rfl ⟨rfl,rfl⟩ (by kernel_rfl) rfl plain (by kernel_rfl)
end Go.Proofs.YtjldahcckmmenaaGreatDoor.storeOrder
