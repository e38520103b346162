/-
  'NamesDoubles': the row and its card.
-/
import Derived.Test.YtedeapbonbbacaaGreatDoorZd23
import Derived.Test.YtedeapbonbbacaaGreatDoorZd26
namespace Go.Proofs.YtedeapbonbbacaaGreatDoor.namesDoubles
set_option maxRecDepth 100000
set_option linter.unusedSimpArgs false
set_option linter.unusedVariables false
open Go Go.RowKit
open Go.ChangeShapes Go.WideShapes Go.ChangeAt
open Go.ChangeMaps (open_string shut_string)
theorem contract (H:Type) (enc:TypeId×Value→H) (F:Stop.Interp) (W:World) (base:Nat) (args:Array Value) (ds gs:List (DataW H)) (before:List MemPlace)
  (hval:∀(j:Nat) t v,Tryz.f4.params[j]?=some t→args[j]?=some v→Value.okWide Tryz.prog W .any base t v)
  (hW:DataW.Whole enc Tryz.prog Tryz.f4.params.toList Rows.namesDoublesSpec.vars false W args.toList ds gs before) (hL:laidMet Tryz.prog laidList W) (hS:W.ShapedOpen Tryz.prog) :
  Calls Tryz.prog 4 args W λe W'=>∃v,e=.returned v∧((OpenSpec.ofChange Rows.namesDoublesSpec).at F).post enc Tryz.prog Tryz.f4 false true false false W args v W':=by
 have C:=hW;obtain⟨p,q,A,J,rfl,O,Q⟩:=hW;have D:DataW.TrodAll enc Tryz.prog W 0 (λ_=>true) true Tryz.f4.params.toList args.toList ds p:=A;rw[Tryz.params4]at D hval;obtain⟨R,N,U,T,V,X,rfl,rfl,rfl,M,P⟩:=trodAll_two D;obtain⟨rfl,rfl⟩:=trodVars_none J;obtain⟨n,rfl,rfl,rfl,K⟩:=open_int Tryz.underlying3 (hval 0 3 R rfl rfl) M;obtain⟨b,rfl,rfl,rfl,E⟩:=open_int Tryz.underlying3 (hval 1 3 N rfl rfl) P;clear A J;have o:IntKind.i64.min=-9223372036854775808:=by decide
 have I:-9223372036854775808≤n∧n≤9223372036854775807:=by simpa [Lit.wf,o] using K
 have G:-9223372036854775808≤b∧b≤9223372036854775807:=by simpa [Lit.wf,o] using E
 obtain⟨L,S⟩:=env_of hL hS;refine (ndoubles_any n b W I.1 I.2 G.1 G.2 L S).mono ?_;rintro e W' ⟨rfl,bel⟩;have B:((OpenSpec.ofChange Rows.namesDoublesSpec).at F).fn H ([.lit (.int .i64 n),.lit (.int .i64 b)]++[])={ results:=[.lit (.bool true)],args:=[.lit (.int .i64 n),.lit (.int .i64 b)] }:=rfl;refine⟨_,rfl,_,_,_,[],[],[],C,?_,?_,?_,bel.frame _,λh=>by cases h⟩
 ·rw[B];exact trodAll_mk1 (shut_bool Tryz.underlying4 _)
 ·rw[B];exact trodAll_mk2 (shut_int Tryz.underlying3 K) (shut_int Tryz.underlying3 E)
 ·rw[B];rfl
theorem reads (os:Os) {H:Type} (enc:TypeId×Value→H):∃places,DataW.whole enc Tryz.prog ((laidWorld os).forCall (λ_ _=>0) ⟨#[],#[.int .i64 0,.int .i64 0],[]⟩).memory Tryz.f4.params.toList Rows.namesDoublesSpec.vars false #[Value.int .i64 0,.int .i64 0].toList 8=some ([.lit (.int .i64 0),.lit (.int .i64 0)],[],places) :=
 ⟨[],by kernel_rfl⟩
theorem lifted (os:Os) (started:os.Started) (H:Type) (enc:TypeId×Value→H) (F:Stop.Interp) :
  ReturnsInHanded {} Tryz.checked os 4 .any ((OpenSpec.ofChange Rows.namesDoublesSpec).preRow enc Tryz.prog Tryz.f4 Rows.namesDoublesRow.domain false Rows.namesDoublesRow.laid) (((OpenSpec.ofChange Rows.namesDoublesSpec).at F).post enc Tryz.prog Tryz.f4 false true false false):=by
 obtain⟨o,hx⟩:=reads os enc;refine returnsInHanded_of_row (C:=Tryz.checked) (s:=OpenSpec.ofChange Rows.namesDoublesSpec) own started (by kernel_rfl) Tryz.func4
  (witness_row_at (enc:=enc) (C:=Tryz.checked) false (laidWorld os) #[.int .i64 0,.int .i64 0] rfl (by kernel_rfl) (by kernel_rfl) (by kernel_rfl)
   (OpenSpec.preRow_of_cond 8 hx (by kernel_rfl) (λk hk=>by cases hk) (by kernel_rfl) (laid_met os _))) ?_
 intro W base args ds gs before hval hW _ _ _ hL hS _;exact contract H enc F W base args ds gs before hval hW hL hS
theorem said:Rows.NamesDoublesSaid :=
 OpenClaim.holds_of_cond 4 Tryz.f4 rfl rfl rfl rfl rfl rfl rfl ⟨rfl,rfl,rfl,rfl,rfl⟩ rfl rfl rfl rfl rfl (by kernel_rfl) Tryz.func4 (by kernel_rfl)
  (of_decide_eq_true (by kernel_rfl)) (by unfold Func.isWrapper;first|(rw[if_pos (by decide +kernel)];kernel_rfl)|(rw[if_neg (by decide +kernel)];exact⟨rfl,rfl⟩))
  (λos started H enc _ F=>by rw[OpenClaim.pre_eq_preRow];exact lifted os started H enc F)
theorem plain (f : FuncId) (fn : Func) (hf : Tryz.pinned.checked.prog.funcNamed "rubric/rubriclaw15.NamesDoubles" = some f) (hfn : Tryz.pinned.checked.prog.funcs[f]? = some fn) :
  false=Tryz.pinned.checked.prog.looks []∧∀(j:Nat) t,fn.params[j]?=some t→Tryz.pinned.checked.prog.wantsStandIn t=false:=by
 obtain rfl : f = 4 := Option.some.inj ((show Tryz.prog.funcNamed "rubric/rubriclaw15.NamesDoubles" = some 4 by kernel_rfl).symm.trans hf) |>.symm;obtain rfl:fn=Tryz.f4:=(Option.some.inj (Tryz.func4.symm.trans hfn)).symm;refine ⟨by kernel_rfl,fun j t ht=>?_⟩;rw[Tryz.params4] at ht;obtain rfl:t=3:=by simpa using Array.mem_of_getElem? ht
 exact (show Tryz.prog.wantsStandIn 3=false by kernel_rfl)
theorem card:Rows.NamesDoublesCardSaid :=
 Claim7.holds_tied_plain_at .later [] _ _ _ _ said (λ_ h=>by cases h) (by kernel_rfl) (λ_ h=>by cases h) namesDoubles_row_tie rfl ⟨rfl,rfl⟩ (by kernel_rfl) rfl plain (by kernel_rfl)
end Go.Proofs.YtedeapbonbbacaaGreatDoor.namesDoubles
