/-
  'NamesRings': the row and its card.
-/
import Derived.Test.YtedeapbonbbacaaGreatDoorZr23
import Derived.Test.YtedeapbonbbacaaGreatDoorZr28
namespace Go.Proofs.YtedeapbonbbacaaGreatDoor.namesRings
set_option maxRecDepth 100000
set_option linter.unusedSimpArgs false
set_option linter.unusedVariables false
open Go Go.RowKit
open Go.ChangeShapes Go.WideShapes Go.ChangeAt
open Go.ChangeMaps (open_string shut_string)
theorem contract (H:Type) (enc:TypeId×Value→H) (F:Stop.Interp) (W:World) (base:Nat) (args:Array Value) (ds gs:List (DataW H)) (before:List MemPlace)
  (hval:∀(j:Nat) t v,Tryz.f3.params[j]?=some t→args[j]?=some v→Value.okWide Tryz.prog W .any base t v)
  (hW:DataW.Whole enc Tryz.prog Tryz.f3.params.toList Rows.namesRingsSpec.vars false W args.toList ds gs before) (hL:laidMet Tryz.prog laidList W) (hS:W.ShapedOpen Tryz.prog) :
  Calls Tryz.prog 3 args W λe W'=>∃v,e=.returned v∧((OpenSpec.ofChange Rows.namesRingsSpec).at F).post enc Tryz.prog Tryz.f3 false true false false W args v W':=by
 have C:=hW;obtain⟨p,q,A,K,rfl,M,P⟩:=hW;have J:DataW.TrodAll enc Tryz.prog W 0 (λ_=>true) true Tryz.f3.params.toList args.toList ds p:=A;rw[Tryz.params3]at J hval;obtain⟨S,T,Q,V,d1,Z,X,p1,Y,rfl,rfl,rfl,L,R,U⟩:=trodAll_three J;obtain⟨rfl,rfl⟩:=trodVars_none K;obtain⟨n,rfl,rfl,rfl,D⟩:=open_int Tryz.underlying3 (hval 0 3 S rfl rfl) L;obtain⟨b,rfl,rfl,rfl,E⟩:=open_int Tryz.underlying3 (hval 1 3 T rfl rfl) R;obtain⟨c,rfl,rfl,rfl⟩:=RowKit.open_bool Tryz.underlying4 (hval 2 4 Q rfl rfl) U;clear A K;have o:IntKind.i64.min=-9223372036854775808:=by decide
 have I:-9223372036854775808≤n∧n≤9223372036854775807:=by simpa [Lit.wf,o] using D
 have G:-9223372036854775808≤b∧b≤9223372036854775807:=by simpa [Lit.wf,o] using E
 obtain⟨O,N⟩:=env_of hL hS;refine (nrings_any n b c W I.1 I.2 G.1 G.2 O N).mono ?_;rintro e W' ⟨rfl,bel⟩;have B:((OpenSpec.ofChange Rows.namesRingsSpec).at F).fn H ([.lit (.int .i64 n),.lit (.int .i64 b),.lit (.bool c)]++[])={ results:=[.lit (.bool true)],args:=[.lit (.int .i64 n),.lit (.int .i64 b),.lit (.bool c)] }:=rfl;refine⟨_,rfl,_,_,_,[],[],[],C,?_,?_,?_,bel.frame _,λh=>by cases h⟩
 ·rw[B];exact trodAll_mk1 (shut_bool Tryz.underlying4 _)
 ·rw[B];exact trodAll_mk3 (shut_int Tryz.underlying3 D) (shut_int Tryz.underlying3 E) (shut_bool Tryz.underlying4 c)
 ·rw[B];rfl
theorem reads (os:Os) {H:Type} (enc:TypeId×Value→H):∃places,DataW.whole enc Tryz.prog ((laidWorld os).forCall (λ_ _=>0) ⟨#[],#[.int .i64 0,.int .i64 0,.bool false],[]⟩).memory Tryz.f3.params.toList Rows.namesRingsSpec.vars false #[Value.int .i64 0,.int .i64 0,.bool false].toList 8=some ([.lit (.int .i64 0),.lit (.int .i64 0),.lit (.bool false)],[],places) :=
 ⟨[],by kernel_rfl⟩
theorem lifted (os:Os) (started:os.Started) (H:Type) (enc:TypeId×Value→H) (F:Stop.Interp) :
  ReturnsInHanded {} Tryz.checked os 3 .any ((OpenSpec.ofChange Rows.namesRingsSpec).preRow enc Tryz.prog Tryz.f3 Rows.namesRingsRow.domain false Rows.namesRingsRow.laid) (((OpenSpec.ofChange Rows.namesRingsSpec).at F).post enc Tryz.prog Tryz.f3 false true false false):=by
 obtain⟨o,hx⟩:=reads os enc;refine returnsInHanded_of_row (C:=Tryz.checked) (s:=OpenSpec.ofChange Rows.namesRingsSpec) own started (by kernel_rfl) Tryz.func3
  (witness_row_at (enc:=enc) (C:=Tryz.checked) false (laidWorld os) #[.int .i64 0,.int .i64 0,.bool false] rfl (by kernel_rfl) (by kernel_rfl) (by kernel_rfl)
   (OpenSpec.preRow_of_cond 8 hx (by kernel_rfl) (λk hk=>by cases hk) (by kernel_rfl) (laid_met os _))) ?_
 intro W base args ds gs before hval hW _ _ _ hL hS _;exact contract H enc F W base args ds gs before hval hW hL hS
theorem said:Rows.NamesRingsSaid :=
 OpenClaim.holds_of_cond 3 Tryz.f3 rfl rfl rfl rfl rfl rfl rfl ⟨rfl,rfl,rfl,rfl,rfl⟩ rfl rfl rfl rfl rfl (by kernel_rfl) Tryz.func3 (by kernel_rfl)
  (of_decide_eq_true (by kernel_rfl)) (by unfold Func.isWrapper;first|(rw[if_pos (by decide +kernel)];kernel_rfl)|(rw[if_neg (by decide +kernel)];exact⟨rfl,rfl⟩))
  (λos started H enc _ F=>by rw[OpenClaim.pre_eq_preRow];exact lifted os started H enc F)
theorem plain (f : FuncId) (fn : Func) (hf : Tryz.pinned.checked.prog.funcNamed "rubric/rubriclaw15.NamesRings" = some f) (hfn : Tryz.pinned.checked.prog.funcs[f]? = some fn) :
  false=Tryz.pinned.checked.prog.looks []∧∀(j:Nat) t,fn.params[j]?=some t→Tryz.pinned.checked.prog.wantsStandIn t=false:=by
 obtain rfl : f = 3 := Option.some.inj ((show Tryz.prog.funcNamed "rubric/rubriclaw15.NamesRings" = some 3 by kernel_rfl).symm.trans hf) |>.symm;obtain rfl:fn=Tryz.f3:=(Option.some.inj (Tryz.func3.symm.trans hfn)).symm;refine ⟨by kernel_rfl,fun j t ht=>?_⟩;rw[Tryz.params3] at ht;have o:t=3∨t=4:=by
  have h:=Array.mem_of_getElem? ht;simp at h;omega
 rcases o with rfl|rfl
 ·exact (show Tryz.prog.wantsStandIn 3=false by kernel_rfl)
 ·exact (show Tryz.prog.wantsStandIn 4=false by kernel_rfl)
theorem card:Rows.NamesRingsCardSaid :=
 Claim7.holds_tied_plain_at .later [] _ _ _ _ said (λ_ h=>by cases h) (by kernel_rfl) (λ_ h=>by cases h) namesRings_row_tie rfl ⟨rfl,rfl⟩ (by kernel_rfl) rfl plain (by kernel_rfl)
end Go.Proofs.YtedeapbonbbacaaGreatDoor.namesRings
