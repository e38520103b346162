/-
  'ManifestPlays': the row and its card.
-/
import Derived.Test.YtmlekglfdiacpaaGreatDoorZp24
import Derived.Test.YtmlekglfdiacpaaGreatDoorZp25
import Derived.Carry
namespace Go.Proofs.YtmlekglfdiacpaaGreatDoor.manifestPlays
set_option maxRecDepth 100000
set_option linter.unusedSimpArgs false
set_option linter.unusedVariables false
open Go Go.RowKit
open Go.ChangeShapes Go.WideShapes Go.ChangeAt
theorem contract (H:Type) (enc:TypeId×Value→H) (F:Stop.Interp) (W:World) (base:Nat) (args:Array Value) (ds gs:List (DataW H)) (before:List MemPlace)
  (hval:∀(j:Nat) t v,Tryz.f3.params[j]?=some t→args[j]?=some v→Value.okWide Tryz.prog W .any base t v)
  (hW:DataW.Whole enc Tryz.prog Tryz.f3.params.toList Rows.manifestPlaysSpec.vars false W args.toList ds gs before) (hL:laidMet Tryz.prog laidList W) (hS:W.ShapedOpen Tryz.prog) :
  Calls Tryz.prog 3 args W λe W'=>∃v,e=.returned v∧((OpenSpec.ofChange Rows.manifestPlaysSpec).at F).post enc Tryz.prog Tryz.f3 false true false false W args v W':=by
 have A:=hW;obtain⟨p,q,o,L,rfl,P,O⟩:=hW;have D:DataW.TrodAll enc Tryz.prog W 0 (λ_=>true) true Tryz.f3.params.toList args.toList ds p:=o;rw[Tryz.params3]at D hval;obtain⟨K,M,rfl,rfl,h0⟩:=trodAll_one D;obtain⟨rfl,rfl⟩:=trodVars_none L;have J:∀x∈p,x.block<W.heap.size:=λx hx=>A.lt x (by simpa using hx)
 have Q:=λ(W':World) (hn:Below W.heap.size W W')=>Below.trod (t:=22) laidOut (by kernel_rfl) (of_decide_eq_true (by kernel_rfl)) h0 hn (λx hx=>J x hx)
 obtain⟨I,B,E,G⟩:=ops_of h0 (hval 0 22 K rfl rfl);clear o L D;have N:=env_of hL hS;refine (manifestPlays_any K I W W.heap.size N (Nat.le_refl _) B (by unfold maxLen at E;omega) G).mono ?_;rintro e W' ⟨rfl,bel⟩;have C:((OpenSpec.ofChange Rows.manifestPlaysSpec).at F).fn H ([M]++[])={ results:=[.lit (.bool true)],args:=[M] }:=rfl;refine⟨_,rfl,_,_,_,[],p,[],A,?_,?_,?_,bel.frame _,λh=>by cases h⟩
 ·rw[C];exact trodAll_mk1 (shut_bool Tryz.underlying4 _)
 ·rw[C];exact trodAll_mk1 (Q W' bel)
 ·rw[C];rfl
theorem reads (os:Os) {H:Type} (enc:TypeId×Value→H):∃places,DataW.whole enc Tryz.prog ((laidWorld os).forCall (λ_ _=>0) ⟨#[],#[.slice none 0 0],[]⟩).memory Tryz.f3.params.toList Rows.manifestPlaysSpec.vars false (#[.slice none 0 0]:Array Value).toList 8=some ([.nil],[],places) :=
 ⟨[],by kernel_rfl⟩
theorem lifted (os:Os) (started:os.Started) (H:Type) (enc:TypeId×Value→H) (F:Stop.Interp) :
  ReturnsInHanded {} Tryz.checked os 3 .any ((OpenSpec.ofChange Rows.manifestPlaysSpec).preRow enc Tryz.prog Tryz.f3 Rows.manifestPlaysRow.domain false Rows.manifestPlaysRow.laid) (((OpenSpec.ofChange Rows.manifestPlaysSpec).at F).post enc Tryz.prog Tryz.f3 false true false false):=by
 obtain⟨o,A⟩:=reads os enc;refine returnsInHanded_of_row (C:=Tryz.checked) (s:=OpenSpec.ofChange Rows.manifestPlaysSpec) own started (by kernel_rfl) Tryz.func3
  (witness_row_at (enc:=enc) (C:=Tryz.checked) false (laidWorld os) #[.slice none 0 0] rfl (by kernel_rfl) (by kernel_rfl) (by kernel_rfl)
   (OpenSpec.preRow_of_cond 8 A (by kernel_rfl) (λk hk=>by cases hk) (by kernel_rfl) (laid_met os _))) ?_
 intro W base args ds gs before hval hW _ _ _ hL hS _;exact contract H enc F W base args ds gs before hval hW hL hS
theorem said:Rows.ManifestPlaysSaid :=
 OpenClaim.holds_of_cond 3 Tryz.f3 rfl rfl rfl rfl rfl rfl rfl ⟨rfl,rfl,rfl,rfl,rfl⟩ rfl rfl rfl rfl rfl (by kernel_rfl) Tryz.func3 (by kernel_rfl)
  (of_decide_eq_true (by kernel_rfl)) (by unfold Func.isWrapper;first|(rw[if_pos (by decide +kernel)];kernel_rfl)|(rw[if_neg (by decide +kernel)];exact⟨rfl,rfl⟩))
  (λos started H enc _ F=>by rw[OpenClaim.pre_eq_preRow];exact lifted os started H enc F)
theorem plain (f : FuncId) (fn : Func) (hf : Tryz.pinned.checked.prog.funcNamed "rubric/rubriclaw05.ManifestPlays" = some f) (hfn : Tryz.pinned.checked.prog.funcs[f]? = some fn) :
  true=Tryz.pinned.checked.prog.looks []∧∀(j:Nat) t,fn.params[j]?=some t→Tryz.pinned.checked.prog.wantsStandIn t=false:=by
 obtain rfl : f = 3 := Option.some.inj ((show Tryz.prog.funcNamed "rubric/rubriclaw05.ManifestPlays" = some 3 by kernel_rfl).symm.trans hf) |>.symm;obtain rfl:fn=Tryz.f3:=(Option.some.inj (Tryz.func3.symm.trans hfn)).symm;refine ⟨by kernel_rfl,fun j t ht=>?_⟩;have o:(Tryz.f3.params.toList.all fun t=>!Tryz.prog.wantsStandIn t)=true:=by kernel_rfl
 have:=List.all_eq_true.1 o t (Array.mem_toList_iff.2 (Array.mem_of_getElem? ht));exact Bool.not_eq_true' _ |>.mp this
theorem card:Rows.ManifestPlaysCardSaid :=
 Claim7.holds_tied_plain_at .later [] _ _ _ _ said (λ_ h=>by cases h) (by kernel_rfl) (λ_ h=>by cases h) manifestPlays_row_tie rfl ⟨rfl,rfl⟩ (by kernel_rfl) rfl plain (by kernel_rfl)
end Go.Proofs.YtmlekglfdiacpaaGreatDoor.manifestPlays
