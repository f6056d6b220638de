/-
  postilionlaw20.BrokerNames returns true for every input, and each argument reads as it read before: the row's step over the walk. Conditions: none.
-/
import Derived.Test.YtagfakjifhdpgaaGreatMa33
import Derived.Test.YtagfakjifhdpgaaGreatGrA
import Derived.Test.YtagfakjifhdpgaaGreatGrB
import Derived.Test.YtagfakjifhdpgaaGreatGrC
import Derived.Test.YtagfakjifhdpgaaGreatGrD
import Derived.Test.YtagfakjifhdpgaaGreatRows
namespace Go.Proofs.YtagfakjifhdpgaaGreat.brokerNames
open Go.ChangeShapes Go.WideShapes Go.ChangeAt Go.RowKit
set_option linter.unusedVariables false
theorem own:ownKnob Tryz.prog.godebug=none:=by kernel_rfl
set_option maxRecDepth 100000 in
theorem lifted (os:Os) (started:os.Started) (H:Type) (enc:TypeId×Value->H) :
 ReturnsInHanded {} Tryz.checked os 3 .any (Rows.brokerNamesSpec.pre6 enc Tryz.prog Tryz.f3 Rows.brokerNamesRow.domain false) (Rows.brokerNamesSpec.post enc Tryz.prog Tryz.f3 false true false false):=by
 refine returnsInHanded_of_change (C:=Tryz.checked) own started (by kernel_rfl) Tryz.func3
  (ChangeSpec.witness6 (enc:=enc) (C:=Tryz.checked) false ⟨#[],#[],[]⟩ 8 (by kernel_rfl) (by kernel_rfl) (by kernel_rfl) (by kernel_rfl)) ?_
 intro W base args ds gs before hval0 hW hcnd _
 have hval:∀ (j:Nat) t v,Tryz.f3.params[j]?=some t->args[j]?=some v->Value.okWide Tryz.prog W .any base t v:=hval0
 have hW':=hW
 obtain⟨p,q,hA0,hV,rfl,hfz,hnd⟩:=hW
 have hA:DataW.TrodAll enc Tryz.prog W 0 (fun _=>true) true Tryz.f3.params.toList args.toList ds p:=hA0
 rw[Tryz.params3] at hA hval
 obtain⟨hargs,rfl,rfl⟩:=trodAll_nil hA
 obtain rfl:args=#[]:=by cases args;simp_all
 obtain⟨rfl,rfl⟩:=trodVars_none hV
 clear hA0 hval0
 refine (BrokerNames_walk  W).mono fun e W' ⟨he,bel⟩=>?_
 subst he
 exact⟨_,rfl,_,_,_,[],_,[],hW',trodAll_mk1 (shut_bool Tryz.underlying4 _),trodAll_mk0,rfl,bel.frame _,fun h=>by cases h⟩
theorem gIn:(Rows.brokerNamesRow.inPlace==Tryz.prog.inPlace 3)=true:=by kernel_rfl
theorem gUn:(Rows.brokerNamesRow.unfollowed==Tryz.prog.unfollowed 3)=true:=by kernel_rfl
theorem gRe:(Rows.brokerNamesRow.recurses==Tryz.prog.recurses 3)=true:=by kernel_rfl
theorem gNa:(Rows.brokerNamesRow.named==Tryz.prog.varsNamed 3)=true:=by kernel_rfl
theorem gFn:Tryz.prog.funcNamed Rows.brokerNamesRow.func=some 3:=by kernel_rfl
theorem gLi:(Rows.brokerNamesRow.lifted==Tryz.prog.liftsFinal)=true:=by rw[gLift];kernel_rfl
theorem gMa:(Tryz.prog.make==some Rows.brokerNamesRow.make)=true:=by rw[gMake];kernel_rfl
theorem closed:joinedFacts Tryz.prog 3 Tryz.f3 Rows.brokerNamesSpec Rows.brokerNamesRow=true:=by
 unfold joinedFacts
 simp only[Bool.and_eq_true]
 exact⟨⟨⟨⟨⟨⟨⟨⟨⟨⟨⟨⟨⟨⟨⟨⟨⟨⟨⟨⟨⟨⟨⟨⟨⟨⟨⟨⟨⟨⟨⟨by kernel_rfl,gLaid⟩,gMaps⟩,by kernel_rfl⟩,by kernel_rfl⟩,by kernel_rfl⟩,by kernel_rfl⟩,by kernel_rfl⟩,by kernel_rfl⟩,gIn⟩,gUn⟩,gRe⟩,gNa⟩,by kernel_rfl⟩,by kernel_rfl⟩,by kernel_rfl⟩,by kernel_rfl⟩,by kernel_rfl⟩,by kernel_rfl⟩,by kernel_rfl⟩,by kernel_rfl⟩,by kernel_rfl⟩,by kernel_rfl⟩,by kernel_rfl⟩,by kernel_rfl⟩,gEnter⟩,gLi⟩,gMa⟩,by kernel_rfl⟩,by kernel_rfl⟩,by kernel_rfl⟩,by kernel_rfl⟩
theorem over:Rows.brokerNamesRow.holds Tryz.pinned (OpenSpec.ofChange Rows.brokerNamesSpec) :=
 OpenClaim.holds_of_wide 3 Tryz.f3 rfl rfl rfl rfl rfl rfl rfl ⟨rfl,rfl,rfl,rfl,rfl⟩ rfl rfl rfl rfl rfl gFn Tryz.func3 closed
  (of_decide_eq_true (by kernel_rfl)) (by unfold Func.isWrapper;first|(rw[if_pos (by decide +kernel)];kernel_rfl)|(rw[if_neg (by decide +kernel)];exact⟨rfl,rfl⟩))
  (fun os started H enc _=>lifted os started H enc)
theorem proved:Rows.BrokerNamesSaid:=over
#print axioms proved
end Go.Proofs.YtagfakjifhdpgaaGreat.brokerNames
