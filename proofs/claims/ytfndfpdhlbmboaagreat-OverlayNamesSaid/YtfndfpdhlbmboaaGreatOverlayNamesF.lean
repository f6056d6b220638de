/-
  postilionlaw21.OverlayNames returns true for every input, and each argument reads as it read before: the row's step over the walk. Conditions: none.
-/
import Derived.Test.YtfndfpdhlbmboaaGreatMa31
import Derived.Test.YtfndfpdhlbmboaaGreatGrA
import Derived.Test.YtfndfpdhlbmboaaGreatGrB
import Derived.Test.YtfndfpdhlbmboaaGreatGrC
import Derived.Test.YtfndfpdhlbmboaaGreatGrD
import Derived.Test.YtfndfpdhlbmboaaGreatRows
import Derived.Test.YtfndfpdhlbmboaaGreatMz
namespace Go.Proofs.YtfndfpdhlbmboaaGreat.overlayNames
open Go.ChangeShapes Go.WideShapes Go.ChangeAt Go.RowKit
set_option linter.unusedVariables false
theorem own:ownKnob Tryz.prog.godebug=none:=by kernel_rfl
theorem laidOut:laidOutB Tryz.prog=true:=XE
set_option maxRecDepth 100000 in
theorem lifted(os:Os)(D:os.Started)(H:Type)(enc:TypeId×Value->H) :
 ReturnsInHanded {} Tryz.checked os 3 .any (Rows.overlayNamesSpec.pre6 enc Tryz.prog Tryz.f3 Rows.overlayNamesRow.domain false) (Rows.overlayNamesSpec.post enc Tryz.prog Tryz.f3 false true false false):=by
 refine returnsInHanded_of_change (C:=Tryz.checked) own D ef Tryz.func3
  (ChangeSpec.witness6 (enc:=enc) (C:=Tryz.checked) false ⟨#[],#[],[]⟩ 8 ef ef ef ef) ?_
 intro W base args ds J Q y A L _
 have F:∀(j:Nat) t v,Tryz.f3.params[j]?=some t->args[j]?=some v->Value.okWide Tryz.prog W .any base t v:=y
 have E:=A
 obtain⟨p,q,u,B,rfl,N,M⟩:=A
 have hA:DataW.TrodAll enc Tryz.prog W 0 (λ_=>true) true Tryz.f3.params.toList args.toList ds p:=u
 rw[Tryz.params3]at hA F
 obtain⟨O,rfl,rfl⟩:=trodAll_nil hA
 obtain rfl:args=#[]:=by cases args;simp_all
 obtain⟨rfl,rfl⟩:=trodVars_none B
 clear u y
 refine (aoa  W).mono λe W' ⟨G,I⟩=>?_
 subst G
 exact⟨_,rfl,_,_,_,[],_,[],E,trodAll_mk1 (shut_bool Tryz.underlying4 _),trodAll_mk0,rfl,I.frame _,λh=>wR⟩
theorem gIn:(Rows.overlayNamesRow.inPlace==Tryz.prog.inPlace 3)=true:=by kernel_rfl
theorem gUn:(Rows.overlayNamesRow.unfollowed==Tryz.prog.unfollowed 3)=true:=by kernel_rfl
theorem gRe:(Rows.overlayNamesRow.recurses==Tryz.prog.recurses 3)=true:=by kernel_rfl
theorem gNa:(Rows.overlayNamesRow.named==Tryz.prog.varsNamed 3)=true:=by kernel_rfl
theorem gFn:Tryz.prog.funcNamed Rows.overlayNamesRow.func=some 3:=by kernel_rfl
theorem gLi:(Rows.overlayNamesRow.lifted==Tryz.prog.liftsFinal)=true:=by rw[ajs];kernel_rfl
theorem gMa:(Tryz.prog.make==some Rows.overlayNamesRow.make)=true:=by rw[ajt];kernel_rfl
theorem closed:joinedFacts Tryz.prog 3 Tryz.f3 Rows.overlayNamesSpec Rows.overlayNamesRow=true:=aiZ
theorem over:Rows.overlayNamesRow.holds Tryz.pinned (OpenSpec.ofChange Rows.overlayNamesSpec) :=
 OpenClaim.holds_of_wide 3 Tryz.f3 rfl rfl rfl rfl rfl rfl rfl ⟨rfl,rfl,rfl,rfl,rfl⟩ rfl rfl rfl rfl rfl gFn Tryz.func3 closed
  (of_decide_eq_true ef) ai0
  (λos j H enc _=>lifted os j H enc)
theorem proved:Rows.OverlayNamesSaid:=over
#print axioms proved
end Go.Proofs.YtfndfpdhlbmboaaGreat.overlayNames
