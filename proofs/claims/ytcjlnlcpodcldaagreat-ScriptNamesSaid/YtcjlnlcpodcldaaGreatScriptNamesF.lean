/-
  postilionlaw22.ScriptNames returns true for every input, and each argument reads as it read before: the row's step over the walk. Conditions: none.
-/
import Derived.Test.YtcjlnlcpodcldaaGreatRows
import Derived.Test.YtcjlnlcpodcldaaGreatGrA
import Derived.Test.YtcjlnlcpodcldaaGreatGrB
import Derived.Test.YtcjlnlcpodcldaaGreatGrC
import Derived.Test.YtcjlnlcpodcldaaGreatGrD
import Derived.Test.YtcjlnlcpodcldaaGreatMu00
import Derived.Test.YtcjlnlcpodcldaaGreatMsz
namespace Go.Proofs.YtcjlnlcpodcldaaGreat.scriptNames
open Go.ChangeShapes Go.WideShapes Go.ChangeAt Go.RowKit
set_option linter.unusedVariables false
theorem own:ownKnob Tryz.prog.godebug=none:=by kernel_rfl
set_option maxRecDepth 100000 in
theorem lifted(os:Os)(N:os.Started)(H:Type)(enc:TypeId×Value->H) :
 ReturnsInHanded {} Tryz.checked os 3 .any (Rows.scriptNamesSpec.pre6 enc Tryz.prog Tryz.f3 Rows.scriptNamesRow.domain false) (Rows.scriptNamesSpec.post enc Tryz.prog Tryz.f3 false true false false):=by
 refine returnsInHanded_of_change (C:=Tryz.checked) own N dz Tryz.func3
  (ChangeSpec.witness6 (enc:=enc) (C:=Tryz.checked) false ⟨#[],#[],[]⟩ 8 dz dz dz dz) ?_
 intro W base args ds V T A y hcnd _
 have M:∀(j:Nat) t v,Tryz.f3.params[j]?=some t->args[j]?=some v->Value.okWide Tryz.prog W .any base t v:=A
 have O:=y
 obtain⟨p,q,z,B,rfl,S,X⟩:=y
 have hA:DataW.TrodAll enc Tryz.prog W 0 (λ_=>true) true Tryz.f3.params.toList args.toList ds p:=z
 rw[Tryz.params3]at hA M
 obtain⟨Y,rfl,rfl⟩:=trodAll_nil hA
 obtain rfl:args=#[]:=Tj
 obtain⟨rfl,rfl⟩:=trodVars_none B
 clear z A
 refine (arV  W).mono λe W' ⟨L,R⟩=>?_
 subst L
 exact⟨_,rfl,_,_,_,[],_,[],O,trodAll_mk1 (shut_bool Tryz.underlying4 _),trodAll_mk0,rfl,R.frame _,λh=>sH⟩
theorem Wf:(Rows.scriptNamesRow.inPlace==Tryz.prog.inPlace 3)=true:=by kernel_rfl
theorem Wg:(Rows.scriptNamesRow.unfollowed==Tryz.prog.unfollowed 3)=true:=by kernel_rfl
theorem Wh:(Rows.scriptNamesRow.recurses==Tryz.prog.recurses 3)=true:=by kernel_rfl
theorem Wk:(Rows.scriptNamesRow.named==Tryz.prog.varsNamed 3)=true:=by kernel_rfl
theorem JS:Tryz.prog.funcNamed Rows.scriptNamesRow.func=some 3:=by kernel_rfl
theorem Wl:(Rows.scriptNamesRow.lifted==Tryz.prog.liftsFinal)=true:=by rw[Oc];kernel_rfl
theorem Wm:(Tryz.prog.make==some Rows.scriptNamesRow.make)=true:=by rw[Od];kernel_rfl
theorem closed:joinedFacts Tryz.prog 3 Tryz.f3 Rows.scriptNamesSpec Rows.scriptNamesRow=true:=Tk
theorem over:Rows.scriptNamesRow.holds Tryz.pinned (OpenSpec.ofChange Rows.scriptNamesSpec) :=
 OpenClaim.holds_of_wide 3 Tryz.f3 rfl rfl rfl rfl rfl rfl rfl ⟨rfl,rfl,rfl,rfl,rfl⟩ rfl rfl rfl rfl rfl JS Tryz.func3 closed
  (of_decide_eq_true dz) Tm
  (λos j H enc _=>lifted os j H enc)
theorem proved:Rows.ScriptNamesSaid:=over
end Go.Proofs.YtcjlnlcpodcldaaGreat.scriptNames
