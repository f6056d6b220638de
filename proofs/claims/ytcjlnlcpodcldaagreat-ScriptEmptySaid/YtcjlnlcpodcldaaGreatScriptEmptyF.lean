/-
  postilionlaw22.ScriptEmpty returns true for every input, and each argument reads as it read before: the row's step over the walk. Conditions: none.
-/
import Derived.Test.YtcjlnlcpodcldaaGreatRows
import Derived.Test.YtcjlnlcpodcldaaGreatGrA
import Derived.Test.YtcjlnlcpodcldaaGreatGrB
import Derived.Test.YtcjlnlcpodcldaaGreatGrC
import Derived.Test.YtcjlnlcpodcldaaGreatGrD
import Derived.Test.YtcjlnlcpodcldaaGreatMw00
import Derived.Test.YtcjlnlcpodcldaaGreatMsz
namespace Go.Proofs.YtcjlnlcpodcldaaGreat.scriptEmpty
open Go.ChangeShapes Go.WideShapes Go.ChangeAt Go.RowKit
set_option linter.unusedVariables false
theorem own:ownKnob Tryz.prog.godebug=none:=by kernel_rfl
theorem laidOut:laidOutB Tryz.prog=true:=Ty
set_option maxRecDepth 100000 in
theorem lifted(os:Os)(started:os.Started)(H:Type)(enc:TypeId×Value->H) :
 ReturnsInHanded {} Tryz.checked os 6 .any (Rows.scriptEmptySpec.pre6 enc Tryz.prog Tryz.f6 Rows.scriptEmptyRow.domain false) (Rows.scriptEmptySpec.post enc Tryz.prog Tryz.f6 false true false false):=by
 refine returnsInHanded_of_change (C:=Tryz.checked) own started dz Tryz.func6
  (ChangeSpec.witness6 (enc:=enc) (C:=Tryz.checked) false ⟨#[],#[.slice none 0 0,.slice none 0 0,.slice none 0 0],[]⟩ 8 dz dz dz dz) ?_
 intro W base args ds gs before M N hcnd _
 have z:∀(j:Nat) t v,Tryz.f6.params[j]?=some t->args[j]?=some v->Value.okWide Tryz.prog W .any base t v:=M
 have S:=N
 obtain⟨p,q,O,R,rfl,hfz,BQ⟩:=N
 have hA:DataW.TrodAll enc Tryz.prog W 0 (λ_=>true) true Tryz.f6.params.toList args.toList ds p:=O
 rw[Tryz.params6]at hA z
 obtain⟨B,vs0,d0,ds0,p0,q0,hargs,rfl,rfl,h0,r0⟩:=trodAll_cons hA
 obtain⟨A,vs1,d1,ds1,p1,q1,rfl,rfl,rfl,h1,V⟩:=trodAll_cons r0
 obtain⟨L,vs2,d2,ds2,p2,q2,rfl,rfl,rfl,h2,r2⟩:=trodAll_cons V
 obtain⟨rfl,rfl,rfl⟩:=trodAll_nil r2
 obtain rfl:args=#[B,A,L]:=Tj
 obtain⟨rfl,rfl⟩:=trodVars_none R
 have T:∀x∈p0,x.block<W.heap.size:=aao
 have QD:=J2 (z 0 23 B rfl rfl) h0
 have Y:∀x∈p1,x.block<W.heap.size:=aap
 have QF:=J2 (z 1 23 A rfl rfl) h1
 have X:∀x∈p2,x.block<W.heap.size:=aaq
 have QH:=XC (z 2 25 L rfl rfl) h2
 clear O M
 refine (arW B A L W QD QF QH).mono λe W' ⟨he,y⟩=>?_
 subst he
 exact⟨_,rfl,_,_,_,[],_,[],S,trodAll_mk1 (shut_bool Tryz.underlying4 _),(trodAll_cons_mk (Below.trod laidOut dz (of_decide_eq_true dz) h0 y T) (trodAll_cons_mk (Below.trod laidOut dz (of_decide_eq_true dz) h1 y Y) (trodAll_cons_mk (Below.trod laidOut dz (of_decide_eq_true dz) h2 y X) trodAll_mk0))),rfl,y.frame _,λh=>sH⟩
theorem Wf:(Rows.scriptEmptyRow.inPlace==Tryz.prog.inPlace 6)=true:=by kernel_rfl
theorem Wg:(Rows.scriptEmptyRow.unfollowed==Tryz.prog.unfollowed 6)=true:=by kernel_rfl
theorem Wh:(Rows.scriptEmptyRow.recurses==Tryz.prog.recurses 6)=true:=by kernel_rfl
theorem Wk:(Rows.scriptEmptyRow.named==Tryz.prog.varsNamed 6)=true:=by kernel_rfl
theorem JS:Tryz.prog.funcNamed Rows.scriptEmptyRow.func=some 6:=by kernel_rfl
theorem Wl:(Rows.scriptEmptyRow.lifted==Tryz.prog.liftsFinal)=true:=by rw[Oc];kernel_rfl
theorem Wm:(Tryz.prog.make==some Rows.scriptEmptyRow.make)=true:=by rw[Od];kernel_rfl
theorem closed:joinedFacts Tryz.prog 6 Tryz.f6 Rows.scriptEmptySpec Rows.scriptEmptyRow=true:=Tk
theorem over:Rows.scriptEmptyRow.holds Tryz.pinned (OpenSpec.ofChange Rows.scriptEmptySpec) :=
 OpenClaim.holds_of_wide 6 Tryz.f6 rfl rfl rfl rfl rfl rfl rfl ⟨rfl,rfl,rfl,rfl,rfl⟩ rfl rfl rfl rfl rfl JS Tryz.func6 closed
  (of_decide_eq_true dz) Tm
  (λos j H enc _=>lifted os j H enc)
theorem proved:Rows.ScriptEmptySaid:=over
end Go.Proofs.YtcjlnlcpodcldaaGreat.scriptEmpty
