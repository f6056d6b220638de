/-
  postilionlaw21.OverlayNil returns true for every input, and each argument reads as it read before: the row's step over the walk. Conditions: none.
-/
import Derived.Test.YtfndfpdhlbmboaaGreatGrA
import Derived.Test.YtfndfpdhlbmboaaGreatGrB
import Derived.Test.YtfndfpdhlbmboaaGreatGrC
import Derived.Test.YtfndfpdhlbmboaaGreatGrD
import Derived.Test.YtfndfpdhlbmboaaGreatMa37
import Derived.Test.YtfndfpdhlbmboaaGreatRows
import Derived.Test.YtfndfpdhlbmboaaGreatMz
namespace Go.Proofs.YtfndfpdhlbmboaaGreat.overlayNil
open Go.ChangeShapes Go.WideShapes Go.ChangeAt Go.RowKit
set_option linter.unusedVariables false
theorem own:ownKnob Tryz.prog.godebug=none:=by kernel_rfl
theorem laidOut:laidOutB Tryz.prog=true:=XE
set_option maxRecDepth 100000 in
theorem lifted(os:Os)(N:os.Started)(H:Type)(enc:TypeId×Value->H) :
 ReturnsInHanded {} Tryz.checked os 7 .any (Rows.overlayNilSpec.pre6 enc Tryz.prog Tryz.f7 Rows.overlayNilRow.domain false) (Rows.overlayNilSpec.post enc Tryz.prog Tryz.f7 false true false false):=by
 refine returnsInHanded_of_change (C:=Tryz.checked) own N ef Tryz.func7
  (ChangeSpec.witness6 (enc:=enc) (C:=Tryz.checked) false ⟨#[],#[.int .i64 0,.agg #[.int .i64 0,.int .u64 0,.int .u64 0]],[]⟩ 8 ef ef ef ef) ?_
 intro W base args ds gs before F G hcnd _
 have y:∀(j:Nat) t v,Tryz.f7.params[j]?=some t->args[j]?=some v->Value.okWide Tryz.prog W .any base t v:=F
 have V:=G
 obtain⟨p,q,I,R,rfl,hfz,Y⟩:=G
 have hA:DataW.TrodAll enc Tryz.prog W 0 (λ_=>true) true Tryz.f7.params.toList args.toList ds p:=I
 rw[Tryz.params7]at hA y
 obtain⟨D,X,d0,Z,U,q0,hargs,rfl,rfl,u,J⟩:=trodAll_cons hA
 obtain⟨B,vs1,d1,ds1,p1,q1,rfl,rfl,rfl,A,O⟩:=trodAll_cons J
 obtain⟨rfl,rfl,rfl⟩:=trodAll_nil O
 obtain rfl:args=#[D,B]:=by cases args;simp_all
 obtain⟨rfl,rfl⟩:=trodVars_none R
 have L:∀x∈U,x.block<W.heap.size:=by obtain⟨m,hm⟩:=u;exact DataW.trod_lt m _ _ _ hm
 have M:=asv (y 0 3 D rfl rfl) u
 have S:∀x∈p1,x.block<W.heap.size:=by obtain⟨m,hm⟩:=A;exact DataW.trod_lt m _ _ _ hm
 have Q:=auQ (y 1 26 B rfl rfl) A
 clear I F
 refine (aoq D B W M Q).mono λe W' ⟨T,E⟩=>?_
 subst T
 exact⟨_,rfl,_,_,_,[],_,[],V,trodAll_mk1 (shut_bool Tryz.underlying4 _),(trodAll_cons_mk (Below.trod laidOut ef (of_decide_eq_true ef) u E L) (trodAll_cons_mk (Below.trod laidOut ef (of_decide_eq_true ef) A E S) trodAll_mk0)),rfl,E.frame _,λh=>wR⟩
theorem gIn:(Rows.overlayNilRow.inPlace==Tryz.prog.inPlace 7)=true:=by kernel_rfl
theorem gUn:(Rows.overlayNilRow.unfollowed==Tryz.prog.unfollowed 7)=true:=by kernel_rfl
theorem gRe:(Rows.overlayNilRow.recurses==Tryz.prog.recurses 7)=true:=by kernel_rfl
theorem gNa:(Rows.overlayNilRow.named==Tryz.prog.varsNamed 7)=true:=by kernel_rfl
theorem gFn:Tryz.prog.funcNamed Rows.overlayNilRow.func=some 7:=by kernel_rfl
theorem gLi:(Rows.overlayNilRow.lifted==Tryz.prog.liftsFinal)=true:=by rw[ajs];kernel_rfl
theorem gMa:(Tryz.prog.make==some Rows.overlayNilRow.make)=true:=by rw[ajt];kernel_rfl
theorem closed:joinedFacts Tryz.prog 7 Tryz.f7 Rows.overlayNilSpec Rows.overlayNilRow=true:=aiZ
theorem over:Rows.overlayNilRow.holds Tryz.pinned (OpenSpec.ofChange Rows.overlayNilSpec) :=
 OpenClaim.holds_of_wide 7 Tryz.f7 rfl rfl rfl rfl rfl rfl rfl ⟨rfl,rfl,rfl,rfl,rfl⟩ rfl rfl rfl rfl rfl gFn Tryz.func7 closed
  (of_decide_eq_true ef) ai0
  (λos j H enc _=>lifted os j H enc)
theorem proved:Rows.OverlayNilSaid:=over
#print axioms proved
end Go.Proofs.YtfndfpdhlbmboaaGreat.overlayNil
