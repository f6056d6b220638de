/-
  postiliontop.TopJust returns true for every input, and each argument reads as it read before: the row's step over the walk. Conditions: none.
-/
import Derived.Test.YtcjlnlcpodcldaaGreatRows
import Derived.Test.YtcjlnlcpodcldaaGreatMs06
import Derived.Test.YtcjlnlcpodcldaaGreatGrA
import Derived.Test.YtcjlnlcpodcldaaGreatGrB
import Derived.Test.YtcjlnlcpodcldaaGreatGrC
import Derived.Test.YtcjlnlcpodcldaaGreatGrD
import Derived.Test.YtcjlnlcpodcldaaGreatMsz
namespace Go.Proofs.YtcjlnlcpodcldaaGreat.topJust
open Go.ChangeShapes Go.WideShapes Go.ChangeAt Go.RowKit
set_option linter.unusedVariables false
theorem own:ownKnob Tryz.prog.godebug=none:=by kernel_rfl
theorem laidOut:laidOutB Tryz.prog=true:=anI
set_option maxRecDepth 100000 in
theorem lifted(os:Os)(started:os.Started)(H:Type)(enc:TypeId×Value->H) :ReturnsInHanded {} Tryz.checked os 7 .any (Rows.topJustSpec.pre6 enc Tryz.prog Tryz.f7 Rows.topJustRow.domain false) (Rows.topJustSpec.post enc Tryz.prog Tryz.f7 false true false false):=by
 refine returnsInHanded_of_change (C:=Tryz.checked) own started gP Tryz.func7
  (ChangeSpec.witness6 (enc:=enc) (C:=Tryz.checked) false ⟨#[],#[.slice none 0 0,.slice none 0 0,.slice none 0 0],[]⟩ 8 gP gP gP gP) ?_
 intro W base y ds gs before S T hcnd _;have z:∀(j:Nat) t v,Tryz.f7.params[j]?=some t->y[j]?=some v->Value.okWide Tryz.prog W .any base t v:=S;have hW':=T;obtain⟨p,q,V,hV,rfl,hfz,Ek⟩:=T;have hA:DataW.TrodAll enc Tryz.prog W 0 (λ_=>true) true Tryz.f7.params.toList y.toList ds p:=V;rw[Tryz.params7]at hA z;obtain⟨R,vs0,d0,ds0,p0,q0,hargs,rfl,rfl,M,r0⟩:=trodAll_cons hA;obtain⟨O,vs1,d1,ds1,p1,q1,rfl,rfl,rfl,N,r1⟩:=trodAll_cons r0;obtain⟨Q,vs2,d2,ds2,p2,q2,rfl,rfl,rfl,B,r2⟩:=trodAll_cons r1;obtain⟨rfl,rfl,rfl⟩:=trodAll_nil r2;obtain rfl:y=#[R,O,Q]:=by cases y;simp_all
 obtain⟨rfl,rfl⟩:=trodVars_none hV;have X:∀x∈p0,x.block<W.heap.size:=by obtain⟨m,hm⟩:=M;exact DataW.trod_lt m _ _ _ hm
 have rp0:=agx (z 0 23 R rfl rfl) M;have lt1:∀x∈p1,x.block<W.heap.size:=by obtain⟨m,hm⟩:=N;exact DataW.trod_lt m _ _ _ hm
 have rp1:=agx (z 1 23 O rfl rfl) N;have lt2:∀x∈p2,x.block<W.heap.size:=by obtain⟨m,hm⟩:=B;exact DataW.trod_lt m _ _ _ hm
 have Y:=atD (z 2 48 Q rfl rfl) B;clear V S;refine (auu R O Q W rp0 rp1 Y).mono λe W' ⟨he,A⟩=>?_
 subst he;exact⟨_,rfl,_,_,_,[],_,[],hW',trodAll_mk1 (shut_bool Tryz.underlying4 _),(trodAll_cons_mk (Below.trod laidOut gP (of_decide_eq_true gP) M A X) (trodAll_cons_mk (Below.trod laidOut gP (of_decide_eq_true gP) N A lt1) (trodAll_cons_mk (Below.trod laidOut gP (of_decide_eq_true gP) B A lt2) trodAll_mk0))),rfl,A.frame _,λh=>kP⟩
theorem gIn:(Rows.topJustRow.inPlace==Tryz.prog.inPlace 7)=true:=by kernel_rfl
theorem gUn:(Rows.topJustRow.unfollowed==Tryz.prog.unfollowed 7)=true:=by kernel_rfl
theorem gRe:(Rows.topJustRow.recurses==Tryz.prog.recurses 7)=true:=by kernel_rfl
theorem gNa:(Rows.topJustRow.named==Tryz.prog.varsNamed 7)=true:=by kernel_rfl
theorem gFn:Tryz.prog.funcNamed Rows.topJustRow.func=some 7:=by kernel_rfl
theorem gLi:(Rows.topJustRow.lifted==Tryz.prog.liftsFinal)=true:=by rw[aDr];kernel_rfl
theorem gMa:(Tryz.prog.make==some Rows.topJustRow.make)=true:=by rw[aDs];kernel_rfl
theorem closed:joinedFacts Tryz.prog 7 Tryz.f7 Rows.topJustSpec Rows.topJustRow=true:=by unfold joinedFacts;simp only[fI];exact⟨⟨⟨⟨⟨⟨⟨⟨⟨⟨⟨⟨⟨⟨⟨⟨⟨⟨⟨⟨⟨⟨⟨⟨⟨⟨⟨⟨⟨⟨⟨gP,anI⟩,aDt⟩,gP⟩,gP⟩,gP⟩,gP⟩,gP⟩,gP⟩,gIn⟩,gUn⟩,gRe⟩,gNa⟩,gP⟩,gP⟩,gP⟩,gP⟩,gP⟩,gP⟩,gP⟩,gP⟩,gP⟩,gP⟩,gP⟩,gP⟩,aCE⟩,gLi⟩,gMa⟩,gP⟩,gP⟩,gP⟩,gP⟩
theorem over:Rows.topJustRow.holds Tryz.pinned (OpenSpec.ofChange Rows.topJustSpec) :=
 OpenClaim.holds_of_wide 7 Tryz.f7 rfl rfl rfl rfl rfl rfl rfl ⟨rfl,rfl,rfl,rfl,rfl⟩ rfl rfl rfl rfl rfl gFn Tryz.func7 closed
  (of_decide_eq_true gP) aCs
  (λos j H t _=>lifted os j H t)
theorem proved:Rows.TopJustSaid:=over
#print axioms proved
end Go.Proofs.YtcjlnlcpodcldaaGreat.topJust
