/-
  postilionlaw21.OverlayQuiet returns true for every input, and each argument reads as it read before: the row's step over the walk. Conditions: none.
-/
import Derived.Test.YtfndfpdhlbmboaaGreatMq14
import Derived.Test.YtfndfpdhlbmboaaGreatGrA
import Derived.Test.YtfndfpdhlbmboaaGreatGrB
import Derived.Test.YtfndfpdhlbmboaaGreatGrC
import Derived.Test.YtfndfpdhlbmboaaGreatGrD
import Derived.Test.YtfndfpdhlbmboaaGreatRows
import Derived.Test.YtfndfpdhlbmboaaGreatMqz
namespace Go.Proofs.YtfndfpdhlbmboaaGreat.overlayQuiet
open Go.ChangeShapes Go.WideShapes Go.ChangeAt Go.RowKit
set_option linter.unusedVariables false
theorem own:ownKnob Tryz.prog.godebug=none:=by kernel_rfl
theorem laidOut:laidOutB Tryz.prog=true:=ajR
set_option maxRecDepth 100000 in
theorem lifted(os:Os)(V:os.Started)(H:Type)(enc:TypeId×Value->H) :
 ReturnsInHanded {} Tryz.checked os 5 .any (Rows.overlayQuietSpec.pre6 enc Tryz.prog Tryz.f5 Rows.overlayQuietRow.domain false) (Rows.overlayQuietSpec.post enc Tryz.prog Tryz.f5 false true false false):=by
 refine returnsInHanded_of_change (C:=Tryz.checked) own V fo Tryz.func5
  (ChangeSpec.witness6 (enc:=enc) (C:=Tryz.checked) false ⟨#[],#[.slice none 0 0,.slice none 0 0,.slice none 0 0],[]⟩ 8 fo fo fo fo) ?_
 intro W base args ds gs before L I hcnd _
 have u:∀(j:Nat) t v,Tryz.f5.params[j]?=some t->args[j]?=some v->Value.okWide Tryz.prog W .any base t v:=L
 have hW':=I
 obtain⟨p,q,J,Q,rfl,hfz,EL⟩:=I
 have hA:DataW.TrodAll enc Tryz.prog W 0 (λ_=>true) true Tryz.f5.params.toList args.toList ds p:=J
 rw[Tryz.params5]at hA u
 obtain⟨F,vs0,d0,ds0,O,q0,hargs,rfl,rfl,D,Z⟩:=trodAll_cons hA
 obtain⟨A,vs1,d1,ds1,p1,q1,rfl,rfl,rfl,B,N⟩:=trodAll_cons Z
 obtain⟨G,vs2,d2,ds2,p2,q2,rfl,rfl,rfl,E,M⟩:=trodAll_cons N
 obtain⟨rfl,rfl,rfl⟩:=trodAll_nil M
 obtain rfl:args=#[F,A,G]:=by cases args;simp_all
 obtain⟨rfl,rfl⟩:=trodVars_none Q
 have S:∀x∈O,x.block<W.heap.size:=by obtain⟨m,hm⟩:=D;exact DataW.trod_lt m _ _ _ hm
 have T:=adj (u 0 23 F rfl rfl) D
 have R:∀x∈p1,x.block<W.heap.size:=by obtain⟨m,hm⟩:=B;exact DataW.trod_lt m _ _ _ hm
 have Y:=adj (u 1 23 A rfl rfl) B
 have U:∀x∈p2,x.block<W.heap.size:=by obtain⟨m,hm⟩:=E;exact DataW.trod_lt m _ _ _ hm
 have X:=apP (u 2 49 G rfl rfl) E
 clear J L
 refine (anV F A G W T Y X).mono λe W' ⟨he,y⟩=>?_
 subst he
 exact⟨_,rfl,_,_,_,[],_,[],hW',trodAll_mk1 (shut_bool Tryz.underlying4 _),(trodAll_cons_mk (Below.trod laidOut fo (of_decide_eq_true fo) D y S) (trodAll_cons_mk (Below.trod laidOut fo (of_decide_eq_true fo) B y R) (trodAll_cons_mk (Below.trod laidOut fo (of_decide_eq_true fo) E y U) trodAll_mk0))),rfl,y.frame _,λh=>yz⟩
theorem gIn:(Rows.overlayQuietRow.inPlace==Tryz.prog.inPlace 5)=true:=by kernel_rfl
theorem gUn:(Rows.overlayQuietRow.unfollowed==Tryz.prog.unfollowed 5)=true:=by kernel_rfl
theorem gRe:(Rows.overlayQuietRow.recurses==Tryz.prog.recurses 5)=true:=by kernel_rfl
theorem gNa:(Rows.overlayQuietRow.named==Tryz.prog.varsNamed 5)=true:=by kernel_rfl
theorem gFn:Tryz.prog.funcNamed Rows.overlayQuietRow.func=some 5:=by kernel_rfl
theorem gLi:(Rows.overlayQuietRow.lifted==Tryz.prog.liftsFinal)=true:=by rw[ayN];kernel_rfl
theorem gMa:(Tryz.prog.make==some Rows.overlayQuietRow.make)=true:=by rw[ayO];kernel_rfl
theorem closed:joinedFacts Tryz.prog 5 Tryz.f5 Rows.overlayQuietSpec Rows.overlayQuietRow=true:=by unfold joinedFacts;simp only[dz];exact⟨⟨⟨⟨⟨⟨⟨⟨⟨⟨⟨⟨⟨⟨⟨⟨⟨⟨⟨⟨⟨⟨⟨⟨⟨⟨⟨⟨⟨⟨⟨fo,ajR⟩,ayP⟩,fo⟩,fo⟩,fo⟩,fo⟩,fo⟩,fo⟩,gIn⟩,gUn⟩,gRe⟩,gNa⟩,fo⟩,fo⟩,fo⟩,fo⟩,fo⟩,fo⟩,fo⟩,fo⟩,fo⟩,fo⟩,fo⟩,fo⟩,ax4⟩,gLi⟩,gMa⟩,fo⟩,fo⟩,fo⟩,fo⟩
theorem over:Rows.overlayQuietRow.holds Tryz.pinned (OpenSpec.ofChange Rows.overlayQuietSpec) :=
 OpenClaim.holds_of_wide 5 Tryz.f5 rfl rfl rfl rfl rfl rfl rfl ⟨rfl,rfl,rfl,rfl,rfl⟩ rfl rfl rfl rfl rfl gFn Tryz.func5 closed
  (of_decide_eq_true fo) axQ
  (λos j H enc _=>lifted os j H enc)
theorem proved:Rows.OverlayQuietSaid:=over
#print axioms proved
end Go.Proofs.YtfndfpdhlbmboaaGreat.overlayQuiet
