/-
  postilionlaw21.OverlayDown returns true for every input, and each argument reads as it read before: the row's step over the walk. Conditions: none.
-/
import Derived.Test.YtfndfpdhlbmboaaGreatMd32
import Derived.Test.YtfndfpdhlbmboaaGreatGrA
import Derived.Test.YtfndfpdhlbmboaaGreatGrB
import Derived.Test.YtfndfpdhlbmboaaGreatGrC
import Derived.Test.YtfndfpdhlbmboaaGreatGrD
import Derived.Test.YtfndfpdhlbmboaaGreatRows
import Derived.Test.YtfndfpdhlbmboaaGreatMdz
namespace Go.Proofs.YtfndfpdhlbmboaaGreat.overlayDown
open Go.ChangeShapes Go.WideShapes Go.ChangeAt Go.RowKit
set_option linter.unusedVariables false
theorem own:ownKnob Tryz.prog.godebug=none:=by kernel_rfl
theorem laidOut:laidOutB Tryz.prog=true:=ajN
set_option maxRecDepth 100000 in
theorem lifted(os:Os)(started:os.Started)(H:Type)(enc:TypeId×Value->H) :
 ReturnsInHanded {} Tryz.checked os 4 .any (Rows.overlayDownSpec.pre6 enc Tryz.prog Tryz.f4 Rows.overlayDownRow.domain false) (Rows.overlayDownSpec.post enc Tryz.prog Tryz.f4 false true false false):=by
 refine returnsInHanded_of_change (C:=Tryz.checked) own started fB Tryz.func4
  (ChangeSpec.witness6 (enc:=enc) (C:=Tryz.checked) false ⟨#[],#[.slice none 0 0,.slice none 0 0,.int .i64 0,.int .i64 0,.agg #[.int .i64 0,.int .u64 0,.int .u64 0]],[]⟩ 8 fB fB fB fB) ?_
 intro W base args ds gs before Q N hcnd _
 have y:∀(j:Nat) t v,Tryz.f4.params[j]?=some t->args[j]?=some v->Value.okWide Tryz.prog W .any base t v:=Q
 have hW':=N
 obtain⟨p,q,O,hV,rfl,hfz,xP⟩:=N
 have hA:DataW.TrodAll enc Tryz.prog W 0 (λ_=>true) true Tryz.f4.params.toList args.toList ds p:=O
 rw[Tryz.params4]at hA y
 obtain⟨A,vs0,d0,ds0,p0,q0,hargs,rfl,rfl,L,r0⟩:=trodAll_cons hA
 obtain⟨G,vs1,d1,ds1,p1,q1,rfl,rfl,rfl,F,V⟩:=trodAll_cons r0
 obtain⟨I,vs2,d2,ds2,p2,q2,rfl,rfl,rfl,J,Y⟩:=trodAll_cons V
 obtain⟨M,vs3,d3,ds3,p3,q3,rfl,rfl,rfl,B,r3⟩:=trodAll_cons Y
 obtain⟨E,vs4,d4,ds4,S,q4,rfl,rfl,rfl,D,r4⟩:=trodAll_cons r3
 obtain⟨rfl,rfl,rfl⟩:=trodAll_nil r4
 obtain rfl:args=#[A,G,I,M,E]:=by cases args;simp_all
 obtain⟨rfl,rfl⟩:=trodVars_none hV
 have T:∀x∈p0,x.block<W.heap.size:=by obtain⟨m,hm⟩:=L;exact DataW.trod_lt m _ _ _ hm
 have rp0:=adr (y 0 23 A rfl rfl) L
 have lt1:∀x∈p1,x.block<W.heap.size:=by obtain⟨m,hm⟩:=F;exact DataW.trod_lt m _ _ _ hm
 have rp1:=adr (y 1 23 G rfl rfl) F
 have U:∀x∈p2,x.block<W.heap.size:=by obtain⟨m,hm⟩:=J;exact DataW.trod_lt m _ _ _ hm
 have rp2:=adt (y 2 3 I rfl rfl) J
 have Z:∀x∈p3,x.block<W.heap.size:=by obtain⟨m,hm⟩:=B;exact DataW.trod_lt m _ _ _ hm
 have rp3:=adt (y 3 3 M rfl rfl) B
 have X:∀x∈S,x.block<W.heap.size:=by obtain⟨m,hm⟩:=D;exact DataW.trod_lt m _ _ _ hm
 have R:=avn (y 4 26 E rfl rfl) D
 clear O Q
 refine (aoE A G I M E W rp0 rp1 rp2 rp3 R).mono λe W' ⟨he,u⟩=>?_
 subst he
 exact⟨_,rfl,_,_,_,[],_,[],hW',trodAll_mk1 (shut_bool Tryz.underlying4 _),(trodAll_cons_mk (Below.trod laidOut fB (of_decide_eq_true fB) L u T) (trodAll_cons_mk (Below.trod laidOut fB (of_decide_eq_true fB) F u lt1) (trodAll_cons_mk (Below.trod laidOut fB (of_decide_eq_true fB) J u U) (trodAll_cons_mk (Below.trod laidOut fB (of_decide_eq_true fB) B u Z) (trodAll_cons_mk (Below.trod laidOut fB (of_decide_eq_true fB) D u X) trodAll_mk0))))),rfl,u.frame _,λh=>yC⟩
theorem gIn:(Rows.overlayDownRow.inPlace==Tryz.prog.inPlace 4)=true:=by kernel_rfl
theorem gUn:(Rows.overlayDownRow.unfollowed==Tryz.prog.unfollowed 4)=true:=by kernel_rfl
theorem gRe:(Rows.overlayDownRow.recurses==Tryz.prog.recurses 4)=true:=by kernel_rfl
theorem gNa:(Rows.overlayDownRow.named==Tryz.prog.varsNamed 4)=true:=by kernel_rfl
theorem gFn:Tryz.prog.funcNamed Rows.overlayDownRow.func=some 4:=by kernel_rfl
theorem gLi:(Rows.overlayDownRow.lifted==Tryz.prog.liftsFinal)=true:=by rw[ayV];kernel_rfl
theorem gMa:(Tryz.prog.make==some Rows.overlayDownRow.make)=true:=by rw[ayW];kernel_rfl
theorem closed:joinedFacts Tryz.prog 4 Tryz.f4 Rows.overlayDownSpec Rows.overlayDownRow=true:=by unfold joinedFacts;simp only[dC];exact⟨⟨⟨⟨⟨⟨⟨⟨⟨⟨⟨⟨⟨⟨⟨⟨⟨⟨⟨⟨⟨⟨⟨⟨⟨⟨⟨⟨⟨⟨⟨fB,ajN⟩,ayX⟩,fB⟩,fB⟩,fB⟩,fB⟩,fB⟩,fB⟩,gIn⟩,gUn⟩,gRe⟩,gNa⟩,fB⟩,fB⟩,fB⟩,fB⟩,fB⟩,fB⟩,fB⟩,fB⟩,fB⟩,fB⟩,fB⟩,fB⟩,ayc⟩,gLi⟩,gMa⟩,fB⟩,fB⟩,fB⟩,fB⟩
theorem over:Rows.overlayDownRow.holds Tryz.pinned (OpenSpec.ofChange Rows.overlayDownSpec) :=
 OpenClaim.holds_of_wide 4 Tryz.f4 rfl rfl rfl rfl rfl rfl rfl ⟨rfl,rfl,rfl,rfl,rfl⟩ rfl rfl rfl rfl rfl gFn Tryz.func4 closed
  (of_decide_eq_true fB) ax3
  (λos j H enc _=>lifted os j H enc)
theorem proved:Rows.OverlayDownSaid:=over
#print axioms proved
end Go.Proofs.YtfndfpdhlbmboaaGreat.overlayDown
