/-
  postilionlaw20.BrokerGrows returns true for every input, and each argument reads as it read before: the row's step over the walk. Conditions: none.
-/
import Derived.Test.YtoeiinllelipoaaGreatMa32
import Derived.Test.YtoeiinllelipoaaGreatGrA
import Derived.Test.YtoeiinllelipoaaGreatGrB
import Derived.Test.YtoeiinllelipoaaGreatGrC
import Derived.Test.YtoeiinllelipoaaGreatGrD
import Derived.Test.YtoeiinllelipoaaGreatRows
import Derived.Test.YtoeiinllelipoaaGreatMz
namespace Go.Proofs.YtoeiinllelipoaaGreat.brokerGrows
open Go.ChangeShapes Go.WideShapes Go.ChangeAt Go.RowKit
set_option linter.unusedVariables false
theorem own:ownKnob Tryz.prog.godebug=none:=by kernel_rfl
theorem laidOut:laidOutB Tryz.prog=true:=ajO
set_option maxRecDepth 100000 in
theorem lifted(os:Os)(started:os.Started)(H:Type)(enc:TypeId×Value->H) :
 ReturnsInHanded {} Tryz.checked os 4 .any (Rows.brokerGrowsSpec.pre6 enc Tryz.prog Tryz.f4 Rows.brokerGrowsRow.domain false) (Rows.brokerGrowsSpec.post enc Tryz.prog Tryz.f4 false true false false):=by
 refine returnsInHanded_of_change (C:=Tryz.checked) own started ak Tryz.func4
  (ChangeSpec.witness6 (enc:=enc) (C:=Tryz.checked) false ⟨#[],#[.int .i64 0,.slice none 0 0,.slice none 0 0,.slice none 0 0,.int .i64 0,.agg #[.int .i64 0,.int .u64 0,.slice none 0 0,.slice none 0 0,.slice none 0 0,.slice none 0 0,.slice none 0 0,.slice none 0 0]],[]⟩ 8 ak ak ak ak) ?_
 intro W base u ds gs before O R hcnd _
 have s:∀(j:Nat) t v,Tryz.f4.params[j]?=some t->u[j]?=some v->Value.okWide Tryz.prog W .any base t v:=O
 have Y:=R
 obtain⟨p,q,S,hV,rfl,hfz,hnd⟩:=R
 have Q:DataW.TrodAll enc Tryz.prog W 0 (λ_=>true) true Tryz.f4.params.toList u.toList ds p:=S
 rw[Tryz.params4]at Q s
 obtain⟨M,vs0,d0,ds0,p0,q0,hargs,rfl,rfl,G,r0⟩:=trodAll_cons Q
 obtain⟨F,vs1,d1,ds1,p1,q1,rfl,rfl,rfl,N,r1⟩:=trodAll_cons r0
 obtain⟨A,vs2,d2,ds2,p2,q2,rfl,rfl,rfl,y,r2⟩:=trodAll_cons r1
 obtain⟨D,vs3,d3,ds3,p3,q3,rfl,rfl,rfl,B,r3⟩:=trodAll_cons r2
 obtain⟨I,vs4,d4,ds4,Z,q4,rfl,rfl,rfl,J,r4⟩:=trodAll_cons r3
 obtain⟨E,vs5,d5,ds5,p5,q5,rfl,rfl,rfl,L,V⟩:=trodAll_cons r4
 obtain⟨rfl,rfl,rfl⟩:=trodAll_nil V
 obtain rfl:u=#[M,F,A,D,I,E]:=by cases u;simp_all
 obtain⟨rfl,rfl⟩:=trodVars_none hV
 have lt0:∀x∈p0,x.block<W.heap.size:=by obtain⟨m,hm⟩:=G;exact DataW.trod_lt m _ _ _ hm
 have rp0:=acn (s 0 3 M rfl rfl) G
 have lt1:∀x∈p1,x.block<W.heap.size:=by obtain⟨m,hm⟩:=N;exact DataW.trod_lt m _ _ _ hm
 have rp1:=abK (s 1 22 F rfl rfl) N
 have U:∀x∈p2,x.block<W.heap.size:=by obtain⟨m,hm⟩:=y;exact DataW.trod_lt m _ _ _ hm
 have rp2:=abK (s 2 22 A rfl rfl) y
 have T:∀x∈p3,x.block<W.heap.size:=by obtain⟨m,hm⟩:=B;exact DataW.trod_lt m _ _ _ hm
 have rp3:=ao3 (s 3 23 D rfl rfl) B
 have X:∀x∈Z,x.block<W.heap.size:=by obtain⟨m,hm⟩:=J;exact DataW.trod_lt m _ _ _ hm
 have rp4:=acn (s 4 3 I rfl rfl) J
 have lt5:∀x∈p5,x.block<W.heap.size:=by obtain⟨m,hm⟩:=L;exact DataW.trod_lt m _ _ _ hm
 have rp5:=asc (s 5 41 E rfl rfl) L
 clear S O
 refine (an4 M F A D I E W rp0 rp1 rp2 rp3 rp4 rp5).mono λe W' ⟨he,i⟩=>?_
 subst he
 exact⟨_,rfl,_,_,_,[],_,[],Y,trodAll_mk1 (shut_bool Tryz.underlying4 _),(trodAll_cons_mk (Below.trod laidOut ak (of_decide_eq_true ak) G i lt0) (trodAll_cons_mk (Below.trod laidOut ak (of_decide_eq_true ak) N i lt1) (trodAll_cons_mk (Below.trod laidOut ak (of_decide_eq_true ak) y i U) (trodAll_cons_mk (Below.trod laidOut ak (of_decide_eq_true ak) B i T) (trodAll_cons_mk (Below.trod laidOut ak (of_decide_eq_true ak) J i X) (trodAll_cons_mk (Below.trod laidOut ak (of_decide_eq_true ak) L i lt5) trodAll_mk0)))))),rfl,i.frame _,λh=>vR⟩
theorem gIn:(Rows.brokerGrowsRow.inPlace==Tryz.prog.inPlace 4)=true:=by kernel_rfl
theorem gUn:(Rows.brokerGrowsRow.unfollowed==Tryz.prog.unfollowed 4)=true:=by kernel_rfl
theorem gRe:(Rows.brokerGrowsRow.recurses==Tryz.prog.recurses 4)=true:=by kernel_rfl
theorem gNa:(Rows.brokerGrowsRow.named==Tryz.prog.varsNamed 4)=true:=by kernel_rfl
theorem gFn:Tryz.prog.funcNamed Rows.brokerGrowsRow.func=some 4:=by kernel_rfl
theorem gLi:(Rows.brokerGrowsRow.lifted==Tryz.prog.liftsFinal)=true:=by rw[axA];kernel_rfl
theorem gMa:(Tryz.prog.make==some Rows.brokerGrowsRow.make)=true:=by rw[axB];kernel_rfl
theorem closed:joinedFacts Tryz.prog 4 Tryz.f4 Rows.brokerGrowsSpec Rows.brokerGrowsRow=true:=by unfold joinedFacts;simp only[cz];exact⟨⟨⟨⟨⟨⟨⟨⟨⟨⟨⟨⟨⟨⟨⟨⟨⟨⟨⟨⟨⟨⟨⟨⟨⟨⟨⟨⟨⟨⟨⟨ak,ajO⟩,axC⟩,ak⟩,ak⟩,ak⟩,ak⟩,ak⟩,ak⟩,gIn⟩,gUn⟩,gRe⟩,gNa⟩,ak⟩,ak⟩,ak⟩,ak⟩,ak⟩,ak⟩,ak⟩,ak⟩,ak⟩,ak⟩,ak⟩,ak⟩,awU⟩,gLi⟩,gMa⟩,ak⟩,ak⟩,ak⟩,ak⟩
theorem over:Rows.brokerGrowsRow.holds Tryz.pinned (OpenSpec.ofChange Rows.brokerGrowsSpec) :=
 OpenClaim.holds_of_wide 4 Tryz.f4 rfl rfl rfl rfl rfl rfl rfl ⟨rfl,rfl,rfl,rfl,rfl⟩ rfl rfl rfl rfl rfl gFn Tryz.func4 closed
  (of_decide_eq_true ak) avq
  (λos i H enc _=>lifted os i H enc)
theorem proved:Rows.BrokerGrowsSaid:=over
#print axioms proved
end Go.Proofs.YtoeiinllelipoaaGreat.brokerGrows
