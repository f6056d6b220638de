/-
  postilionlaw20.BrokerHomes returns true for every input, and each argument reads as it read before: the row's step over the walk. Conditions: none.
-/
import Derived.Test.YtagfakjifhdpgaaGreatRows
import Derived.Test.YtagfakjifhdpgaaGreatGrA
import Derived.Test.YtagfakjifhdpgaaGreatGrB
import Derived.Test.YtagfakjifhdpgaaGreatGrC
import Derived.Test.YtagfakjifhdpgaaGreatGrD
import Derived.Test.YtagfakjifhdpgaaGreatMa33
import Derived.Test.YtagfakjifhdpgaaGreatMc02
import Derived.Test.YtagfakjifhdpgaaGreatRows
import Derived.ProofKit
namespace Go.Proofs.YtagfakjifhdpgaaGreat.brokerHomes
open Go.ChangeShapes Go.WideShapes Go.ChangeAt Go.RowKit
set_option linter.unusedVariables false
theorem own:ownKnob Tryz.prog.godebug=none:=by kernel_rfl
theorem laidOut:laidOutB Tryz.prog=true:=gLaid
set_option maxRecDepth 100000 in
theorem lifted (os:Os) (started:os.Started) (H:Type) (enc:TypeId×Value->H) :
 ReturnsInHanded {} Tryz.checked os 6 .any (Rows.brokerHomesSpec.pre6 enc Tryz.prog Tryz.f6 Rows.brokerHomesRow.domain false) (Rows.brokerHomesSpec.post enc Tryz.prog Tryz.f6 false true false false):=by
 refine returnsInHanded_of_change (C:=Tryz.checked) own started (by kernel_rfl) Tryz.func6
  (ChangeSpec.witness6 (enc:=enc) (C:=Tryz.checked) false ⟨#[],#[.int .i64 0,.slice none 0 0,.slice none 0 0,.int .i64 0],[]⟩ 8 (by kernel_rfl) (by kernel_rfl) (by kernel_rfl) (by kernel_rfl)) ?_
 intro W base args ds gs before hval0 hW hcnd _
 have hval:∀ (j:Nat) t v,Tryz.f6.params[j]?=some t->args[j]?=some v->Value.okWide Tryz.prog W .any base t v:=hval0
 have hW':=hW
 obtain⟨p,q,hA0,hV,rfl,hfz,hnd⟩:=hW
 have hA:DataW.TrodAll enc Tryz.prog W 0 (fun _=>true) true Tryz.f6.params.toList args.toList ds p:=hA0
 rw[Tryz.params6] at hA hval
 obtain⟨v0,vs0,d0,ds0,p0,q0,hargs,rfl,rfl,h0,r0⟩:=trodAll_cons hA
 obtain⟨v1,vs1,d1,ds1,p1,q1,rfl,rfl,rfl,h1,r1⟩:=trodAll_cons r0
 obtain⟨v2,vs2,d2,ds2,p2,q2,rfl,rfl,rfl,h2,r2⟩:=trodAll_cons r1
 obtain⟨v3,vs3,d3,ds3,p3,q3,rfl,rfl,rfl,h3,r3⟩:=trodAll_cons r2
 obtain⟨rfl,rfl,rfl⟩:=trodAll_nil r3
 obtain rfl:args=#[v0,v1,v2,v3]:=by cases args;simp_all
 obtain⟨rfl,rfl⟩:=trodVars_none hV
 have lt0:∀ x∈p0,x.block<W.heap.size:=by obtain⟨m,hm⟩:=h0;exact DataW.trod_lt m _ _ _ hm
 have rp0:=repI64_of (hval 0 3 v0 rfl rfl) h0
 have lt1:∀ x∈p1,x.block<W.heap.size:=by obtain⟨m,hm⟩:=h1;exact DataW.trod_lt m _ _ _ hm
 have rp1:=repInts_of (hval 1 31 v1 rfl rfl) h1
 have lt2:∀ x∈p2,x.block<W.heap.size:=by obtain⟨m,hm⟩:=h2;exact DataW.trod_lt m _ _ _ hm
 have rp2:=repInts_of (hval 2 31 v2 rfl rfl) h2
 have lt3:∀ x∈p3,x.block<W.heap.size:=by obtain⟨m,hm⟩:=h3;exact DataW.trod_lt m _ _ _ hm
 have rp3:=repI64_of (hval 3 3 v3 rfl rfl) h3
 clear hA0 hval0
 refine (BrokerHomes_walk v0 v1 v2 v3 W rp0 rp1 rp2 rp3).mono fun e W' ⟨he,bel⟩=>?_
 subst he
 exact⟨_,rfl,_,_,_,[],_,[],hW',trodAll_mk1 (shut_bool Tryz.underlying4 _),(trodAll_cons_mk (Below.trod laidOut (by kernel_rfl) (of_decide_eq_true (by kernel_rfl)) h0 bel lt0) (trodAll_cons_mk (Below.trod laidOut (by kernel_rfl) (of_decide_eq_true (by kernel_rfl)) h1 bel lt1) (trodAll_cons_mk (Below.trod laidOut (by kernel_rfl) (of_decide_eq_true (by kernel_rfl)) h2 bel lt2) (trodAll_cons_mk (Below.trod laidOut (by kernel_rfl) (of_decide_eq_true (by kernel_rfl)) h3 bel lt3) trodAll_mk0)))),rfl,bel.frame _,fun h=>by cases h⟩
theorem gIn:(Rows.brokerHomesRow.inPlace==Tryz.prog.inPlace 6)=true:=by kernel_rfl
theorem gUn:(Rows.brokerHomesRow.unfollowed==Tryz.prog.unfollowed 6)=true:=by kernel_rfl
theorem gRe:(Rows.brokerHomesRow.recurses==Tryz.prog.recurses 6)=true:=by kernel_rfl
theorem gNa:(Rows.brokerHomesRow.named==Tryz.prog.varsNamed 6)=true:=by kernel_rfl
theorem gFn:Tryz.prog.funcNamed Rows.brokerHomesRow.func=some 6:=by kernel_rfl
theorem gLi:(Rows.brokerHomesRow.lifted==Tryz.prog.liftsFinal)=true:=by rw[gLift];kernel_rfl
theorem gMa:(Tryz.prog.make==some Rows.brokerHomesRow.make)=true:=by rw[gMake];kernel_rfl
theorem closed:joinedFacts Tryz.prog 6 Tryz.f6 Rows.brokerHomesSpec Rows.brokerHomesRow=true:=by
 unfold joinedFacts
 simp only[Bool.and_eq_true]
 exact⟨⟨⟨⟨⟨⟨⟨⟨⟨⟨⟨⟨⟨⟨⟨⟨⟨⟨⟨⟨⟨⟨⟨⟨⟨⟨⟨⟨⟨⟨⟨by kernel_rfl,gLaid⟩,gMaps⟩,by kernel_rfl⟩,by kernel_rfl⟩,by kernel_rfl⟩,by kernel_rfl⟩,by kernel_rfl⟩,by kernel_rfl⟩,gIn⟩,gUn⟩,gRe⟩,gNa⟩,by kernel_rfl⟩,by kernel_rfl⟩,by kernel_rfl⟩,by kernel_rfl⟩,by kernel_rfl⟩,by kernel_rfl⟩,by kernel_rfl⟩,by kernel_rfl⟩,by kernel_rfl⟩,by kernel_rfl⟩,by kernel_rfl⟩,by kernel_rfl⟩,gEnter⟩,gLi⟩,gMa⟩,by kernel_rfl⟩,by kernel_rfl⟩,by kernel_rfl⟩,by kernel_rfl⟩
theorem over:Rows.brokerHomesRow.holds Tryz.pinned (OpenSpec.ofChange Rows.brokerHomesSpec) :=
 OpenClaim.holds_of_wide 6 Tryz.f6 rfl rfl rfl rfl rfl rfl rfl ⟨rfl,rfl,rfl,rfl,rfl⟩ rfl rfl rfl rfl rfl gFn Tryz.func6 closed
  (of_decide_eq_true (by kernel_rfl)) (by unfold Func.isWrapper;first|(rw[if_pos (by decide +kernel)];kernel_rfl)|(rw[if_neg (by decide +kernel)];exact⟨rfl,rfl⟩))
  (fun os started H enc _=>lifted os started H enc)
theorem proved:Rows.BrokerHomesSaid:=over
#print axioms proved
end Go.Proofs.YtagfakjifhdpgaaGreat.brokerHomes
