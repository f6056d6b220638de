/-
  postilionlaw20.BrokerIDs returns true for every input, and each argument reads as it read before: the row's step over the walk. Conditions: none.
-/
import Derived.Test.YtagfakjifhdpgaaGreatRows
import Derived.Test.YtagfakjifhdpgaaGreatGrA
import Derived.Test.YtagfakjifhdpgaaGreatGrB
import Derived.Test.YtagfakjifhdpgaaGreatGrC
import Derived.Test.YtagfakjifhdpgaaGreatGrD
import Derived.Test.YtagfakjifhdpgaaGreatMa33
import Derived.Test.YtagfakjifhdpgaaGreatMd03
import Derived.Test.YtagfakjifhdpgaaGreatMd04
import Derived.Test.YtagfakjifhdpgaaGreatRows
import Derived.ProofKit
namespace Go.Proofs.YtagfakjifhdpgaaGreat.brokerIDs
open Go.ChangeShapes Go.WideShapes Go.ChangeAt Go.RowKit
set_option linter.unusedVariables false
theorem own:ownKnob Tryz.prog.godebug=none:=by kernel_rfl
theorem laidOut:laidOutB Tryz.prog=true:=gLaid
set_option maxRecDepth 100000 in
theorem lifted (os:Os) (started:os.Started) (H:Type) (enc:TypeId×Value->H) :
 ReturnsInHanded {} Tryz.checked os 5 .any (Rows.brokerIDsSpec.pre6 enc Tryz.prog Tryz.f5 Rows.brokerIDsRow.domain false) (Rows.brokerIDsSpec.post enc Tryz.prog Tryz.f5 false true false false):=by
 refine returnsInHanded_of_change (C:=Tryz.checked) own started (by kernel_rfl) Tryz.func5
  (ChangeSpec.witness6 (enc:=enc) (C:=Tryz.checked) false ⟨#[],#[.int .i64 0,.slice none 0 0,.slice none 0 0,.slice none 0 0],[]⟩ 8 (by kernel_rfl) (by kernel_rfl) (by kernel_rfl) (by kernel_rfl)) ?_
 intro W base args ds gs before hval0 hW hcnd _
 have hval:∀ (j:Nat) t v,Tryz.f5.params[j]?=some t->args[j]?=some v->Value.okWide Tryz.prog W .any base t v:=hval0
 have hW':=hW
 obtain⟨p,q,hA0,hV,rfl,hfz,hnd⟩:=hW
 have hA:DataW.TrodAll enc Tryz.prog W 0 (fun _=>true) true Tryz.f5.params.toList args.toList ds p:=hA0
 rw[Tryz.params5] at hA hval
 obtain⟨v0,vs0,d0,ds0,p0,q0,hargs,rfl,rfl,h0,r0⟩:=trodAll_cons hA
 obtain⟨v1,vs1,d1,ds1,p1,q1,rfl,rfl,rfl,h1,r1⟩:=trodAll_cons r0
 obtain⟨v2,vs2,d2,ds2,p2,q2,rfl,rfl,rfl,h2,r2⟩:=trodAll_cons r1
 obtain⟨v3,vs3,d3,ds3,p3,q3,rfl,rfl,rfl,h3,r3⟩:=trodAll_cons r2
 obtain⟨rfl,rfl,rfl⟩:=trodAll_nil r3
 obtain rfl:args=#[v0,v1,v2,v3]:=by cases args;simp_all
 obtain⟨rfl,rfl⟩:=trodVars_none hV
 have lt0:∀ x∈p0,x.block<W.heap.size:=by obtain⟨m,hm⟩:=h0;exact DataW.trod_lt m _ _ _ hm
 have rp0:=repI64_of (hval 0 3 v0 rfl rfl) h0
 have lt1:∀ x∈p1,x.block<W.heap.size:=by obtain⟨m,hm⟩:=h1;exact DataW.trod_lt m _ _ _ hm
 have rp1:=repInts_of (hval 1 31 v1 rfl rfl) h1
 have lt2:∀ x∈p2,x.block<W.heap.size:=by obtain⟨m,hm⟩:=h2;exact DataW.trod_lt m _ _ _ hm
 have rp2:=repInts_of (hval 2 31 v2 rfl rfl) h2
 have lt3:∀ x∈p3,x.block<W.heap.size:=by obtain⟨m,hm⟩:=h3;exact DataW.trod_lt m _ _ _ hm
 have rp3:=repCallsB_of (hval 3 58 v3 rfl rfl) h3
 clear hA0 hval0
 refine (BrokerIDs_walk v0 v1 v2 v3 W rp0 rp1 rp2 rp3).mono fun e W' ⟨he,bel⟩=>?_
 subst he
 exact⟨_,rfl,_,_,_,[],_,[],hW',trodAll_mk1 (shut_bool Tryz.underlying4 _),(trodAll_cons_mk (Below.trod laidOut (by kernel_rfl) (of_decide_eq_true (by kernel_rfl)) h0 bel lt0) (trodAll_cons_mk (Below.trod laidOut (by kernel_rfl) (of_decide_eq_true (by kernel_rfl)) h1 bel lt1) (trodAll_cons_mk (Below.trod laidOut (by kernel_rfl) (of_decide_eq_true (by kernel_rfl)) h2 bel lt2) (trodAll_cons_mk (Below.trod laidOut (by kernel_rfl) (of_decide_eq_true (by kernel_rfl)) h3 bel lt3) trodAll_mk0)))),rfl,bel.frame _,fun h=>by cases h⟩
theorem gIn:(Rows.brokerIDsRow.inPlace==Tryz.prog.inPlace 5)=true:=by kernel_rfl
theorem gUn:(Rows.brokerIDsRow.unfollowed==Tryz.prog.unfollowed 5)=true:=by kernel_rfl
theorem gRe:(Rows.brokerIDsRow.recurses==Tryz.prog.recurses 5)=true:=by kernel_rfl
theorem gNa:(Rows.brokerIDsRow.named==Tryz.prog.varsNamed 5)=true:=by kernel_rfl
theorem gFn:Tryz.prog.funcNamed Rows.brokerIDsRow.func=some 5:=by kernel_rfl
theorem gLi:(Rows.brokerIDsRow.lifted==Tryz.prog.liftsFinal)=true:=by rw[gLift];kernel_rfl
theorem gMa:(Tryz.prog.make==some Rows.brokerIDsRow.make)=true:=by rw[gMake];kernel_rfl
theorem closed:joinedFacts Tryz.prog 5 Tryz.f5 Rows.brokerIDsSpec Rows.brokerIDsRow=true:=by
 unfold joinedFacts
 simp only[Bool.and_eq_true]
 exact⟨⟨⟨⟨⟨⟨⟨⟨⟨⟨⟨⟨⟨⟨⟨⟨⟨⟨⟨⟨⟨⟨⟨⟨⟨⟨⟨⟨⟨⟨⟨by kernel_rfl,gLaid⟩,gMaps⟩,by kernel_rfl⟩,by kernel_rfl⟩,by kernel_rfl⟩,by kernel_rfl⟩,by kernel_rfl⟩,by kernel_rfl⟩,gIn⟩,gUn⟩,gRe⟩,gNa⟩,by kernel_rfl⟩,by kernel_rfl⟩,by kernel_rfl⟩,by kernel_rfl⟩,by kernel_rfl⟩,by kernel_rfl⟩,by kernel_rfl⟩,by kernel_rfl⟩,by kernel_rfl⟩,by kernel_rfl⟩,by kernel_rfl⟩,by kernel_rfl⟩,gEnter⟩,gLi⟩,gMa⟩,by kernel_rfl⟩,by kernel_rfl⟩,by kernel_rfl⟩,by kernel_rfl⟩
theorem over:Rows.brokerIDsRow.holds Tryz.pinned (OpenSpec.ofChange Rows.brokerIDsSpec) :=
 OpenClaim.holds_of_wide 5 Tryz.f5 rfl rfl rfl rfl rfl rfl rfl ⟨rfl,rfl,rfl,rfl,rfl⟩ rfl rfl rfl rfl rfl gFn Tryz.func5 closed
  (of_decide_eq_true (by kernel_rfl)) (by unfold Func.isWrapper;first|(rw[if_pos (by decide +kernel)];kernel_rfl)|(rw[if_neg (by decide +kernel)];exact⟨rfl,rfl⟩))
  (fun os started H enc _=>lifted os started H enc)
theorem proved:Rows.BrokerIDsSaid:=over
#print axioms proved
end Go.Proofs.YtagfakjifhdpgaaGreat.brokerIDs
