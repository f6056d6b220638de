/-
  postilionlaw20.BrokerAlone returns true for every input, and each argument reads as it read before: the row's step over the walk. Conditions: none.
-/
import Derived.Test.YtagfakjifhdpgaaGreatRows
import Derived.Test.YtagfakjifhdpgaaGreatGrA
import Derived.Test.YtagfakjifhdpgaaGreatGrB
import Derived.Test.YtagfakjifhdpgaaGreatGrC
import Derived.Test.YtagfakjifhdpgaaGreatGrD
import Derived.Test.YtagfakjifhdpgaaGreatMa33
import Derived.Test.YtagfakjifhdpgaaGreatMe03
import Derived.Test.YtagfakjifhdpgaaGreatRows
import Derived.ProofKit
namespace Go.Proofs.YtagfakjifhdpgaaGreat.brokerAlone
open Go.ChangeShapes Go.WideShapes Go.ChangeAt Go.RowKit
set_option linter.unusedVariables false
theorem own:ownKnob Tryz.prog.godebug=none:=by kernel_rfl
theorem laidOut:laidOutB Tryz.prog=true:=gLaid
set_option maxRecDepth 100000 in
theorem lifted (os:Os) (started:os.Started) (H:Type) (enc:TypeId×Value->H) :
 ReturnsInHanded {} Tryz.checked os 4 .any (Rows.brokerAloneSpec.pre6 enc Tryz.prog Tryz.f4 Rows.brokerAloneRow.domain false) (Rows.brokerAloneSpec.post enc Tryz.prog Tryz.f4 false true false false):=by
 refine returnsInHanded_of_change (C:=Tryz.checked) own started (by kernel_rfl) Tryz.func4
  (ChangeSpec.witness6 (enc:=enc) (C:=Tryz.checked) false ⟨#[],#[.slice none 0 0],[]⟩ 8 (by kernel_rfl) (by kernel_rfl) (by kernel_rfl) (by kernel_rfl)) ?_
 intro W base args ds gs before hval0 hW hcnd _
 have hval:∀ (j:Nat) t v,Tryz.f4.params[j]?=some t->args[j]?=some v->Value.okWide Tryz.prog W .any base t v:=hval0
 have hW':=hW
 obtain⟨p,q,hA0,hV,rfl,hfz,hnd⟩:=hW
 have hA:DataW.TrodAll enc Tryz.prog W 0 (fun _=>true) true Tryz.f4.params.toList args.toList ds p:=hA0
 rw[Tryz.params4] at hA hval
 obtain⟨v0,vs0,d0,ds0,p0,q0,hargs,rfl,rfl,h0,r0⟩:=trodAll_cons hA
 obtain⟨rfl,rfl,rfl⟩:=trodAll_nil r0
 obtain rfl:args=#[v0]:=by cases args;simp_all
 obtain⟨rfl,rfl⟩:=trodVars_none hV
 have lt0:∀ x∈p0,x.block<W.heap.size:=by obtain⟨m,hm⟩:=h0;exact DataW.trod_lt m _ _ _ hm
 have rp0:=repEvLists_of (hval 0 23 v0 rfl rfl) h0
 clear hA0 hval0
 refine (BrokerAlone_walk v0 W rp0).mono fun e W' ⟨he,bel⟩=>?_
 subst he
 exact⟨_,rfl,_,_,_,[],_,[],hW',trodAll_mk1 (shut_bool Tryz.underlying4 _),(trodAll_cons_mk (Below.trod laidOut (by kernel_rfl) (of_decide_eq_true (by kernel_rfl)) h0 bel lt0) trodAll_mk0),rfl,bel.frame _,fun h=>by cases h⟩
theorem gIn:(Rows.brokerAloneRow.inPlace==Tryz.prog.inPlace 4)=true:=by kernel_rfl
theorem gUn:(Rows.brokerAloneRow.unfollowed==Tryz.prog.unfollowed 4)=true:=by kernel_rfl
theorem gRe:(Rows.brokerAloneRow.recurses==Tryz.prog.recurses 4)=true:=by kernel_rfl
theorem gNa:(Rows.brokerAloneRow.named==Tryz.prog.varsNamed 4)=true:=by kernel_rfl
theorem gFn:Tryz.prog.funcNamed Rows.brokerAloneRow.func=some 4:=by kernel_rfl
theorem gLi:(Rows.brokerAloneRow.lifted==Tryz.prog.liftsFinal)=true:=by rw[gLift];kernel_rfl
theorem gMa:(Tryz.prog.make==some Rows.brokerAloneRow.make)=true:=by rw[gMake];kernel_rfl
theorem closed:joinedFacts Tryz.prog 4 Tryz.f4 Rows.brokerAloneSpec Rows.brokerAloneRow=true:=by
 unfold joinedFacts
 simp only[Bool.and_eq_true]
 exact⟨⟨⟨⟨⟨⟨⟨⟨⟨⟨⟨⟨⟨⟨⟨⟨⟨⟨⟨⟨⟨⟨⟨⟨⟨⟨⟨⟨⟨⟨⟨by kernel_rfl,gLaid⟩,gMaps⟩,by kernel_rfl⟩,by kernel_rfl⟩,by kernel_rfl⟩,by kernel_rfl⟩,by kernel_rfl⟩,by kernel_rfl⟩,gIn⟩,gUn⟩,gRe⟩,gNa⟩,by kernel_rfl⟩,by kernel_rfl⟩,by kernel_rfl⟩,by kernel_rfl⟩,by kernel_rfl⟩,by kernel_rfl⟩,by kernel_rfl⟩,by kernel_rfl⟩,by kernel_rfl⟩,by kernel_rfl⟩,by kernel_rfl⟩,by kernel_rfl⟩,gEnter⟩,gLi⟩,gMa⟩,by kernel_rfl⟩,by kernel_rfl⟩,by kernel_rfl⟩,by kernel_rfl⟩
theorem over:Rows.brokerAloneRow.holds Tryz.pinned (OpenSpec.ofChange Rows.brokerAloneSpec) :=
 OpenClaim.holds_of_wide 4 Tryz.f4 rfl rfl rfl rfl rfl rfl rfl ⟨rfl,rfl,rfl,rfl,rfl⟩ rfl rfl rfl rfl rfl gFn Tryz.func4 closed
  (of_decide_eq_true (by kernel_rfl)) (by unfold Func.isWrapper;first|(rw[if_pos (by decide +kernel)];kernel_rfl)|(rw[if_neg (by decide +kernel)];exact⟨rfl,rfl⟩))
  (fun os started H enc _=>lifted os started H enc)
theorem proved:Rows.BrokerAloneSaid:=over
#print axioms proved
end Go.Proofs.YtagfakjifhdpgaaGreat.brokerAlone
