/-
  postilionlaw22.ScriptBegins returns true for every input, and each argument reads as it read before: the row's step over the walk. Conditions: none.
-/
import Derived.Test.YtcjlnlcpodcldaaGreatRows
import Derived.Test.YtcjlnlcpodcldaaGreatGrA
import Derived.Test.YtcjlnlcpodcldaaGreatGrB
import Derived.Test.YtcjlnlcpodcldaaGreatGrC
import Derived.Test.YtcjlnlcpodcldaaGreatGrD
import Derived.Test.YtcjlnlcpodcldaaGreatMv00
import Derived.Test.YtcjlnlcpodcldaaGreatMsz
namespace Go.Proofs.YtcjlnlcpodcldaaGreat.scriptBegins
open Go.ChangeShapes Go.WideShapes Go.ChangeAt Go.RowKit
set_option linter.unusedVariables false
theorem own:ownKnob Tryz.prog.godebug=none:=by kernel_rfl
theorem laidOut:laidOutB Tryz.prog=true:=Ty
set_option maxRecDepth 100000 in
theorem lifted(os:Os)(started:os.Started)(H:Type)(enc:TypeId×Value->H) :
 ReturnsInHanded {} Tryz.checked os 4 .any (Rows.scriptBeginsSpec.pre6 enc Tryz.prog Tryz.f4 Rows.scriptBeginsRow.domain false) (Rows.scriptBeginsSpec.post enc Tryz.prog Tryz.f4 false true false false):=by
 refine returnsInHanded_of_change (C:=Tryz.checked) own started dz Tryz.func4
  (ChangeSpec.witness6 (enc:=enc) (C:=Tryz.checked) false ⟨#[],#[.slice none 0 0,.slice none 0 0,.int .u16 0,.slice none 0 0,.int .i64 0],[]⟩ 8 dz dz dz dz) ?_
 intro W base args ds gs before O R hcnd _
 have z:∀(j:Nat) t v,Tryz.f4.params[j]?=some t->args[j]?=some v->Value.okWide Tryz.prog W .any base t v:=O
 have X:=R
 obtain⟨p,q,S,T,rfl,hfz,BQ⟩:=R
 have hA:DataW.TrodAll enc Tryz.prog W 0 (λ_=>true) true Tryz.f4.params.toList args.toList ds p:=S
 rw[Tryz.params4]at hA z
 obtain⟨N,vs0,d0,ds0,p0,q0,hargs,rfl,rfl,h0,r0⟩:=trodAll_cons hA
 obtain⟨A,vs1,d1,ds1,p1,q1,rfl,rfl,rfl,h1,r1⟩:=trodAll_cons r0
 obtain⟨M,vs2,d2,ds2,p2,q2,rfl,rfl,rfl,h2,r2⟩:=trodAll_cons r1
 obtain⟨L,vs3,d3,ds3,p3,q3,rfl,rfl,rfl,h3,r3⟩:=trodAll_cons r2
 obtain⟨B,vs4,d4,ds4,p4,q4,rfl,rfl,rfl,h4,r4⟩:=trodAll_cons r3
 obtain⟨rfl,rfl,rfl⟩:=trodAll_nil r4
 obtain rfl:args=#[N,A,M,L,B]:=Tj
 obtain⟨rfl,rfl⟩:=trodVars_none T
 have Y:∀x∈p0,x.block<W.heap.size:=aao
 have QD:=J2 (z 0 23 N rfl rfl) h0
 have QE:∀x∈p1,x.block<W.heap.size:=aap
 have QF:=J2 (z 1 23 A rfl rfl) h1
 have QG:∀x∈p2,x.block<W.heap.size:=aaq
 have QH:=ag5 (z 2 24 M rfl rfl) h2
 have lt3:∀x∈p3,x.block<W.heap.size:=amU
 have rp3:=XC (z 3 25 L rfl rfl) h3
 have lt4:∀x∈p4,x.block<W.heap.size:=amV
 have V:=XB (z 4 3 B rfl rfl) h4
 clear S O
 refine (arP N A M L B W QD QF QH rp3 V).mono λe W' ⟨he,y⟩=>?_
 subst he
 exact⟨_,rfl,_,_,_,[],_,[],X,trodAll_mk1 (shut_bool Tryz.underlying4 _),(trodAll_cons_mk (Below.trod laidOut dz (of_decide_eq_true dz) h0 y Y) (trodAll_cons_mk (Below.trod laidOut dz (of_decide_eq_true dz) h1 y QE) (trodAll_cons_mk (Below.trod laidOut dz (of_decide_eq_true dz) h2 y QG) (trodAll_cons_mk (Below.trod laidOut dz (of_decide_eq_true dz) h3 y lt3) (trodAll_cons_mk (Below.trod laidOut dz (of_decide_eq_true dz) h4 y lt4) trodAll_mk0))))),rfl,y.frame _,λh=>sH⟩
theorem Wf:(Rows.scriptBeginsRow.inPlace==Tryz.prog.inPlace 4)=true:=by kernel_rfl
theorem Wg:(Rows.scriptBeginsRow.unfollowed==Tryz.prog.unfollowed 4)=true:=by kernel_rfl
theorem Wh:(Rows.scriptBeginsRow.recurses==Tryz.prog.recurses 4)=true:=by kernel_rfl
theorem Wk:(Rows.scriptBeginsRow.named==Tryz.prog.varsNamed 4)=true:=by kernel_rfl
theorem JS:Tryz.prog.funcNamed Rows.scriptBeginsRow.func=some 4:=by kernel_rfl
theorem Wl:(Rows.scriptBeginsRow.lifted==Tryz.prog.liftsFinal)=true:=by rw[Oc];kernel_rfl
theorem Wm:(Tryz.prog.make==some Rows.scriptBeginsRow.make)=true:=by rw[Od];kernel_rfl
theorem closed:joinedFacts Tryz.prog 4 Tryz.f4 Rows.scriptBeginsSpec Rows.scriptBeginsRow=true:=Tk
theorem over:Rows.scriptBeginsRow.holds Tryz.pinned (OpenSpec.ofChange Rows.scriptBeginsSpec) :=
 OpenClaim.holds_of_wide 4 Tryz.f4 rfl rfl rfl rfl rfl rfl rfl ⟨rfl,rfl,rfl,rfl,rfl⟩ rfl rfl rfl rfl rfl JS Tryz.func4 closed
  (of_decide_eq_true dz) Tm
  (λos j H enc _=>lifted os j H enc)
theorem proved:Rows.ScriptBeginsSaid:=over
end Go.Proofs.YtcjlnlcpodcldaaGreat.scriptBegins
