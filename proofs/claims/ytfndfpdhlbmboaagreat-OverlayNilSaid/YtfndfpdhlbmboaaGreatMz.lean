/-
  Scripts of tactics. Conditions: none.
-/
import Derived.ProofKit
import Derived.WalkKit
import Derived.WalkLawsBesides
import Derived.WalkSpells
import Derived.Deep.Draws
import Derived.Deep.AppendLies
import Derived.Maps.AppendAt
import Derived.Laws.CopyOwn
import Derived.Lib.Hide
import Derived.ScopeJumps
import Derived.Laws.IdiomStrings
import Derived.Laws.BytesArg
import Derived.WalkMore
import Derived.BigQuiet
import Derived.Deep.QuietTactic
import Derived.OpenShut
import Derived.ShutString
import Derived.ChangeOld
import Derived.Below
import Derived.Lib.SmallJoins
import Derived.Deep.Slices
import Derived.Deep.Fields
import Derived.Deep.CutRange
import Derived.Deep.LoopGhost
import Derived.Orders
import Derived.IntWalk
import Derived.Deep.RegionHeld3
import Derived.Deep.DrawnRows
import Derived.Conc.LoneCalls
import Derived.Conc.LoneSelect
import Derived.Maps.OwnSet
import Derived.Carry
import Derived.Deep.CutBlock
import Derived.Sort.MapsRangeIn
import Derived.RangeFuncGives
import Derived.RangeFuncKeeps
import Derived.RangeFuncLeaves
import Derived.RangeFuncFrom
import Derived.RangeFuncBox
import Derived.Shelf.Abstract
import Derived.OwnWalkIn
import Derived.TacticsInMore
import Derived.LoopNIn
import Derived.LoopIn
import Derived.RangeFuncNested
import Derived.Laws.BitsAllLaws
import Derived.Deep.RegionLaw
import Derived.Lib.SlicesDelete
import Derived.Shelf.SlSortCmp.WholeK
import Derived.Shelf.SlSortCmp.NoneTotal
import Derived.Shelf.Lay
import Derived.Ground.SlsfProg
namespace Go.Proofs.YtfndfpdhlbmboaaGreat
open Go Go.RowKit
set_option linter.unusedVariables false
variable {P:Prop}
theorem aC:type_of% @Nat.le_refl:=@Nat.le_refl
theorem bz:type_of% @Nat.lt_of_lt_of_le:=@Nat.lt_of_lt_of_le
theorem bn:type_of% @Nat.le_trans:=@Nat.le_trans
theorem cM:type_of% @Below.refl:=@Below.refl
theorem bS:type_of% @List.getElem_mem:=@List.getElem_mem
theorem gj:type_of% @List.take_succ_eq_append_getElem:=@List.take_succ_eq_append_getElem
theorem fM:type_of% @List.take_of_length_le:=@List.take_of_length_le
theorem cd:type_of% @List.forall_mem_cons:=@List.forall_mem_cons
theorem aQ:type_of% @List.cons_append:=@List.cons_append
theorem aO:type_of% @List.nil_append:=@List.nil_append
theorem rJ:type_of% @List.setIfInBounds_toArray:=@List.setIfInBounds_toArray
theorem qL:type_of% @List.set_cons_zero:=@List.set_cons_zero
theorem qM:type_of% @List.set_cons_succ:=@List.set_cons_succ
theorem XF:type_of% @List.take_succ_cons:=@List.take_succ_cons
theorem XH:type_of% @List.take_zero:=@List.take_zero
theorem QO:type_of% @List.drop_zero:=@List.drop_zero
theorem dE:type_of% @Bool.and_eq_true:=@Bool.and_eq_true
theorem cF:type_of% @List.length_append:=@List.length_append
theorem dY:type_of% @List.append_assoc:=@List.append_assoc
theorem uO:type_of% @List.all_eq_true:=@List.all_eq_true
theorem DK:type_of% @List.mem_append:=@List.mem_append
theorem eQ:type_of% @List.length_cons:=@List.length_cons
theorem ll:type_of% @List.length_filter_le:=@List.length_filter_le
theorem lM:type_of% @List.mem_of_mem_take:=@List.mem_of_mem_take
theorem jV:type_of% @World.ownsRow_nil:=@World.ownsRow_nil
theorem gq:type_of% @Exit.noGoto_ret:=@Exit.noGoto_ret
theorem pH:type_of% @World.ownsRow.alloc:=@World.ownsRow.alloc
theorem jU:type_of% @List.map_cons:=@List.map_cons
theorem rI:type_of% @List.flatMap_cons:=@List.flatMap_cons
theorem nX:type_of% @List.length_take:=@List.length_take
theorem eV:type_of% @Nat.zero_le:=@Nat.zero_le
theorem mi:type_of% @Nat.zero_add:=@Nat.zero_add
theorem lL:type_of% @List.take_length:=@List.take_length
theorem ae(h:P):Hid P:=h
theorem _root_.Go.RowKit.Hid.aa(h:Hid P):P:=h
theorem ef(h:P:=by kernel_rfl):P:=h
theorem aj(h:P:=by simp):P:=h
theorem af(h:P:=by omega):P:=h
theorem aG(h:P:=by grind):P:=h
theorem aep(h:P:=by simpa [World.setCell]using h.size):P:=h
theorem UY(h:P:=by simp[dP]):P:=h
theorem aY(h:P:=by simp;omega):P:=h
theorem Fm(h:P:=by simpa using hR.len):P:=h
theorem Pm(h:P:=by simp_all):P:=h
theorem Bn(h:P:=by unfold maxLen;omega):P:=h
theorem U0(h:P:=by rw[hz2];omega):P:=h
theorem Ia(h:P:=by simpa using h0):P:=h
theorem zw(h:P:=by simpa using h):P:=h
theorem bJ(h:P:=by go_num):P:=h
theorem ay(h:P:=by decide):P:=h
theorem aeH(h:P:=by unfold bf;omega):P:=h
theorem sE(h:P:=by simpa using hk):P:=h
theorem Ib(h:P:=by simp[h]):P:=h
theorem Ic(h:P:=by simpa using h4):P:=h
theorem U2(h:P:=by simp[results,results308,go_sem,e0,e1,e2]):P:=h
theorem KJ(h:P:=by simp at hi):P:=h
theorem Po(h:P:=by rw[hc,Nat.succ_mul];omega):P:=h
theorem Pp(h:P:=by simpa using hi):P:=h
theorem KL(h:P:=by trivial):P:=h
theorem U6(h:P:=by simpa [hlt]using rT):P:=h
theorem Dm(h:P:=by simpa using hj):P:=h
theorem U8(h:P:=by simpa using hj'):P:=h
theorem Va(h:P:=by simp[Op.bytesLess]):P:=h
theorem fk(h:P:=by rfl):P:=h
theorem aeP(h:P:=by intro cs hcs;obtain⟨y,_,rfl⟩:=List.mem_map.1 hcs;rfl):P:=h
theorem Bo(h:P:=by simpa using h1):P:=h
theorem Vd(h:P:=by simp[ByteArray.size]):P:=h
theorem gX(h:P:=by rw[HE.aa];rfl):P:=h
theorem Ps(h:P:=by rw[HC.aa,hv]):P:=h
theorem aeV(h:P:=by rw[HE.aa,hv,hk];rfl):P:=h
theorem KS(h:P:=by rw[HE.aa]):P:=h
theorem aeY(h:P:=by intro e;injection e with e;exact Rt e.symm):P:=h
theorem Pu(h:P:=by rw[HL.aa];exact jV _ _ _ _):P:=h
theorem Pv(h:P:=by simp[mW,hok]):P:=h
theorem Ve(h:P:=by have:=h.1;omega):P:=h
theorem KT(h:P:=by simp[h.1]):P:=h
theorem Pw(h:P:=by simp only[nZ];omega):P:=h
theorem mh(h:P:=by assumption):P:=h
theorem Dn(h:P:=by simp[hx]):P:=h
theorem Px(h:P:=by simp[World.setCell]):P:=h
theorem afb(h:P:=by simp[go_sem,execOp,scase,Act.eval]):P:=h
theorem Vm(h:P:=by simpa using hl):P:=h
theorem afc(h:P:=by simp[go_sem,execOp,rcase,Act.eval]):P:=h
theorem afd(h:P:=by simp[results,f111,Frame.at]):P:=h
theorem wQ(h:P:=by simp at h):P:=h
theorem Py(h:P:=by simp[setBlock]):P:=h
theorem KU(h:P:=by rw[e]):P:=h
theorem afe(h:P:=by simpa using congrArg List.length h2):P:=h
theorem xU(h:P:=by simpa using h2):P:=h
theorem Fs(h:P:=by rw[HB.aa];rfl):P:=h
theorem Vp(h:P:=by rw[HE.aa,hok];rfl):P:=h
theorem afs(h:P:=by rw[HO.aa];simp[hn]):P:=h
theorem fE(h:P:=by rw[HR.aa];rfl):P:=h
theorem KV(h:P:=by simpa using h5):P:=h
theorem PB(h:P:=by simp[jY,hok]):P:=h
theorem afw(h:P:=by rw[show (dK s).length=s.size from by simp,dY (az l.length++T)]):P:=h
theorem KW(h:P:=by simpa using e):P:=h
theorem KX(h:P:=by simpa using h3):P:=h
theorem PC(h:P:=by cases hj):P:=h
theorem wR(h:P:=by cases h):P:=h
theorem afA(h:P:=by obtain⟨-,v2,W2,e,h9⟩:=jb p5;cases e):P:=h
theorem afB(h:P:=by obtain⟨-,h1,W2,e⟩:=Gl q hq e;cases e):P:=h
theorem Vq(h:P:=by rw[HR.aa];exact jV _ _ _ _):P:=h
theorem Vr(h:P:=by have:=D.o;omega):P:=h
theorem pC(h:P:=by rw[World.size_alloc];exact cQ):P:=h
theorem Vs(h:P:=by have:=(kQ k e.symm).2;omega):P:=h
theorem PE(h:P:=by rw[HD.aa,h];rfl):P:=h
theorem Vt(h:P:=by rw[hd];rfl):P:=h
theorem Ie(h:P:=by rw[hd,hok];rfl):P:=h
theorem afC(h:P:=by simp[results,results209,go_sem,e9]):P:=h
theorem PF(h:P:=by rw[HN.aa.1]):P:=h
theorem afD(h:P:=by rw[HN.aa.2];exact λW' u'=>⟨_,_,rfl,AH.aa.1 _ (U9.tr (u'.more (by omega) (λ_ _ _=>by simp))),AH.aa.2 _ (U9.tr (u'.more (by omega) (λ_ _ _=>by simp)))⟩):P:=h
theorem Vu(h:P:=by simp[tD,hok]):P:=h
theorem Vv(h:P:=by simp[zx,hok]):P:=h
theorem afH(h:P:=by simp[results,results119,go_sem,e9]):P:=h
theorem awq(h:P:=by refine⟨by simp[vE,cJ],hi.1,hc,hi.2.1,hi.2.2,by simp[vE],by simp[vE],by simp[vE]⟩):P:=h
theorem KY(h:P:=by simp[World.setCell];omega):P:=h
theorem Fu(h:P:=by simpa using aV.nil _ _ _ _ _):P:=h
theorem Fv(h:P:=by simp[Value.ownBlock]at h):P:=h
theorem afJ(h:P:=by rw[h]at hb;injection hb with hb;have:=hW.size;omega):P:=h
theorem Ig(h:P:=by rw[<- e]):P:=h
theorem afK(h:P:=by rw[HB.aa,HT.aa];rfl):P:=h
theorem tB(h:P:=by simp[e]):P:=h
theorem Vz(h:P:=by have:=h.sz;omega):P:=h
theorem afQ(h:P:=by have:=HW.aa.low;have:=hW.size;simp;omega):P:=h
theorem aDS(h:P:=by simp[dU,h]):P:=h
theorem ny(h:P:=by rw[HQ.aa];rfl):P:=h
theorem afS(h:P:=by rw[hbase];exact kW.size):P:=h
theorem VA(h:P:=by rw[hbase];exact kr.size):P:=h
theorem xV(h:P:=by simp[dw]):P:=h
theorem Fw(h:P:=by simp[hy]):P:=h
theorem pD(h:P:=by simp[cJ]):P:=h
theorem VF(h:P:=by rw[HS.aa,hq];simp):P:=h
theorem VH(h:P:=by rw[HS.aa,hq,HT.aa];rfl):P:=h
theorem af4(h:P:=by rw[HC.aa];simp[h0]):P:=h
theorem VL(h:P:=by rw[HC.aa];simp[h0,h1]):P:=h
theorem aww(h:P:=by unfold rY fT;simp only[dE,decide_eq_true_eq];rintro ⟨⟨h1,h2⟩,h3⟩;exact⟨h3,h1,h2⟩):P:=h
theorem af6(h:P:=by rw[HC.aa,Ji,ox];rfl):P:=h
theorem awx(h:P:=by unfold rY fT;simp only[dE,decide_eq_true_eq];rintro ⟨⟨h1,h2⟩,h3⟩;omega):P:=h
theorem Dr(h:P:=by cases e):P:=h
theorem PS(h:P:=by simp[hb]):P:=h
theorem agh(h:P:=by rcases hk with hk|hk;omega;have:=bR k hk;omega):P:=h
theorem agi(h:P:=by have:=h.len;show s.list.length<=_;omega):P:=h
theorem agk(h:P:=by rw[HA.aa,if_pos hfit]):P:=h
theorem agl(h:P:=by unfold Own;rw[Kf,cF];exact dq):P:=h
theorem uE(h:P:=by rw[hk,e]):P:=h
theorem agn(h:P:=by rw[HA.aa,if_neg hfit]):P:=h
theorem K0(h:P:=by rw[eZ.aa];rfl):P:=h
theorem agq(h:P:=by rw[HF.aa,if_neg (by rw[hok];decide)]):P:=h
theorem agr(h:P:=by rw[HA.aa,if_neg (by rw[hok];decide)]):P:=h
theorem ags(h:P:=by rw[HF.aa,if_pos hok]):P:=h
theorem agt(h:P:=by rw[HA.aa,if_pos hok]):P:=h
theorem agu(h:P:=by rw[HD.aa,if_neg hfit]):P:=h
theorem PU(h:P:=by rw[eZ.aa,yX.aa];rfl):P:=h
theorem agv(h:P:=by rw[HD.aa,if_pos hfit]):P:=h
theorem PW(h:P:=by rw[hbase.aa];exact aC _):P:=h
theorem VS(h:P:=by rw[hbase.aa];exact bn kr.size kA.size):P:=h
theorem awI(h:P:=by simp only[cF,Ky,Pc,UI,nX];omega):P:=h
theorem VT(h:P:=by rw[gj hlt,List.map_append];rfl):P:=h
theorem agz(h:P:=by simp[results,results137,go_sem,e9]):P:=h
theorem agA(h:P:=by rw[<- HR.aa,ht];rfl):P:=h
theorem agB(h:P:=by rw[hcs];exact Kt _ _):P:=h
theorem VW(h:P:=by rw[e7];rfl):P:=h
theorem agE(h:P:=by simp[aE,List.lookup,ba,execOp,aF,go_sem]):P:=h
theorem agJ(h:P:=by rw[fU.aa,if_neg (by rw[hok];decide),if_neg h8,hb];rfl):P:=h
theorem Fz(h:P:=by rw[HQ.aa];exact HW.aa):P:=h
theorem Ik(h:P:=by simp[vE]):P:=h
theorem awJ(h:P:=by intro u hu;exact cW.one (x:=vF) (w:=w) ⟨_,_,rfl,⟨none,0,rfl,Reads.nil _ _ _ _⟩,gh _ _⟩ u hu):P:=h
theorem Ds(h:P:=by rw[HI.aa,ho]):P:=h
theorem K4(h:P:=by rw[HC.aa,ho]):P:=h
theorem V0(h:P:=by rw[HC.aa,ho];simp only[h1]):P:=h
theorem Br(h:P:=by have:=hG.dk.len;omega):P:=h
theorem agN(h:P:=by rw[HR.aa,if_pos h1]):P:=h
theorem agO(h:P:=by rw[HR.aa,if_neg h1,if_pos h2]):P:=h
theorem agP(h:P:=by rw[HR.aa,if_neg h1,if_neg h2]):P:=h
theorem Il(h:P:=by simpa using hc):P:=h
theorem rG(h:P:=by have:=y5.aa;omega):P:=h
theorem V2(h:P:=by simp[results,results99,go_sem,e9]):P:=h
theorem agU(h:P:=by simp[results,results106,go_sem,e9]):P:=h
theorem Bt(h:P:=by exact hrg):P:=h
theorem agV(h:P:=by rw[xE.aa,Yg];rfl):P:=h
theorem Bu(h:P:=by rw[e];rfl):P:=h
theorem V3(h:P:=by first|rfl|(simp[ba];done)):P:=h
theorem agW(h:P:=by simp[aE,List.lookup,ba,e0,e9,execOp,aF,go_sem];exact⟨rfl,rfl⟩):P:=h
theorem V4(h:P:=by have:=HX.aa _ hx;omega):P:=h
theorem Bv(h:P:=by simpa using hO):P:=h
theorem Im(h:P:=by rw[gj hlt]):P:=h
theorem V8(h:P:=by grind [tF]):P:=h
theorem mM(h:P:=by simp[BQ]):P:=h
theorem V9(h:P:=by have:=Yj _ hx;omega):P:=h
theorem ag1(h:P:=by rw[HR.aa,mD];rfl):P:=h
theorem Wc(h:P:=by simp[aE,List.lookup,ba,Cu,execOp,aF,q8,z8,go_sem]):P:=h
theorem P6(h:P:=by simp[mr,cJ]):P:=h
theorem zC(h:P:=by simp[mr]):P:=h
theorem Du(h:P:=by simp[jj]):P:=h
theorem FA(h:P:=by rw[HR.aa];exact HF.aa):P:=h
theorem ag3(h:P:=by rw[hR'.1];exact Nat.mul_pos hp hs):P:=h
theorem ag4(h:P:=by rw[<- hE.1];exact h1):P:=h
theorem Wd(h:P:=by rw[HT.aa,hq];simp):P:=h
theorem ag6(h:P:=by rcases hk with hk|hk;exact .inl hk;have:=bR k hk;exact .inr (by omega)):P:=h
theorem awM(h:P:=by rw[eZ.aa];exact (bE.less λk hk=>bz hk (bn om k2.size)).low om):P:=h
theorem FB(h:P:=by simp[hk]):P:=h
theorem We(h:P:=by have:=lG.aa;omega):P:=h
theorem aha(h:P:=by rcases hk with hk|hk;exact hk.elim;have:=(Ym k hk).1;omega):P:=h
theorem ahc(h:P:=by rw[eZ.aa];simp only[cF]at wy⊢;omega):P:=h
theorem P8(h:P:=by simp[ia,h1,h2]):P:=h
theorem ahe(h:P:=by have:=awN a b;rw[h1',h2]at this;simpa using this):P:=h
theorem K7(h:P:=by simp[h0]):P:=h
theorem Wk(h:P:=by simp[hf.aa.1 (by omega)]):P:=h
theorem ahf(h:P:=by simp[hf.aa.2.1 (by omega)]):P:=h
theorem tC(h:P:=by rw[HT.aa,hkk];rfl):P:=h
theorem ahh(h:P:=by simp[results,results301,go_sem,g0,g1,g2]):P:=h
theorem ahj(h:P:=by simp only[rH,hf]):P:=h
theorem Wn(h:P:=by rw[<- HR.aa];rfl):P:=h
theorem Wo(h:P:=by rw[HF.aa];exact aV.nil _ _ _ _ _):P:=h
theorem ahp(h:P:=by obtain⟨A9,c9,rfl⟩:=bq.slice;rfl):P:=h
theorem Qd(h:P:=by rw[hk];exact GP):P:=h
theorem Wp(h:P:=by subst e;have:=(bq.blk _ hk).1;omega):P:=h
theorem ahr(h:P:=by simp[aE,List.lookup,ba,execOp,aF,q9,z9,go_sem]):P:=h
theorem Wq(h:P:=by rw[<- JI.aa];exact yZ.aa):P:=h
theorem awO(h:P:=by rw[HF.aa];unfold kI;rw[if_neg (by omega),if_pos (by simp[hb0,aN,hb2,bG])]):P:=h
theorem awP(h:P:=by rw[HF.aa];unfold kI;rw[if_neg (by omega),if_neg (by simp[hb0,aN,hb2,bG])]):P:=h
theorem Wt(h:P:=by rw[HE.aa,fM (by omega)]):P:=h
theorem Ip(h:P:=by simp at hpl;omega):P:=h
theorem Dv(h:P:=by rw[HF.aa];rfl):P:=h
theorem awR(h:P:=by rw[HF.aa];unfold iN;unfold IB at hb0;rw[if_pos (by simp only[Bool.or_eq_true]at hb0⊢;exact .inl (.inl hb0))]):P:=h
theorem awS(h:P:=by rw[HF.aa];unfold iN;unfold IB at hb0;rw[if_neg (by simp only[Bool.or_eq_true,Bool.or_eq_false_iff]at hb0⊢;rw[hb0.1.1,hb0.1.2,hb0.2,hb2,bG];simp)]):P:=h
theorem ahB(h:P:=by have:=hG.tx.zW;omega):P:=h
theorem ahD(h:P:=by rw[HE.aa,Ch,Yo];rfl):P:=h
theorem Ww(h:P:=by have:=HM.aa k h;omega):P:=h
theorem ahE(h:P:=by simp[Value.ownBlock]at hk):P:=h
theorem Qg(h:P:=by have:=HG.aa;omega):P:=h
theorem Wx(h:P:=by rw[F0.aa,h];simp):P:=h
theorem Wy(h:P:=by rw[F1.aa,h];simp):P:=h
theorem Wz(h:P:=by rw[F2.aa,h];simp):P:=h
theorem ahH(h:P:=by rw[HR.aa,ajD];rfl):P:=h
theorem WD(h:P:=by rw[SF.aa];rfl):P:=h
theorem WE(h:P:=by rw[<- gL.aa,HQ.aa];exact HH.aa.1):P:=h
theorem ahN(h:P:=by rw[<- gL.aa,HQ.aa];exact akm.aa):P:=h
theorem Qh(h:P:=by simp[tM,cJ]):P:=h
theorem Dw(h:P:=by simp[tM]):P:=h
theorem ahS(h:P:=by rw[HF.aa];unfold vK;rw[ht];rfl):P:=h
theorem ahU(h:P:=by simp at hpn;unfold nU;omega):P:=h
theorem WG(h:P:=by have:=HGD.aa;omega):P:=h
theorem ahW(h:P:=by rw[ajn,Nat.mod_eq_of_lt (by omega)]):P:=h
theorem WH(h:P:=by rw[zi,List.drop_length];rfl):P:=h
theorem ahX(h:P:=by rw[zi,List.drop_eq_getElem_cons hlt];rfl):P:=h
theorem ahY(h:P:=by rw[Z3.aa,hab];rfl):P:=h
theorem La(h:P:=by simp[hz]):P:=h
theorem Qj(h:P:=by simp[Dq]):P:=h
theorem Ql(h:P:=by simpa using h6):P:=h
theorem WJ(h:P:=by rw[HP.aa];rfl):P:=h
theorem ah2(h:P:=by rw[HR.aa];simp[h1]):P:=h
theorem Lc(h:P:=by subst h2;simp):P:=h
theorem WK(h:P:=by subst h5;simp):P:=h
theorem WL(h:P:=by subst h6;simp):P:=h
theorem awY(h:P:=by simp[aE,List.lookup,ba,e0,e8,execOp,aF,go_sem,atU];exact⟨rfl,rfl⟩):P:=h
theorem Qr(h:P:=by rw[HB.aa,hall.aa,hx];rfl):P:=h
theorem ah8(h:P:=by rw[HS.aa,if_neg];rw[HN.aa,Ew.aa];simp):P:=h
theorem ah9(h:P:=by rcases hk with hk|hk;exact bz hk nt;exact (bR k hk).2):P:=h
theorem WN(h:P:=by rw[HB.aa,hx];simp):P:=h
theorem Qs(h:P:=by rw[Bool.eq_iff_iff];simp):P:=h
theorem Ld(h:P:=by rw[lG.aa];exact aC _):P:=h
theorem aib(h:P:=by simp[results,results162,go_sem,e9]):P:=h
theorem Lf(h:P:=by rw[IntKind.wrap_i64];omega):P:=h
theorem Qu(h:P:=by subst e;omega):P:=h
theorem WO(h:P:=by rw[HNM.aa];omega):P:=h
theorem aie(h:P:=by simp only[cF];omega):P:=h
theorem WQ(h:P:=by show (l.length:Int)%2^64=_;omega):P:=h
theorem WR(h:P:=by simpa using xA.aa):P:=h
theorem WS(h:P:=by rw[gj hlt,List.flatMap_append];simp only[rI,List.flatMap_nil,List.append_nil,dY]):P:=h
theorem Ir(h:P:=by grind [di]):P:=h
theorem aij(h:P:=by rw[h.len];exact g2):P:=h
theorem BB(h:P:=by rintro (e|e) <;> omega):P:=h
theorem WW(h:P:=by simp only[gu];rw[HJ.aa]):P:=h
theorem WX(h:P:=by have:=AG.aa;rw[this]):P:=h
theorem WY(h:P:=by rcases hx with hx|hx <;> omega):P:=h
theorem Lg(h:P:=by have:=kA.size;omega):P:=h
theorem aip(h:P:=by simp[results,results113,go_sem,e9]):P:=h
theorem air(h:P:=by rw[HE.aa,Gg];rfl):P:=h
theorem aiu(h:P:=by rw[fU.aa,HMM.aa,hc1];rfl):P:=h
theorem aiv(h:P:=by rw[HQ.aa,gS];rfl):P:=h
theorem wS(h:P:=by simp[uY]):P:=h
theorem FC(h:P:=by unfold iR;rw[if_neg (by omega)]):P:=h
theorem Xe(h:P:=by have:=h1.lo k e;omega):P:=h
theorem aiy(h:P:=by have:=Pk h.lo ⟨hk.1,.inl hk.2⟩;exact⟨this.1,this.2.1⟩):P:=h
theorem Xf(h:P:=by have:=h.lo k e;omega):P:=h
theorem aiC(h:P:=by have:=hr.calls;omega):P:=h
theorem Xi(h:P:=by have:=hs.lc;omega):P:=h
theorem Xj(h:P:=by simp[results,results14,go_sem,e9]):P:=h
theorem Xk(h:P:=by simp[results,results32,go_sem,e9]):P:=h
theorem aiF(h:P:=by have:=HVB.aa.1 v J1 k e;have:=Gw.aa;omega):P:=h
theorem Ix(h:P:=by simp[intOf];omega):P:=h
theorem Xn(h:P:=by injection e with e;exact e.symm):P:=h
theorem aiJ(h:P:=by rintro k (h|rfl) <;> omega):P:=h
theorem aiK(h:P:=by constructor <;> omega):P:=h
theorem aiL(h:P:=by rw[hX];exact .inr rfl):P:=h
theorem Xp(h:P:=by unfold yj;omega):P:=h
theorem aiN(h:P:=by simp[aE,List.lookup,hp];exact Jp.aa W kW):P:=h
theorem aiO(h:P:=by simp[aE,List.lookup,hp];exact ua.aa W kW):P:=h
theorem Xq(h:P:=by simp[results,results19,go_sem,e9]):P:=h
theorem Xr(h:P:=by rw[acX];omega):P:=h
theorem aiR(h:P:=by rw[<- HS.aa];exact List.take_prefix _ _):P:=h
theorem axr(h:P:=by rw[<- e];rw[show k+49*(pre++[(j:Int)]).length=k+49*pre.length+49 by simp;omega];exact hI9):P:=h
theorem aiS(h:P:=by have:=HKK.aa;omega):P:=h
theorem aiU(h:P:=by have:=(h.1.up hu).2.1.calls;omega):P:=h
theorem ai0(h:P:=by unfold Func.isWrapper;first|(rw[if_pos (by decide +kernel)];kernel_rfl)|(rw[if_neg (by decide +kernel)];exact⟨rfl,rfl⟩)):P:=h
theorem ai1(h:P:=by rw[List.length_take_of_le (show j<=es.length by omega)];exact fN):P:=h
theorem ai2(h:P:=by rw[hlo.aa];exact (k1.tr kW).size):P:=h
theorem QA(h:P:=by rw[<- gL.aa,HP.aa];exact lf.aa):P:=h
theorem KZ(h:P:=by
 clear rX;obtain⟨j,hj,rfl,hO,kr⟩:=hrel;have p9:=k3.tr kr;by_cases hlt:j<es.length
 ·exact axy
 ·exact axz):P:=h
theorem axz(h:P:=by have aP:¬(j:Int)<es.length:=af;rw[fM af]at hO;have Tq:=eO.av kr;have nJ:=dI.av kr;have vL:fH wr w1.heap.size (.slice A1 f.length c1) f:=pA eD kr;obtain⟨Ao,co,rfl,-⟩:=hO.slice;have q:=Tq.cell;have z:=Tq.frozen;go_upto_region 9 with (fail);have dR:ah (wr.setCell ⟨w.heap.size,7,none⟩ (.slice Ao es.length co)) w.heap.size 126 #[.int .i64 k,.int .i64 b,.int .u64 l,.int .u64 s,.int .i64 cl,.int .u64 u,.slice A1 f.length c1,.slice Ao es.length co]:=Tq.aM 7 _;have ie:=nJ.far (p:=⟨w.heap.size,7,none⟩) aj (.slice Ao es.length co);have k5:K w (wr.setCell ⟨w.heap.size,7,none⟩ (.slice Ao es.length co)):=K.set p9 (aC _) 7 _;have oD:=fH.up vL (w':=wr.setCell ⟨w.heap.size,7,none⟩ (.slice Ao es.length co)) (aI.set af 7 _);have cC:=hO.up (w':=wr.setCell ⟨w.heap.size,7,none⟩ (.slice Ao es.length co)) (aC _) (aI.set af 7 _);clear Tq nJ vL hO q z;generalize wr.setCell _ _=w5 at *;have q:=dR.cell;have y:=ie.cell;have z:=ie.frozen;go_wp2;have cO:ah (World.setCell w5 _ _) (w.heap.size+1) 126 #[.int .i64 k,.int .i64 0,.int .u64 0,.int .u64 0,.int .i64 0,.int .u64 0,.slice none 0 0,.slice none 0 0]:=(ie).aM 0 (.int .i64 k);have cO:ah (World.setCell (World.setCell w5 _ _) _ _) (w.heap.size+1) 126 #[.int .i64 k,.int .i64 b,.int .u64 0,.int .u64 0,.int .i64 0,.int .u64 0,.slice none 0 0,.slice none 0 0]:=(cO).aM 1 (.int .i64 b);have cO:ah (World.setCell (World.setCell (World.setCell w5 _ _) _ _) _ _) (w.heap.size+1) 126 #[.int .i64 k,.int .i64 b,.int .u64 l,.int .u64 0,.int .i64 0,.int .u64 0,.slice none 0 0,.slice none 0 0]:=(cO).aM 2 (.int .u64 l);have cO:ah (World.setCell (World.setCell (World.setCell (World.setCell w5 _ _) _ _) _ _) _ _) (w.heap.size+1) 126 #[.int .i64 k,.int .i64 b,.int .u64 l,.int .u64 s,.int .i64 0,.int .u64 0,.slice none 0 0,.slice none 0 0]:=(cO).aM 3 (.int .u64 s);have cO:ah (World.setCell (World.setCell (World.setCell (World.setCell (World.setCell w5 _ _) _ _) _ _) _ _) _ _) (w.heap.size+1) 126 #[.int .i64 k,.int .i64 b,.int .u64 l,.int .u64 s,.int .i64 cl,.int .u64 0,.slice none 0 0,.slice none 0 0]:=(cO).aM 4 (.int .i64 cl);have cO:ah (World.setCell (World.setCell (World.setCell (World.setCell (World.setCell (World.setCell w5 _ _) _ _) _ _) _ _) _ _) _ _) (w.heap.size+1) 126 #[.int .i64 k,.int .i64 b,.int .u64 l,.int .u64 s,.int .i64 cl,.int .u64 u,.slice none 0 0,.slice none 0 0]:=(cO).aM 5 (.int .u64 u);have cO:ah (World.setCell (World.setCell (World.setCell (World.setCell (World.setCell (World.setCell (World.setCell w5 _ _) _ _) _ _) _ _) _ _) _ _) _ _) (w.heap.size+1) 126 #[.int .i64 k,.int .i64 b,.int .u64 l,.int .u64 s,.int .i64 cl,.int .u64 u,.slice A1 f.length c1,.slice none 0 0]:=(cO).aM 6 (.slice A1 f.length c1);have cO:ah (World.setCell (World.setCell (World.setCell (World.setCell (World.setCell (World.setCell (World.setCell (World.setCell w5 _ _) _ _) _ _) _ _) _ _) _ _) _ _) _ _) (w.heap.size+1) 126 #[.int .i64 k,.int .i64 b,.int .u64 l,.int .u64 s,.int .i64 cl,.int .u64 u,.slice A1 f.length c1,.slice Ao es.length co]:=(cO).aM 7 (.slice Ao es.length co);have U9:=((((((((aI.rf (w.heap.size+1+1) none w5).tr (aI.set (b:=w.heap.size+1) af 0 (.int .i64 k))).tr (aI.set (b:=w.heap.size+1) af 1 (.int .i64 b))).tr (aI.set (b:=w.heap.size+1) af 2 (.int .u64 l))).tr (aI.set (b:=w.heap.size+1) af 3 (.int .u64 s))).tr (aI.set (b:=w.heap.size+1) af 4 (.int .i64 cl))).tr (aI.set (b:=w.heap.size+1) af 5 (.int .u64 u))).tr (aI.set (b:=w.heap.size+1) af 6 (.slice A1 f.length c1))).tr (aI.set (b:=w.heap.size+1) af 7 (.slice Ao es.length co));have K9:=(K.set (K.set (K.set (K.set (K.set (K.set (K.set (K.set k5 (r:=w.heap.size+1) af 0 (.int .i64 k)) (r:=w.heap.size+1) af 1 (.int .i64 b)) (r:=w.heap.size+1) af 2 (.int .u64 l)) (r:=w.heap.size+1) af 3 (.int .u64 s)) (r:=w.heap.size+1) af 4 (.int .i64 cl)) (r:=w.heap.size+1) af 5 (.int .u64 u)) (r:=w.heap.size+1) af 6 (.slice A1 f.length c1)) (r:=w.heap.size+1) af 7 (.slice Ao es.length co));clear q y z;generalize (World.setCell (World.setCell (World.setCell (World.setCell (World.setCell (World.setCell (World.setCell (World.setCell w5 _ _) _ _) _ _) _ _) _ _) _ _) _ _) _ _)=W9 at *;have e9:=cO.cell;refine bodyPost_ret (v:=.agg #[.int .i64 k,.int .i64 b,.int .u64 l,.int .u64 s,.int .i64 cl,.int .u64 u,.slice A1 f.length c1,.slice Ao es.length co]) (by simp[results,zR.aa,go_sem,e9]) rfl ?_;exact⟨_,rfl,⟨_,_,rfl,mg af (fH.up oD (U9.more af (λ_ _ _=>aj))),(aV.low (aV.floor (cC.up (aC _) (U9.more af (λ_ _ _=>aj))) af) af)⟩,K9⟩):P:=h
theorem axy(h:P:=by
 have aP:(j:Int)<es.length:=af;obtain⟨b1,off,cs,rfl,aN,hcl,⟨ve,rfl,iy⟩,hcell⟩:=Iy he j hlt ay;have d0:wr.cell? ⟨b1,off+j,none⟩=some ve:=by have:=hcell 0 ay;rw[p9.cell af];simpa [cG]using this
 have HT:Hid (es.take (j+1)=es.take j++[es[j]]):=ae aj;have hej:=Gp.aa _ (bS hlt);have DY:=pE _ _ _ _ iy p9;generalize es[j]=ej at *;obtain⟨Ae,ce,rfl,hRe⟩:=DY;have gV:(es.take j).length<=1000000:=aY;have Bg:=kr.size;clear hcell iy;go_wp2_with (at_builtin;refine iF rfl _ _ 51 rfl wr.heap.size 76 _ 4 48 TE _ 0 [] rfl (jV _ _ _ _) _ Ae ej.length ce (ej.flatMap mV) rfl hRe (UD ej) ?p1 (aC _) ?_)
 case p1=>omega
 intro v2 w4 dq _ _ hb2;have Mz:=ae (pP.rel (show pP w4 wr.heap.size v2 ej from dq));obtain⟨A2,c2,rfl,-⟩:=(show pP w4 wr.heap.size v2 ej from dq).slice;have kQ:=hO.blk;have cB:=hO.st hb2;have gK:=kr.tr hb2;obtain⟨css,hown,hcl,ki⟩:=cB;have ir:=hb2.size;clear hO hb2 dq;have kA:=K.new w4 (.cells #[.slice A2 ej.length c2] 51);have hbase:w3.heap.size<=(w4.alloc (.cells #[.slice A2 ej.length c2] 51)).heap.size:=Lg;go_wp2_with (at_builtin;refine iF rfl _ _ 37 rfl w3.heap.size 51 _ 1 24 Jb _ _ _ rfl (pH hown _) (w4.heap.size+1) _ 1 1 [.slice A2 ej.length c2] rfl ?c1 ?c2 ?c3 hbase ?_)
 case c1=>exact Reads.new w4 [.slice A2 ej.length c2] 51 1 1 rfl
 case c2=>intro u hu;simp at hu;subst hu;rfl
 case c3=>omega
 intro v9 w9 fN bB cQ aZ;have k9:=(gK.tr kA).trans aZ;have bq:aV w3.heap.size w3.heap.size 51 cG (es.take (j+1)) v9 w9:=by exact axA
 clear fN bB cQ aZ hown ki;exact VQ):P:=h
theorem ahR(h:P:=by
 cases L2
 ·exact axB
 ·exact axC):P:=h
theorem aeB(h:P:=by
 refine (OB k N ⟨s.toArray⟩ _).mono ?_;rintro e W5⟨rfl,jm⟩;have ey:=ey.below jm (by have:=dI.lt;simp;omega);have bZ:=bZ.av jm;have hgr:=nT hgr (Bi jm _);have J4:=(ah.new W3 71 #[.int .i64 k,.int .i64 N,.string { data:=s.toArray }]).below jm aj;have iT:=jm.size;simp only[World.size_alloc]at iT;clear jm;by_cases hok:iH (k:Int) N ⟨s.toArray⟩=true
 ·exact axD
 ·have hok:iH (k:Int) N ⟨s.toArray⟩=false:=by simpa using hok
  have hch:(lW (k:Int) N ⟨s.toArray⟩ != 0)=true:=by simp[lW,hok]
  have EV:=J4.cell 0;have vY:=J4.cell 1;have hv2:=J4.cell 2;simp at EV vY hv2;go_wp2;have I7:(if (decide (3<k)||false||!(iH (k:Int) N ⟨s.toArray⟩))=true then (((0,0,[]),l3,true):(Int×Int×List UInt8)×List UInt8×Bool)else (((k:Int),N,s),l3,false))=((0,0,[]),l3,true):=by simp[hok]
  exact ai3):P:=h
theorem axB(h:P:=by
 have hLB:=nO.aa rfl;have HQ:Hid (P'=(Bj,lj++[x])):=ae WD;rw[hLB]at yC;have Bd:=ae u3;have L8:=nj.aX Bd.aa (λh=>by have:=ZS.aa.low ga (.inr h);have:=lG.aa;omega);have Ns:=L8.cell;have ZT:=ae (SD.aa.to ((ag.aT uo _).tr Bd.aa) (X:=bw p2) (λk hk=>(GZ.aa k hk).imp .inr id) λk _ hk=>hk);have kA:=K.new sk (.cells (aD x (.slice Af x.f.length cf) (.slice Ae x.es.length ce)) 126);have ER:=mZ.st kA;have Rh:=mZ.blk;have hr:=ew.new (S:=aU) (e:=126) (v:=.agg (aD x (.slice Af x.f.length cf) (.slice Ae x.es.length ce))) ZT.aa 0 (eV _);have Ma:=yC.st kA;have Yr:=uR.size;have zh:=ae (And.intro yC (And.intro uR (And.intro D8 (And.intro Eb (And.intro DU mZ)))));have I1:=ae Ma;have az7:lj.length<=1000000:=by simp at Sw;omega
 clear yC uR D8 Eb DU mZ Ma sZ q8;clear ou u3 ix Nt;go_wp2_with (at_builtin;refine jt rfl _ _ 43 rfl _ 8 96 oH rfl rfl ER _ rfl x ?p1 ?p2 ?p3 ?_)
 case p1 => exact ahJ
 case p2=>omega
 case p3=>exact bn Yr kA.size
 intro v11 Bc zX xc FK I2;have akm:=ae zX;have hBw:bA (λk=>((M k∨bw p' k)∨v11.ownBlock=some k)∨bw p3 k) p3 Bj Bc:=I1.aa.far (X:=λk=>(Value.slice Ao lj.length co).ownBlock=some k) (ag.eM xc λk e=>e) (λk hk=>.inl (.inr hk)) (λk hk=>zh.aa.2.2.2.2.1 k hk) (λk hk h=>by
  rcases h with (h|h)|h
  ·exact .inl (.inl h)
  ·exact ahK
  ·exact .inr h) (λk hk=>.inr hk) (λk hk=>by
   rcases hk with (h|h)|h
   ·exact ahL
   ·exact (zX.blk k h).2
   ·exact bz (I1.aa.low k (.inr h)) xc.size)
 have Lz:∀k,v11.ownBlock=some k->¬bw p3 k:=λk hk h=>by exact ahM
 have u11:=(zh.aa.2.1.tr (ag.aT kA _)).gg (ag.eM (X:=λk=>(Value.slice Ao lj.length co).ownBlock=some k) xc λk e=>e) λk hk h=>by have:=(Rh k h).1;omega
 have HH:=ae (And.intro hBw (And.intro u11 (And.intro zh.aa.2.2.1 (And.intro zh.aa.2.2.2.1 Lz))));clear hBw u11 Lz hr ER zX xc FK I2 Ns L8;go_wp2;go_roundw
 case rel=>exact⟨j+1,p3,af,bJ,WE,HH.aa.2.1,HH.aa.2.2.1,HH.aa.2.2.2.1,HH.aa.2.2.2.2,ahN⟩
 case measure=>simp[intOf];omega):P:=h
theorem ai3(h:P:=by go_step3;refine⟨rfl,?_⟩;have hy0:=bZ.cell 0;have Ah:=bZ.cell 1;have hy2:=bZ.cell 2;have hz0:=bZ.frozen 0;have hz1:=bZ.frozen 1;have hz2:=bZ.frozen 2;simp at hy0 Ah hy2;obtain⟨A4,c4,hb4,_⟩:=id ey;have nG:=hb4.cell 1;have pZ:=hb4.frozen 1;simp at nG;go_wp2;have dR:=(((bZ.far (p:=⟨g,1,none⟩) aY (.bool true)).aM 0 (.int .i64 0)).aM 1 (.int .i64 0)).aM 2 (.string { data:=#[] });have e0:=dR.cell 0;have e1:=dR.cell 1;have e2:=dR.cell 2;simp at e0 e1 e2;have hw:=ey.U1;rw[gq];refine bodyPost_ret (v:=vd (0,0,[])) U2 rfl ?_;rw[HN.aa,I7];exact aeA):P:=h
theorem af0(h:P:=by
 clear p5;go_wp2_with fail
 refine (CV.aa w1 k1).mono ?_;rintro e w2⟨rfl,j2⟩;have k2:=k1.tr j2;replace kk:=kk.tr j2;cases h2:j0 rP m.cK
 ·have HQ:Hid (iE m=130):=ae (by unfold iE;rw[show dZ m=false from by simp[dZ,h2]];rfl);go_wp2;go_ret;exact⟨ny,k2⟩
 go_wp2_with fail
 refine (CA.aa w2 k2).mono ?_;rintro e w3⟨rfl,j3⟩;have k3:=k2.tr j3;replace kk:=kk.tr j3;cases h3:j0 bK m.asks
 ·have HQ:Hid (iE m=130):=ae (by unfold iE;rw[show dZ m=false from by simp[dZ,h3]];rfl);go_wp2;go_ret;exact⟨ny,k3⟩
 go_wp2_with fail
 refine (CE.aa w3 k3).mono ?_;rintro e w4⟨rfl,j4⟩;have k4:=k3.tr j4;replace kk:=kk.tr j4;cases h4:j0 bK m.entries
 ·have HQ:Hid (iE m=130):=ae (by unfold iE;rw[show dZ m=false from by simp[dZ,h4]];rfl);go_wp2;go_ret;exact⟨ny,k4⟩
 go_wp2_with fail
 refine (CP.aa w4 k4).mono ?_;rintro e w5⟨rfl,j5⟩;have k5:=k4.tr j5;replace kk:=kk.tr j5;cases h5:j0 bK m.fc
 ·have HQ:Hid (iE m=130):=ae (by unfold iE;rw[show dZ m=false from by simp[dZ,h5]];rfl);go_wp2;go_ret;exact⟨ny,k5⟩
 go_wp2_with fail
 refine (CB.aa w5 k5).mono ?_;rintro e w6⟨rfl,j6⟩;have k6:=k5.tr j6;replace kk:=kk.tr j6;cases h6:j0 nE m.dN
 ·have HQ:Hid (iE m=130):=ae (by unfold iE;rw[show dZ m=false from by simp[dZ,h6]];rfl);go_wp2;go_ret;exact⟨ny,k6⟩
 go_wp2_with fail
 refine (CD.aa w6 k6).mono ?_;rintro e w7⟨rfl,j7⟩;have k7:=k6.tr j7;replace kk:=kk.tr j7;cases h7:j0 nE m.ends
 ·have HQ:Hid (iE m=130):=ae (by unfold iE;rw[show dZ m=false from by simp[dZ,h7]];rfl);go_wp2;go_ret;exact⟨ny,k7⟩
 have HQ:Hid (iE m=0):=ae (by unfold iE;rw[show dZ m=true from by simp[dZ,hK,h2,h3,h4,h5,h6,h7]];rfl);go_wp2;go_ret;exact⟨ny,k7⟩):P:=h
theorem ag7(h:P:=by
 have DY:=pE _ _ _ _ iy kr;generalize es[j]=ej at *;obtain⟨Ae,ce,rfl,hRe⟩:=DY;have gV:(es.take j).length<=1000000:=aY;have Bg:=kr.size;clear hcell iy;go_wp2_with (at_builtin;refine iF rfl _ _ 51 rfl wr.heap.size 76 _ 4 48 TE _ 0 [] rfl (jV _ _ _ _) _ Ae ej.length ce (ej.flatMap mV) rfl hRe (UD ej) ?p1 (aC _) ?_)
 case p1=>omega
 intro v2 w4 dq _ _ hb2;have Mz:=ae (pP.rel (show pP w4 wr.heap.size v2 ej from dq));obtain⟨A2,c2,rfl,-⟩:=(show pP w4 wr.heap.size v2 ej from dq).slice;have kQ:=hO.blk;have cB:=hO.st hb2;have gK:=kr.tr hb2;obtain⟨css,hown,hcl,ki⟩:=cB;have ir:=hb2.size;clear hO hb2 dq;have kA:=K.new w4 (.cells #[.slice A2 ej.length c2] 51);have hbase:w.heap.size<=(w4.alloc (.cells #[.slice A2 ej.length c2] 51)).heap.size:=Lg;go_wp2_with (at_builtin;refine iF rfl _ _ 37 rfl w.heap.size 51 _ 1 24 Jb _ _ _ rfl (pH hown _) (w4.heap.size+1) _ 1 1 [.slice A2 ej.length c2] rfl ?c1 ?c2 ?c3 hbase ?_)
 case c1=>exact Reads.new w4 [.slice A2 ej.length c2] 51 1 1 rfl
 case c2=>intro u hu;simp at hu;subst hu;rfl
 case c3=>omega
 intro v9 w9 fN bB cQ aZ;have k9:=(gK.tr kA).trans aZ;have bq:aV w.heap.size w.heap.size 51 cG (es.take (j+1)) v9 w9:=by
  rw[HT.aa];exact aV.snoc hcl (λw' u=>ki w' (aI.tr (aI.aT kA _ _) u)) ai1 bB pC
   (λw' u=>Mz.aa w' ((aI.tr (aI.aT kA _ _) u).more af (λk hk _ e=>Vs)))
 clear fN bB cQ aZ hown ki;exact VQ):P:=h
theorem aex(h:P:=by
 rw[Dj k,HKN.aa];refine (wJ A m c l KN pg _ B (hR.below ajK hB) aY af).mono ?_;rintro e w1⟨v1,rfl,ez,aN⟩;have hx1:=(ah.new w 71 #[.int .i64 k,.int .i64 n,.string s]).below aN aj;have gS:=hx1.cell 2;simp at gS;obtain⟨A1,c1,rfl,jz⟩:=ez.slice;have kO:(l++az KN).length<=m+9:=by have:=Hml.aa;simp;omega
 generalize jL:(l++az KN).length=m1 at *;clear jL ez;have hz1:=aN.size;simp only[World.size_alloc]at hz1;go_wp2_with fail
 refine (wJ A1 m1 c1 _ NV hnl w1 w1.heap.size jz (aC _) af).mono ?_;rintro e w2⟨v2,rfl,dq,hb2⟩;have hx2:=hx1.below hb2 af;have qj:=hx2.cell 2;simp at qj;clear gS hx1 jz;obtain⟨A2,c2,rfl,rU⟩:=dq.slice;have eE:(l++az KN++az NV).length<=m+18:=by have:=Hml.aa;simp;omega
 generalize hm2:(l++az KN++az NV).length=m2 at *;clear hm2 dq;have hz2:=hb2.size;go_wp2_with fail
 have hcb:Below w2.heap.size w2 (w2.drew.alloc (.cells (bytesRow s (grownCap w2 s.size 0 5)) 5 ((bytesRow s (grownCap w2 s.size 0 5)).size,(bytesRow s (grownCap w2 s.size 0 5)).size+1))):=((cM _ w2).drew).alloc (aC _) _;refine (OA A2 _ m2 c2 s.size _ _ (dK s) _ (w2.heap.size+1) ((rU.below hcb (aC _)).more af) (Reads.conv w2.drew s _ _ _) aj af af).mono ?_;rintro e w3⟨v3,rfl,eD,bG⟩;go_wp2;go_ret;refine⟨_,rfl,?_,?_⟩
 ·unfold nB;rw[HKN.aa,YN.aa];refine sB ?_ eD;simp;omega
 ·exact ((ajK.trans (aN.mono aj)).trans (hb2.mono af)).trans ((hcb.mono af).trans (bG.mono aY))):P:=h
theorem PD(h:P:=by have q:=D.rv.cell;have z:=D.rv.frozen;go_wp2;clear q z;have P9:=D.put zEL rfl;simp only[dV,zEL,Nat.reduceAdd,mi]at P9;generalize World.setCell _ _ _=W9 at *;have e9:=P9.1.cell;refine bodyPost_ret (v:=.tuple #[.agg eI,.int .i64 110]) afC rfl ?_;exact⟨.agg eI,PF,by rw[HN.aa.2];exact λ_ _=>auO _,P9.2.1⟩):P:=h
theorem Pn(h:P:=by
 go_enter func210,ntmps210;go_wp2;refine J6 0 rfl ?_;go_wp2_with fail
 refine HN.aa.mono ?_;rintro e w2⟨rfl,oy,hgr⟩;obtain⟨h9,ph⟩:=hfin w2 oy hgr;obtain⟨A,c,hb,hr,hc1,gS⟩:=oy;have dL:=hb.cell 0;have hx1:=hb.cell 1;have pZ:=hb.frozen 1;simp at dL hx1;go_wp2;go_step3;refine⟨rfl,?_⟩;go_wp2;rw[gq];go_ret;exact⟨_,rfl,h9,ph⟩):P:=h
theorem axA(h:P:=by
 rw[HT.aa];exact aV.snoc hcl (λw' u=>ki w' (aI.tr (aI.aT kA _ _) u)) ai1 bB pC
  (λw' u=>Mz.aa w' ((aI.tr (aI.aT kA _ _) u).more af (λk hk _ e=>aG)))):P:=h
theorem axD(h:P:=by
 have hch:(lW (k:Int) N ⟨s.toArray⟩ != 0)=false:=by simp[lW,hok]
 have hy0:=bZ.cell 0;have Ah:=bZ.cell 1;have hy2:=bZ.cell 2;have hz0:=bZ.frozen 0;have hz1:=bZ.frozen 1;have hz2:=bZ.frozen 2;have EV:=J4.cell 0;have vY:=J4.cell 1;have hv2:=J4.cell 2;simp at hy0 Ah hy2 EV vY hv2;go_wp2;have dR:=((bZ.aM 0 (.int .i64 k)).aM 1 (.int .i64 N)).aM 2 (.string { data:=s.toArray });have e0:=dR.cell 0;have e1:=dR.cell 1;have e2:=dR.cell 2;simp at e0 e1 e2;simp only[Exit.jump];refine bodyPost_ret (v:=vd (k,N,s)) U2 rfl ?_;have I7:(if (decide (3<k)||false||!(iH (k:Int) N ⟨s.toArray⟩))=true then (((0,0,[]),l3,true):(Int×Int×List UInt8)×List UInt8×Bool)else (((k:Int),N,s),l3,false))=(((k:Int),N,s),l3,false):=by simp[h3,hok]
 rw[HN.aa,I7];refine⟨rfl,?_,?_⟩
 ·exact Rd.below (B:=w.heap.size) ey ((((cM _ _).setCell aj _).setCell aj _).setCell aj _) hg
 ·exact xT (xT (xT hgr aj _) aj _) aj _):P:=h
theorem Vw(h:P:=by go_wp2;clear q z;have P9:=D.put zRL rfl;simp only[dV,zRL,Nat.reduceAdd,mi]at P9;generalize World.setCell _ _ _=W9 at *;have e9:=P9.1.cell;refine bodyPost_ret (v:=.tuple #[.agg qT,.int .i64 110]) afH rfl ?_;exact⟨.agg qT,PF,by rw[HN.aa.2];exact λ_ _=>auY _,P9.2.1⟩):P:=h
theorem Xc(h:P:=by
 have q:=D.rv.cell;have z:=D.rv.frozen;have ajJ:Hid (sM b=none):=ae (by rw[HD.aa];simp);obtain rfl:CK=130:=by rw[G9.aa,ajJ.aa];rfl
 obtain rfl:MX=yr:=by rw[HMX.aa,ajJ.aa];rfl
 go_wp2;have P9:=D.put zML rfl;simp only[dV,zML,Nat.reduceAdd,mi]at P9;clear q z;generalize World.setCell _ _ _=W9 at *;have e9:=P9.1.cell;refine bodyPost_ret (v:=.tuple #[.agg I5,.int .i64 130]) aip rfl ?_;exact⟨.agg I5,rfl,λ_ _=>avS _,P9.2.1⟩):P:=h
theorem WA(h:P:=by
 have JZ:ag (λk=>k=g∨k=g+1∨k=g+2) w6 w9:=⟨si.os.trans u8.os,si.tape.trans u8.tape,si.output.trans u8.output,bn u8.size si.size,λk h1 h2=>(si.block k (bz h1 u8.size) aG).trans (u8.block k h1 h2)⟩;clear CC hB T8 Sy Sz SA q8 ql az2 az3 az4;have HD:=ae SB;have u9:=JZ;clear SB;go_wp2;go_roundw
 case rel=>exact⟨j+1,af,bJ,HD.aa,u9⟩
 case measure=>simp[intOf];omega):P:=h
theorem Ih(h:P:=by
 go_wp2;go_roundw
 case rel=>exact⟨k+1,af,bJ,nJ,kW⟩
 case measure=>simp[intOf];omega):P:=h
theorem agY(h:P:=by
 rintro e w2⟨v2,rfl,ho,k2⟩;obtain⟨nP,nQ,rfl,hF⟩:=Bq ho;have bR:=hO.blk;have hz:=iJ.size;replace hO:=hO.st k2;have qC:=iJ.tr k2;have hr:=ew.new (S:=aU) (e:=126) (v:=.agg (aD x nP nQ)) hF 0 (eV _);have bE:=hO.st ((K.rf w2).al (.cells (aD x nP nQ) 126));have cH:=qC.tr ((K.rf w2).al (.cells (aD x nP nQ) 126));clear hO hF ho q;go_wp2_with (at_builtin;refine jt rfl _ _ 43 rfl _ 8 96 oH rfl rfl bE _ rfl x ?p1 ?p2 ?p3 ?_)
 case p1=>exact hr.less λk hk=>agh
 case p2=>simp;omega
 case p3=>exact cH.size
 intro v9 w9 bq bB _ aZ;rw[<- HT.aa]at bq;have ig:=cH.trans aZ;clear hr bE;exact P7):P:=h
theorem Dp(h:P:=by go_wp2;go_ret;exact⟨fE,k1⟩):P:=h
theorem PO(h:P:=by
 obtain⟨rfl,rfl⟩:xs=[]/\n=0:=by exact axE
 go_wp2;go_ret;exact⟨_,rfl,jV _ _ _ _,kk⟩):P:=h
theorem BG(h:P:=by
 go_wp2_with fail
 apply bF (C1.aa _);rintro w' rfl;clear C1;go_wp2;go_ret;exact⟨rfl,rfl⟩):P:=h
theorem af7(h:P:=by
 rintro s A B row⟨v,hv,hrow,hB,hz⟩ hg hr;have hne:∀g t cs,ah A g t cs->some g≠row:=λg t cs hb e=>by obtain⟨h1,o,h2,h3⟩:=hr g e.symm;unfold ah at hb;rw[hb]at h2;injection h2 with h2;rw[<- h2]at h3;cases h3
 refine⟨v,hv.kept hg (hne _ _ _ hv),Fg hrow λg _ h1 h2=>hg.block g h1 ?_,⟨hg.os.trans hB.os,hg.tape.trans hB.tape,hg.output.trans hB.output,bn hB.size hg.size,λk hk=>(hg.block k (bz hk hB.size) λe=>?_).trans (hB.block k hk)⟩,bn hz hg.size⟩
 ·obtain⟨cur,hb⟩:=lI hrow h2;exact hne _ _ _ hb
 ·obtain⟨h1,-⟩:=hr k e.symm;have:=k2.size;omega):P:=h
theorem KF(h:P:=by go_enter func192,ntmps192;go_wp2;refine J6 0 rfl ?_;go_wp2;go_step3;refine⟨rfl,?_⟩;go_wp2;rw[gq];go_ret;exact⟨rfl,zM _ rfl⟩):P:=h
theorem Wv(h:P:=by
 go_wp2;go_roundw
 case rel=>exact⟨j+1,af,bJ,by rw[<- gL.aa,HP.aa];exact LY,ui⟩
 case measure=>simp[intOf];omega):P:=h
theorem Ii(h:P:=by simp only[cd,aO,aQ,bW,bY,aJ]at hp;exact⟨hp.1,hp.2.1.less λ_ h=>h⟩):P:=h
theorem af1(h:P:=by
 have hb:=ah.new w 5 #[];have k1:=hb.aS;have ho:(w.alloc (.cells #[] 5)).ownsRow w.heap.size 5 1 (.slice (some ⟨w.heap.size,0,none⟩) 0 0) 0 [] :=
  ⟨rfl,.inr ⟨w.heap.size,0,_,rfl,aC _,hb,aC _,Bn,aj,aj⟩⟩
 have jz:=(hR.below k1 (aC _)).more k1.size;go_wp2_with (at_builtin;refine iF rfl _ _ 94 rfl w.heap.size 5 _ 1 1 TB _ 0 [] rfl ho _ (some ad) n c xs rfl jz h1 ?p1 k1.size ?_)
 case p1=>omega
 exact VK):P:=h
theorem aiZ(h:P:=by unfold joinedFacts;simp only[dE];exact⟨⟨⟨⟨⟨⟨⟨⟨⟨⟨⟨⟨⟨⟨⟨⟨⟨⟨⟨⟨⟨⟨⟨⟨⟨⟨⟨⟨⟨⟨⟨ef,XE⟩,ayw⟩,ef⟩,ef⟩,ef⟩,ef⟩,ef⟩,ef⟩,gIn⟩,gUn⟩,gRe⟩,gNa⟩,ef⟩,ef⟩,ef⟩,ef⟩,ef⟩,ef⟩,ef⟩,ef⟩,ef⟩,ef⟩,ef⟩,ef⟩,axI⟩,gLi⟩,gMa⟩,ef⟩,ef⟩,ef⟩,ef⟩):P:=h
theorem PZ(h:P:=by simp only[cd,aO,aQ,bW,bY,aJ]at hp;obtain⟨⟨v',e,hO⟩,-⟩:=hp;simp[bP,aE,List.lookup,e,cN,execOp,aF,cM,go_sem];exact hO):P:=h
theorem P4(h:P:=by simp only[cd,aO,aQ,bW,bY,aJ]at hp;obtain⟨⟨v',e,hO⟩,-⟩:=hp;simp[bP,aE,List.lookup,e,cN,execOp,aF,aJ,cM,go_sem]):P:=h
theorem ag8(h:P:=by
 go_wp2_with fail
 refine (C1.aa a w).mono ?_;rintro e w2⟨rfl,k2⟩;go_wp2_with fail
 refine (C1.aa b w2).mono ?_;rintro e w3⟨rfl,k3⟩;have k:=k2.tr k3;clear C1;by_cases h1:a<b
 ·have HE:Hid (R=-1):=ae agN;exact Xv
 by_cases h2:b<a
 ·have HE:Hid (R=1):=ae agO;exact Xv
 have HE:Hid (R=0):=ae agP;exact Xv):P:=h
theorem Ij(h:P:=by
 go_wp2;try rw[gq]
 go_ret2;exact⟨_,ny,Fz,bC⟩):P:=h
theorem ahM(h:P:=by
 rcases FK with e|e
 ·exact zh.aa.2.2.2.2.1 k (e▸hk) h
 ·exact axF):P:=h
theorem ahd(h:P:=by
 have akU:=ij.blk;have C3:=ae (acG _ _ R v8 w8 ij Sr ZC);clear jC IY EL akb oM ZC;obtain⟨A8,c8,rfl⟩:=ij.slice;go_wp2_with fail
 refine C3.aa.mono ?_;rintro e w9⟨rfl,bq,u9⟩;have qv:=Sq.size;have kF:=u9.k r9 λk hk=>by have:=(akU k hk).1;have:=lG.aa;omega
 have HO:Hid (aA (λk=>k<lo) lo 246 iu R (.slice A8 R.length c8) w9):=ae ((bq.less λk hk=>af).low af);clear C3 bq u9 akU ij;exact ag9):P:=h
theorem K5(h:P:=by have aP:¬(j:Int)<l.length:=af;obtain rfl:j=l.length:=af;rw[lL]at hO;exact PT):P:=h
theorem K8(h:P:=by
 go_wp2;go_roundw
 case rel=>exact⟨j+1,af,bJ,by rw[<- gL.aa,HP.aa];exact cB,gK⟩
 case measure=>simp[intOf];omega):P:=h
theorem Dt(h:P:=by go_wp2;go_ret;exact⟨gX,rfl⟩):P:=h
theorem PY(h:P:=by
 rcases hx with hx|hx|hx
 ·have:=Zd.aa;have:=xB.aa;have:=MQ.aa;omega
 ·have:=(wj.aa.blk gp hx).1;have:=MQ.aa;omega
 ·have:=Jp.aa gp hx;have:=xB.aa;omega):P:=h
theorem xW(h:P:=by go_wp2;go_ret;exact⟨fE,kk⟩):P:=h
theorem VX(h:P:=by simp only[cd,aO,aQ,bW,bY,aJ]at hp;obtain⟨⟨Jz,JA,e3,hF⟩,h5,-⟩:=hp;simp[e3,h5,bP,aE,List.lookup,cN,execOp,aF,cM,go_sem];exact⟨_,_,rfl,D6.tx hF⟩):P:=h
theorem axG(h:P:=by exact Rd.below (B:=w.heap.size) hw.1 ((((cM _ _).setCell aj _).setCell aj _).setCell aj _) hg):P:=h
theorem WU(h:P:=by
 rintro e w4⟨v4,rfl,hs4,k4⟩;rw[<- HS.aa]at hs4;have xC:=ae (mg tW.size hs4);have qi:=tW.tr k4;clear q hs4 HB HS;go_wp2;go_roundw
 case rel=>exact⟨j+1,af,bJ,xC,qi⟩
 case measure=>simp[intOf];omega):P:=h
theorem axE(h:P:=by
 rcases Nat.eq_zero_or_pos xs.length with h|h
 ·refine⟨List.eq_nil_of_length_eq_zero h,?_⟩;have:=hR.1;omega
 ·obtain⟨b,off,e,-⟩:=hR.2 h;cases e):P:=h
theorem axC(h:P:=by
 have HQ:Hid (P'=(L1,lj)):=ae WD;have HH:=ae (And.intro yC (And.intro uR (And.intro D8 (And.intro Eb (And.intro DU mZ)))));clear yC uR D8 Eb DU mZ ou u3 ix Nt sZ;go_wp2;go_roundw
 case rel=>exact⟨j+1,p3,af,bJ,WE,HH.aa.2.1,HH.aa.2.2.1,HH.aa.2.2.2.1,HH.aa.2.2.2.2.1,by rw[<- gL.aa,HQ.aa];exact HH.aa.2.2.2.2.2⟩
 case measure=>simp[intOf];omega):P:=h
theorem ahu(h:P:=by
 clear hr ij bB cQ aZ;go_wp2;go_roundw
 case rel=>exact⟨j+1,af,bJ,by rw[<- gL.aa,HP.aa];exact bq,ui⟩
 case measure=>simp[intOf];omega):P:=h
theorem Wm(h:P:=by
 have HE:=ae (by
  have:=hall.aa;rw[fM af]at this;exact this)
 go_wp2;go_ret;exact⟨_,rfl,kr,by rw[HE.aa];simp⟩):P:=h
theorem PX(h:P:=by
 clear fN bB cQ aZ hown ki ya kA q5;go_wp2;go_roundw
 case rel=>exact⟨j+1,af,bJ,xy,k9⟩
 case measure=>simp[intOf];omega):P:=h
theorem W6(h:P:=by have u0:=(uj.tr u4).tr (ag.aT kA _);exact⟨o8.os.trans u0.os,o8.tape.trans u0.tape,o8.output.trans u0.output,bn u0.size o8.size,λk hk hx=>(o8.block k hk).trans (u0.block k hk hx)⟩):P:=h
theorem VJ(h:P:=by
 have aP:¬(j:Int)<l.length:=af;have HR:Hid (R=true):=ae (by
  have h1:=HT.aa;rw[fM af]at h1;rw[HI.aa,h1];simp[gU])
 go_wp2;go_ret;exact⟨fE,kr⟩):P:=h
theorem VK(h:P:=by intro v4 w4 dS _ _ hb4;have HO:=ae (by simpa using dS);have k4:=k1.trans hb4;clear dS ho hb;go_wp2;go_ret;exact⟨_,rfl,HO.aa,k4⟩):P:=h
theorem Qf(h:P:=by
 go_wp2;go_roundw
 case rel=>exact⟨j+1,_,af,bJ,jB,by rw[<- gL.aa,HQ.aa];exact r7,hat,uW⟩
 case measure=>simp[intOf];omega):P:=h
theorem Bs(h:P:=by rintro e w4⟨rfl,k4⟩;exact⟨_,rfl,rfl,k4⟩):P:=h
theorem Io(h:P:=by rintro e w'⟨rfl,rfl⟩;have JE:=oM;go_wp2;go_ret;exact⟨gX,JE⟩):P:=h
theorem axF(h:P:=by rw[e]at hk;injection hk with hk;have:=zh.aa.1.low k (.inr h);have h9:sk.heap.size<(sk.alloc (.cells (aD x (.slice Af x.f.length cf) (.slice Ae x.es.length ce)) 126)).heap.size:=aj;omega):P:=h
theorem afu(h:P:=by
 go_wp2_with fail
 refine (J7 x _ _ (En _ k1)).mono ?_;rintro e w2⟨rfl,k2⟩;have bC:=k1.tr k2;have e3:=auT x;cases he:bK x
 ·exact afq
 ·exact afr):P:=h
theorem ai4(h:P:=by rintro w' rfl;exact ais):P:=h
theorem Xo(h:P:=by simp only[cd,aO,aQ,bW,bY,aJ]at hp;obtain⟨⟨p,code,e⟩,-⟩:=hp;exact aiH):P:=h
theorem P7(h:P:=by
 go_wp2;go_roundw
 case rel=>exact⟨j+1,af,bJ,bq,ig⟩
 case measure=>simp[intOf];omega):P:=h
theorem Qq(h:P:=by
 go_wp2_with (with_reducible refine acQ rfl (.tmp 23) (.tmp 24) rfl a b rfl rfl ?_)
 exact Bz):P:=h
theorem ai5(h:P:=by go_wp2;go_ret;refine⟨?_,rfl⟩;rw[HE.aa];show Ending.returned (.int _ _)=Ending.returned (.int _ _);congr 2;all_goals omega):P:=h
theorem ahA(h:P:=by
 go_wp2_with (at_builtin;refine jt rfl _ _ 43 rfl _ 8 96 oH rfl rfl lf.a _ rfl x ?p1 ?p2 ?p3 ?_)
 case p1 =>
  exact hr.less λk hk=>by
   rcases hk with (hk|hk)|hk
   ·omega
   ·have:=eX k hk;omega
   ·have:=sg k hk;omega
 case p2=>omega
 case p3=>exact bn LX nt
 intro v9 w9 bq bB cQ aZ;have LY:=lf.push bq bB pC;exact ahz):P:=h
theorem Wl(h:P:=by
 cases hx:q t
 ·exact ai6
 ·exact axH):P:=h
theorem ai6(h:P:=by have nJ:Hid ((l.take (k+1)).any q=false):=ae Qr;exact Ih):P:=h
theorem V6(h:P:=by simp only[cd,aO,aQ,bW,bY,aJ]at hp;obtain⟨⟨nP,nQ,e6,hF⟩,-⟩:=hp;simp[aE,List.lookup,e6];exact⟨rfl,hF⟩):P:=h
theorem W7(h:P:=by
 clear fN bB cQ aZ hown ki Cp F4;go_wp2;go_roundw
 case rel=>exact⟨j+1,af,bJ,es++[x],lk,CQ,CY,Cj,YD,xy,u9⟩
 case measure=>simp[intOf];omega):P:=h
theorem Iq(h:P:=by go_enter func360,ntmps360;go_wp2;go_ret;exact⟨rfl,K.rf w⟩):P:=h
theorem Bw(h:P:=by go_wp2;go_ret;exact⟨gX,oM⟩):P:=h
theorem Li(h:P:=by go_wp2;go_ret;exact⟨fE,rfl⟩):P:=h
theorem PJ(h:P:=by simp only[cd,aO,aQ,bW,bY,aJ]at hp;exact hp.1):P:=h
theorem aio(h:P:=by go_wp2;have e9:=aZ.cell;rw[GF]at e9 AJ tZ JZ;simp only[dV,Nat.reduceAdd,mi]at e9 AJ tZ JZ;refine bodyPost_ret (v:=.agg (aD x (.slice A9 x.f.length c9) (.slice D9 x.es.length d9))) (by simp[results,results196,go_sem,e9]) rfl ?_;exact⟨_,rfl,AJ,tZ,JZ⟩):P:=h
theorem ahn(h:P:=by simp[bP,aE,List.lookup,hp,cN,execOp,aF,qx,qo,go_sem];apply lQ (Ox x _ W (HE.aa _ (k1.tr kW)) hs);rintro v2 w4⟨ho,k4⟩;exact agZ):P:=h
theorem Vj(h:P:=by rintro ⟨g,cap,cur,g1,g2,g3,g4⟩;exact⟨g,cap,cur,g1,g2,(u.block g g2 (Array.getElem?_eq_some_iff.1 g3).1 aj).trans g3,g4⟩):P:=h
theorem BC(h:P:=by exact absurd (hb2.gM hb) ay):P:=h
theorem aeC(h:P:=by go_wp2;generalize W3.alloc _=W4 at *;have I7:(if (decide (3<k)||true||!(iH (k:Int) N ⟨s.toArray⟩))=true then (((0,0,[]),l3,true):(Int×Int×List UInt8)×List UInt8×Bool)else (((k:Int),N,s),l3,false))=((0,0,[]),l3,true):=aj;exact ai3):P:=h
theorem PL(h:P:=by simp at e;obtain⟨rfl,rfl⟩:=e;exact⟨_,_,rfl,h1,h2⟩):P:=h
theorem K6(h:P:=by go_wp2;go_ret;exact⟨fE,FA⟩):P:=h
theorem Bz(h:P:=by go_ret;exact⟨Dv,kF⟩):P:=h
theorem PA(h:P:=by clear HO;go_wp2;go_ret;exact⟨fE,bC⟩):P:=h
theorem afE(h:P:=by have fI:=OJ ke;have HN:=ae (abS (HQ.aa.1 ke));rw[fI.1];clear ke fI;have q:=DE.rv.cell;have z:=DE.rv.frozen;go_upto_region 9 with (fail);generalize wd.alloc _=we at *;clear D;have D:=DE;clear DE;exact Vw):P:=h
theorem aeJ(h:P:=by
 cases y with
 | tmp t => simp only[beq_iff_eq]at h4;simp only[yF,aE,h4]
 | const v=>rfl
 | global g=>rfl
 | func f=>rfl):P:=h
theorem Fp(h:P:=by go_wp2;go_ret;exact⟨Dv,dQ⟩):P:=h
theorem Wb(h:P:=by refine (C5.aa W kW).mono ?_;rintro e w4⟨v4,rfl,hO,k4⟩;exact⟨_,rfl,aV.low (aV.floor hO kW.size) kW.size,k4⟩):P:=h
theorem Pz(h:P:=by have:=hcell 0 ay;rw[kr.cell (by simpa using aN)];simpa [cG]using this):P:=h
theorem VE(h:P:=by have ym:(16:Int)<(l.length:Int):=af;have HR:Hid (R=false):=ae (by rw[HI.aa];simp[gU]);exact xW):P:=h
theorem ag5(h:P:=by
 have mE:Hid ((l.take (j+1)).filter q=(l.take j).filter q):=ae Wd;rw[<- mE.aa]at cA;go_wp2;go_roundw
 case rel=>exact⟨j+1,af,bJ,cA,qC⟩
 case measure=>simp[intOf];omega):P:=h
theorem ae0(h:P:=by
 have nt:w1.heap.size<=w9.heap.size:=by have:=aZ.size;simp at this;omega
 clear fN bB cQ aZ;go_wp2;go_roundw
 case rel=>exact⟨k+1,af,bJ,ai9,cO,ajM,nt⟩
 case measure=>simp[intOf];omega):P:=h
theorem ah7(h:P:=by refine (abo R _ w H2.aa HS.aa kP).mono ?_;rintro e w2⟨v2,rfl,hO,k2⟩;clear H2 HS kP;have HO:=ae hO;obtain⟨A2,c2,rfl⟩:=aw hO.aq;clear hO;go_wp2;go_ret;exact⟨_,rfl,HO.aa,k2⟩):P:=h
theorem VI(h:P:=by
 clear q;go_wp2;go_roundw
 case rel=>exact⟨j+1,af,bJ,mE,qi⟩
 case measure=>simp[intOf];omega):P:=h
theorem age(h:P:=by
 have HB:Hid (yx m=D4 (k'+1) s0):=ae (by rw[D4,<- HM.aa]);clear hB ha h1;go_wp2;go_round
 case rel=>exact⟨k'+1,af,bJ,yx m,by rw[HX.aa],hl,HB⟩
 case measure=>simp[intOf];omega):P:=h
theorem agX(h:P:=by refine (C1.aa W (k1.tr kW)).mono ?_;rintro e w4⟨v4,rfl,hO,k4⟩;exact⟨_,rfl,⟨_,rfl,aV.low (aV.floor hO ai2) ai2⟩,k4⟩):P:=h
theorem afW(h:P:=by rw[Bool.eq_false_iff];intro hh;obtain⟨y,hy,e⟩:=Fi.1 hh;simp only[List.map_append,jU]at h;exact (List.nodup_append.1 h).2.2 (ar y) (List.mem_map_of_mem hy) (ar x) aj e):P:=h
theorem ae7(h:P:=by
 intro l;induction l with
 | nil=>simp
 | cons y l ih =>
  intro hl
  have h1:=ih λt ht=>hl t aG
  obtain⟨g1,g2⟩:=hl y aj
  grind [jI,auL,cF,eQ]):P:=h
theorem agL(h:P:=by clear qs;intro V W kW hA;simp only[aO,aQ,cz,aJ,Nat.reduceAdd]at hA;refine aH.h ?_;have kF:=k2.tr kW;clear hA q2 ud;go_wp2;go_ret;exact⟨ny,kF⟩):P:=h
theorem axH(h:P:=by have HE:=ae (HA.aa WN);go_wp2;go_ret;exact⟨_,rfl,kW,by rw[HE.aa];simp⟩):P:=h
theorem afO(h:P:=by rw[XF,List.flatten_cons,List.flatten_cons,ih,List.take_append,fM (l:=c) Po,hc,show (k+1)*n-n=k*n by rw[Nat.succ_mul];omega]):P:=h
theorem Qa(h:P:=by
 go_wp2;try rw[gq]
 exact Qb):P:=h
theorem Vx(h:P:=by
 go_wp2;go_roundw
 case rel=>exact⟨j+1,af,bJ,mE,ME⟩
 case measure=>simp[intOf];omega):P:=h
theorem PM(h:P:=by go_wp2;go_ret;exact⟨ny,k1⟩):P:=h
theorem VQ(h:P:=by
 go_wp2;go_roundw
 case rel=>exact⟨j+1,af,bJ,bq,k9⟩
 case measure=>simp[intOf];omega):P:=h
theorem K3(h:P:=by go_wp2;go_ret;exact⟨gX,kr⟩):P:=h
theorem Qb(h:P:=by go_ret;exact⟨gX,hb2⟩):P:=h
theorem Xl(h:P:=by go_wp2;go_ret2;exact⟨_,fE,by rw[HR.aa];exact HE.aa,FA⟩):P:=h
theorem agw(h:P:=by
 have e9:=aZ.cell;try rw[gq]
 refine bodyPost_ret (v:=.tuple #[.agg jq,.int .i64 co]) (by simp[results,results62,go_sem,e9,dw]) rfl ?_;exact⟨_,_,_,rfl,ayQ _ _,k9⟩):P:=h
theorem WT(h:P:=by simp only[cF,nX]at this⊢;have:min j l.length<=16:=af;omega):P:=h
theorem agG(h:P:=by simp only[cd,aO,aQ,bW,bY,aJ]at hp;obtain⟨⟨Jz,JA,e3,hF⟩,-⟩:=hp;show tT _ _ _ (V 6) _;rw[e3];exact⟨rfl,hF⟩):P:=h
theorem ah0(h:P:=by
 rcases List.mem_append.1 h with h|h
 ·exact .inl h
 ·simp at h;exact .inr ⟨x,aj,h⟩):P:=h
theorem ahv(h:P:=by
 have lf:=ae s7;clear s7 q8 hb0;go_wp2;go_roundw
 case rel=>exact⟨j+1,af,bJ,QA,gK⟩
 case measure=>simp[intOf];omega):P:=h
theorem agf(h:P:=by have HR:Hid (R=30/\F=[]):=ae ⟨HC.aa,HF.aa⟩;clear HK CS HC HF;go_wp2;go_ret2;exact⟨_,by rw[HR.aa.1];rfl,by rw[HR.aa.2];exact jV _ _ _ _,kk⟩):P:=h
theorem ahI(h:P:=by simp only[cd,aO,aQ,bW,bY,aJ]at hp;simp[bP,aE,List.lookup,cN,execOp,aF,cM,go_sem];exact hp.1):P:=h
theorem agT(h:P:=by have hz:cells.size=i.size:=aG;simp[execOp,aF,hs,hx,Instr.storeAt,Instr.sureAddr,storeVar,sizeOf,typeInfo,hq,Value.cells,hz];rw[<- hz,hst];simp[Result.andThen]):P:=h
theorem agH(h:P:=by
 refine ae λh x hx=>?_
 rw[gj hlt]at hx;rcases List.mem_append.1 hx with hx|hx
 ·exact hall.aa x hx
 ·simp at hx;rw[hx];exact h):P:=h
theorem afj(h:P:=by clear hR;generalize l.length=n at *;go_enter func226,ntmps226;go_wp2;go_step3;go_wp2;rw[gq];go_ret;exact⟨gX,cM _ _⟩):P:=h
theorem Xd(h:P:=by go_wp2;go_ret3;exact⟨_,Dv,Wo,k1⟩):P:=h
theorem afg(h:P:=by
 unfold Instr.findAsking fR;rw[h1];by_cases hk:p.1=k
 ·simp_all
 ·have hk':¬k=p.1:=λe=>hk e.symm
  simp[Sem.run_bind,he,Result.andThen,hk,hk',ih r (i+1) h3]):P:=h
theorem WZ(h:P:=by have h0:=F4.st kA;exact⟨h0.1.below o8 cP,h0.2.1.below o8 af,h0.2.2⟩):P:=h
theorem afl(h:P:=by
 have hch:(lW vk vn vs != 0)=true:=by simp[lW,hv]
 go_wp2;rw[gq];go_ret;exact⟨by rw[pO.aa (by rw[hT.aa];simp[j9,hv])];rfl,zM.aa _ oC⟩):P:=h
theorem P5(h:P:=by rw[xX af];exact h.pre j hj V8):P:=h
theorem afT(h:P:=by
 clear hA qs hS hO hv hb hN Jh hro;go_wp2;go_roundw
 case rel=>exact⟨j+1,af,bJ,ae ⟨_,_,_,HS9.aa⟩,k9⟩
 case measure=>simp[intOf];omega):P:=h
theorem K1(h:P:=by go_wp2;go_ret2;exact⟨ny,k1⟩):P:=h
theorem agC(h:P:=by simp only[cd,aO,aQ,bW,bY,aJ]at hp;exact⟨rfl,aiN⟩):P:=h
theorem agD(h:P:=by simp only[cd,aO,aQ,bW,bY,aJ]at hp;exact⟨rfl,aiO⟩):P:=h
theorem aid(h:P:=by have g1:=cI (bf a.1) (fW _);have g2:=cI a.2.1 h.2.1;have g3:=cI a.2.2 h.2.2;unfold fy;simp only[cF];omega):P:=h
theorem aes(h:P:=by refine⟨h.1,h.2.imp id ?_⟩;rintro ⟨g,cap,cur,h1,h2,h3,h4⟩;exact⟨g,cap,cur,h1,h2,(hb.block g (Array.getElem?_eq_some_iff.1 h3).1).trans h3,h4⟩):P:=h
theorem afp(h:P:=by
 have e3:((es.length:Int)==0)=false:=by rw[IH,Gh]
 have HB:Hid (E=110):=ae (by rw[HE.aa,Gh];rfl);go_wp2;go_ret;exact⟨Fs,bC⟩):P:=h
theorem aeU(h:P:=by
 have HE:=ae (pO.aa (by
  rw[HT.aa,if_neg aY,if_neg aY];simp;omega))
 go_wp2;go_ret;exact⟨gX,hb0⟩):P:=h
theorem ae2(h:P:=by obtain⟨HE,HL⟩:=Rv.aa false Ie;go_wp2;go_ret2;exact⟨_,gX,Pu,XT⟩):P:=h
theorem ah6(h:P:=by
 have fA:¬(k:Int)<l.length:=af;have HE:=ae (by
  have:=hall.aa;rw[fM af]at this;exact this)
 exact K3):P:=h
theorem ahs(h:P:=by
 clear q8 hb0 aN;go_wp2;go_roundw
 case rel=>exact⟨j+1,af,bJ,by rw[<- gL.aa,HP.aa];exact cC,lZ⟩
 case measure=>simp[intOf];omega):P:=h
theorem afk(h:P:=by go_wp2;rw[gq];go_ret;exact⟨by rw[pO.aa (by rw[hT.aa];simp[j9,hn])];rfl,zM.aa _ ((cM _ _).alloc (aC _) _)⟩):P:=h
theorem afv(h:P:=by
 go_wp2_with fail
 refine hch.aa.mono ?_;rintro e w1⟨rfl,aN⟩;go_wp2;go_ret2;exact⟨_,rfl,Vq,aN⟩):P:=h
theorem aeF(h:P:=by have hn:Hid (sF s=false):=ae (by simp[sF];omega);go_enter func282,ntmps282;go_wp2;go_ret;exact⟨by rw[hn.aa];rfl,rfl⟩):P:=h
theorem ae1(h:P:=by obtain⟨HE,HL⟩:=Rv.aa false Vt;go_wp2;go_ret2;exact⟨_,gX,Pu,hb⟩):P:=h
theorem VM(h:P:=by rw[List.length_map];exact bn (ll _ _) aj):P:=h
theorem aeW(h:P:=by
 intro x hx;rw[gj h]at hx;rcases List.mem_append.1 hx with hx|hx
 ·exact ha x hx
 ·simp at hx;rw[hx];exact hb):P:=h
theorem afo(h:P:=by have HE:Hid (E=110):=ae (by rw[<- qR];exact Fc (by simp[bK];omega));exact afn):P:=h
theorem aey(h:P:=by refine⟨⟨A,c,hb.aM 1 _,?_,h1,h2⟩,Fl (Di _ _) rfl _⟩;exact hr.keep λk hk=>Below.heap_setCell w _ _ k aY):P:=h
theorem afm(h:P:=by
 go_wp2;go_roundw
 case rel=>exact⟨k+1,af,bJ,bJ,hr,zM.aa _ (below_drewN oC _)⟩
 case measure=>simp[intOf];omega):P:=h
theorem Vn(h:P:=by unfold aH;rw[hg,if_pos (show bP V none=true from rfl),hx];exact h):P:=h
theorem PI(h:P:=by rw[if_neg af];exact⟨rfl,cM _ _⟩):P:=h
theorem ahy(h:P:=by
 go_wp2;go_roundw
 case rel=>exact⟨j+1,af,bJ,QA,oF⟩
 case measure=>simp[intOf];omega):P:=h
theorem ahw(h:P:=by
 go_wp2;go_roundw
 case rel=>exact⟨j+1,af,bJ,QA,lZ⟩
 case measure=>simp[intOf];omega):P:=h
theorem ahx(h:P:=by
 go_wp2;go_roundw
 case rel=>exact⟨j+1,af,bJ,QA,nK⟩
 case measure=>simp[intOf];omega):P:=h
theorem ah5(h:P:=by
 cases hx:q x
 ·exact ai6
 ·have HE:=ae (JR.aa WN);exact VZ):P:=h
theorem afY(h:P:=by have z3:=QE e3;have HQ:Hid (iE m=130):=ae (by unfold iE;rw[show dZ m=false from by simp[dZ,p5,e3]];rfl);exact PM):P:=h
theorem afZ(h:P:=by have z4:=QE e4;have HQ:Hid (iE m=130):=ae (by unfold iE;rw[show dZ m=false from by simp[dZ,p5,e4]];rfl);exact PM):P:=h
theorem aeA(h:P:=by
 refine⟨rfl,?_,?_⟩
 ·exact axG
 ·exact xT (xT (xT (nT hgr hw.2) aj _) aj _) aj _):P:=h
theorem aff(h:P:=by simp[Builtin.delete_,hts,run_underlying hT,MapKept.run_getObj_map h1,KG.lW,hf,MapKept.run_setObj_map _ h1,Result.andThen,setBlock]):P:=h
theorem VY(h:P:=by clear hO;go_wp2;go_ret;exact⟨_,rfl,HO.aa,kr⟩):P:=h
theorem Qm(h:P:=by go_enter func369,ntmps369;exact Dp):P:=h
theorem Qn(h:P:=by go_enter func370,ntmps370;exact Dp):P:=h
theorem Qo(h:P:=by go_enter func371,ntmps371;exact Dp):P:=h
theorem Qp(h:P:=by go_enter func372,ntmps372;exact Dp):P:=h
theorem ae3(h:P:=by obtain⟨HE,HL⟩:=Rv.aa true Ie;go_wp2;go_ret2;exact⟨_,gX,by rw[HL.aa];exact QJ,XT⟩):P:=h
theorem agZ(h:P:=by exact⟨_,rfl,by obtain⟨nP,nQ,e,hF⟩:=Bq ho;exact⟨nP,nQ,e,hF.less λk hk=>bz hk kW.size⟩,k4⟩):P:=h
theorem Qx(h:P:=by
 go_wp2_with fail
 apply bF C1.aa;exact ai4):P:=h
theorem ago(h:P:=by
 unfold zD ib;split
 ·rename_i h;simp only[dE,decide_eq_true_eq]at h;rw[Bm,xu];omega
 ·simp):P:=h
theorem Ws(h:P:=by intro v9 w9 bq bB cQ aZ;have ui:=pz.trans aZ;exact ahu):P:=h
theorem Qw(h:P:=by exact⟨by rw[HR.aa],by rw[HR.aa];exact hF⟩):P:=h
theorem agR(h:P:=by
 go_wp2;go_roundw
 case rel=>exact⟨j+1,af,bJ,by rw[HQ.aa];exact HO.aa,k5⟩
 case measure=>simp[intOf];omega):P:=h
theorem aeS(h:P:=by rw[ih af];simp only;rw[hd,rI,dY,C.fwd _ hx,gj hk']):P:=h
theorem aez(h:P:=by
 go_wp2;all_goals
  go_ret
  refine⟨rfl,zM _ _ _ af (λhpos=>?_) af af⟩
  first|rfl|omega):P:=h
theorem VZ(h:P:=by go_wp2;go_ret;exact⟨gX,kW⟩):P:=h
theorem ahq(h:P:=by
 rcases cQ with h|h
 ·exact .inl (h▸hk)
 ·rw[h]at hk;injection hk with hk;have:=kW.size;exact .inr af):P:=h
theorem Qe(h:P:=by go_wp2;go_ret;exact⟨Dv,kG⟩):P:=h
theorem Xa(h:P:=by clear HO HJ eZ HQ;go_wp2;go_ret;exact⟨_,rfl,HL.aa,Cp,uj⟩):P:=h
theorem aiq(h:P:=by simp[bP,aE,List.lookup,hp,cN,execOp,aF,aJ,q2,He,uv,go_sem];refine (C3.aa W kW).mono ?_;exact Bs):P:=h
theorem ahC(h:P:=by simp[bP,aE,List.lookup,hp,cN,execOp,aF,aJ,q2,ud,go_sem];refine (C4.aa W kW).mono ?_;exact Bs):P:=h
theorem ah4(h:P:=by rintro e w2⟨rfl,k2⟩;have kF:=k1.tr k2;clear C1 C2;go_wp2;go_ret;exact⟨by rw[HR.aa];first|done|rfl,kF⟩):P:=h
theorem Xb(h:P:=by
 go_wp2;go_meet
 case rel=>exact⟨_,_,_,_,_,_,_,_,_,_,D,HD⟩):P:=h
theorem agp(h:P:=by
 rw[HF.aa];split
 ·rename_i ho;have:=abX rs;rw[acz ho]at this;simp only;omega
 ·simp):P:=h
theorem Qz(h:P:=by exact absurd (h.blk.gM hb) ay):P:=h
theorem aeT(h:P:=by rw[List.flatMap_append,rI,List.flatMap_nil,List.append_nil,dY,<- e1];exact e2):P:=h
theorem aiY(h:P:=by
 go_wp2_with fail
 apply oX (C1.aa _ _) (kk.al _);rintro w'-k1;exact Xt):P:=h
theorem agy(h:P:=by
 rcases hx with hx|hx|hx
 ·omega
 ·have:=(wj.aa.blk k hx).1;have:=Zd.aa;right;omega
 ·exact .inl hx):P:=h
theorem aik(h:P:=by
 split
 ·exact⟨⟨List.prefix_refl _,List.prefix_refl _,rfl⟩,⟨h.ab,h.prom⟩⟩
 ·grind [fO.rf]):P:=h
theorem aga(h:P:=by
 have:=iK hown' (ag.bL (X:=λk=>k=B0) rfl 0 v') λb hb e=>LM (by rw[hb,e])
 simpa using this):P:=h
theorem ahJ(h:P:=by
 exact hr.less λk hk=>by
  rcases hk with hk|hk
  ·exact hk
  ·have:=Rh k hk;exact .inr af):P:=h
theorem PR(h:P:=by exact absurd (h1.gM hx2) ay):P:=h
theorem ahK(h:P:=by
 rcases FK with e|e
 ·exact .inl (.inr (e▸h))
 ·rw[e]at h;injection h with h;simp at hk;omega):P:=h
theorem af9(h:P:=by obtain⟨cur,hb⟩:=lI II ej;unfold ah at hb;rw[hb]at hj;injection hj with hj;rw[<- hj];rfl):P:=h
theorem VV(h:P:=by exact⟨_,_,rfl,rfl,rfl,λV W _ _=>atr _ _ _⟩):P:=h
theorem afh(h:P:=by
 cases ak with
 | nil=>simp[Instr.findKey,run_underlying hu,Instr.findNow,fR]
 | cons p r=>simp at h):P:=h
theorem afx(h:P:=by
 go_wp2;go_roundw
 case rel=>exact⟨k+1,af,bJ,dS,Mm⟩
 case measure=>simp[intOf];omega):P:=h
theorem VG(h:P:=by clear q;go_wp2;go_ret;exact⟨fE,qi⟩):P:=h
theorem PQ(h:P:=by go_ret;exact⟨by rw[fU.aa];rfl,k1⟩):P:=h
theorem aiI(h:P:=by simp[bP,execOp,aF,cN];exact⟨⟨_,rfl,kW.size,0,0,heap_alloc_new W _⟩,(K.rf W).al _⟩):P:=h
theorem aer(h:P:=by refine⟨h.1,h.2.imp id ?_⟩;rintro ⟨g,cap,cur,h1,h2,h3⟩;exact⟨g,cap,cur,h1,af,h3⟩):P:=h
theorem aiG(h:P:=by
 go_wp2_with fail
 apply bF C1.aa;rintro w' rfl;go_wp2_with fail
 apply bF C2.aa;exact ai4):P:=h
theorem Xv(h:P:=by clear HR;go_wp2;go_ret;exact⟨gX,k⟩):P:=h
theorem Pt(h:P:=by go_ret;exact⟨gX,hb⟩):P:=h
theorem ahg(h:P:=by have:=hall.aa l[j] (List.mem_take_iff_getElem.2 ⟨j,af,rfl⟩);rw[h1]at this;cases this):P:=h
theorem ail(h:P:=by have:=h.told;have:=h.calls;exact⟨h1,h.fit.same h2.1 ⟨h2.2.1,h2.2.2.1⟩,aG,af⟩):P:=h
theorem aiE(h:P:=by
 go_enter func25,ntmps25;go_wp2_with fail
 apply bF C1.aa;rintro w' rfl;exact Li):P:=h
theorem aeM(h:P:=by rintro v w w'⟨A,c,rfl,hr⟩ hb;exact⟨A,c,rfl,(hr.below hb (aC _)).more hb.size⟩):P:=h
theorem aeX(h:P:=by go_wp2;go_ret2;exact⟨_,gX,Pu,dQ⟩):P:=h
theorem Vo(h:P:=by go_wp2;go_ret;exact⟨Fs,bC.tr k3⟩):P:=h
theorem WV(h:P:=by clear hs HB;go_wp2;go_ret;exact⟨_,rfl,HS.aa,kr⟩):P:=h
theorem aiV(h:P:=by
 go_wp2_with fail
 apply bF (C1.aa _);rintro w' rfl;clear C1;go_wp2;go_ret2;exact⟨rfl,rfl⟩):P:=h
theorem VR(h:P:=by obtain⟨jN,Eo,e,h1,h2⟩:=hrl W k;exact PL):P:=h
theorem aim(h:P:=by
 cases l with
 | nil=>exact .inl rfl
 | cons x l=>exact .inr ⟨.string x.1,aj,aj⟩):P:=h
theorem PT(h:P:=by go_wp2;go_ret;exact⟨_,rfl,hO,kr⟩):P:=h
theorem aet(h:P:=by exact⟨v',w',hrun,h2,h3,h5,(cM _ _).grown h3 hbase λk hk=>(hown.lt k hk).1⟩):P:=h
theorem U4(h:P:=by simp[Act.put,Array.getElem?_setIfInBounds_ne hne]):P:=h
theorem afX(h:P:=by go_enter func239,ntmps239;go_wp2;go_ret;exact⟨by rw[HR.aa];simp[h0,h1],k1⟩):P:=h
theorem VU(h:P:=by exact⟨⟨kW.size,ei.new W⟩,(K.rf W).al _⟩):P:=h
theorem Wf(h:P:=by go_enter func350,ntmps350;exact Dt):P:=h
theorem Wg(h:P:=by go_enter func351,ntmps351;exact Dt):P:=h
theorem Wh(h:P:=by go_enter func352,ntmps352;exact Dt):P:=h
theorem Wu(h:P:=by simp only[List.foldl_cons,eQ];omega):P:=h
theorem ahO(h:P:=by
 rcases Nt k hk with h|h
 ·exact GZ.aa k h
 ·have:=SE.aa.size;exact .inr af):P:=h
theorem WM(h:P:=by go_enter func373,ntmps373;exact Dp):P:=h
theorem aia(h:P:=by
 rcases List.mem_append.1 hg with hg|hg
 ·exact SP g hg
 ·simp at hg;subst hg;exact yJ):P:=h
theorem aif(h:P:=by have HS:=ae hs;clear hs ho qx;go_wp2;go_ret;exact⟨_,rfl,HS.aa,k1.tr (k2.tr k3)⟩):P:=h
theorem aiT(h:P:=by gi_wp2;exact⟨⟨HF.aa.1 _ (.inl hz2.symm),HF.aa.1 _ (.inr af)⟩,HF.aa.2⟩):P:=h
theorem Qt(h:P:=by exact ho s (List.mem_filter.1 hs).1):P:=h
theorem Qy(h:P:=by go_wp2;go_ret;exact⟨rfl,HF.aa⟩):P:=h
theorem af8(h:P:=by
 rcases hown'.2 with ⟨-,h0⟩|⟨g',cap',cur',e,-⟩
 ·omega
 ·exact⟨g',cap',e⟩):P:=h
theorem ah3(h:P:=by go_enter func359,ntmps359;go_wp2;go_ret;exact⟨fE,K.rf w⟩):P:=h
theorem agx(h:P:=by intro b hb;obtain⟨r,hr,rfl⟩:=List.mem_map.1 hb;exact UK (hG.eT r hr).2.2):P:=h
theorem afa(h:P:=by obtain⟨vf,ve,rfl,h1,h2⟩:=h;exact⟨vf,ve,rfl,eH _ _ _ _ h1 k,bo h2 k⟩):P:=h
theorem ag0(h:P:=by rw[tF af]at hL;rw[xX af,tF af];exact h.al hL):P:=h
theorem ahb(h:P:=by
 rcases hx with hx|hx
 ·exact hx
 ·have:=(Ym k hx).2;have:=(LS k hk).1;omega):P:=h
theorem ahP(h:P:=by
 rcases Nt k h with h|h
 ·exact zf.aa k hk h
 ·have:=(Zc.aa k hk).2;omega):P:=h
theorem afI(h:P:=by
 split
 ·unfold fJ;split
  ·exact hl
  ·exact hl.erase _
 ·exact hl):P:=h
theorem agS(h:P:=by rw[fM af]at hO;have HO:=ae hO;exact VY):P:=h
theorem ahZ(h:P:=by
 split at h
 ·exact .inl h
 ·split at h
  ·exact .inl h
  ·exact ah0):P:=h
theorem aeu(h:P:=by have HE:=ae e;clear e;go_enter func336,ntmps336;exact ai5):P:=h
theorem agb(h:P:=by obtain⟨cur,hb⟩:=lI hrow h2;unfold ah at hb;rw[e,hK]at hb;cases hb):P:=h
theorem afV(h:P:=by
 rcases hk with ⟨g,_⟩|⟨_,g,_⟩|⟨g,_⟩
 ·omega
 ·exact g
 ·omega):P:=h
theorem VO(h:P:=by exact absurd (h1.gM h.blk) ay):P:=h
theorem aiQ(h:P:=by exact⟨v,_,rfl,.inl ⟨rfl,by unfold rF;rw[h1],h.ay4 hv h2 u⟩⟩):P:=h
theorem afF(h:P:=by obtain⟨_,_,he,h1,_⟩:=X5.aa _ (UX.tr u);simp at he;rw[he.1];exact h1):P:=h
theorem afG(h:P:=by obtain⟨_,_,he,_,h1⟩:=X5.aa _ (UX.tr u);simp at he;rw[he.2];exact h1):P:=h
theorem agI(h:P:=by have HW:=ae (aV.low (aV.floor hO mI) mI);clear hO;exact Ij):P:=h
theorem afR(h:P:=by go_wp2;go_ret;exact⟨ny,by rw[HQ.aa];exact HS.aa,ox⟩):P:=h
theorem ahi(h:P:=by exact ((dQ.setCell aj _).setCell aj _).setCell aj _):P:=h
theorem WC(h:P:=by exact⟨rfl,by rw[HF.aa];exact HN.aa⟩):P:=h
theorem af3(h:P:=by have HR:=ae (no.aa λh=>by have:=sD h;omega);exact xW):P:=h
theorem ag2(h:P:=by go_wp2;go_ret;exact⟨by rw[Zz.aa];rfl,by rw[Zz.aa];exact HF.aa⟩):P:=h
theorem aiw(h:P:=by go_wp2;go_ret;exact⟨by rw[HQ2.aa];rfl,by rw[HQ2.aa];exact HN.aa⟩):P:=h
theorem Xt(h:P:=by clear C1;go_wp2;go_ret;exact⟨rfl,k1⟩):P:=h
theorem ahT(h:P:=by have ui:=ig.trans aZ;clear hr lf bq bB cQ aZ q9;exact Wv):P:=h
theorem aiz(h:P:=by have HR:=ae (show R=true by rw[HI.aa];simp[h0,h1]);exact Li):P:=h
theorem afP(h:P:=by have:=congrArg (List.drop 1) h.post;simpa [List.drop_drop]using this):P:=h
theorem af5(h:P:=by
 go_wp2;try rw[gq]
 go_ret;exact⟨fE,k1⟩):P:=h
theorem ais(h:P:=by go_wp2;go_ret;exact⟨fE,by rw[HR.aa];exact HN.aa⟩):P:=h
theorem aeE(h:P:=by rw[List.all_eq_false];exact⟨l[k],bS h,PS⟩):P:=h
theorem afz(h:P:=by have h4:=List.all_eq_true.1 h1.2 y (by simpa using hy);exact aeJ):P:=h
theorem aih(h:P:=by unfold xb;rw[h1,Int.toNat_natCast,List.getElem?_eq_getElem h2];rfl):P:=h
theorem aiA(h:P:=by have HR:=ae (show R=false by rw[HI.aa];simp[h1]);exact Li):P:=h
theorem aiB(h:P:=by have HR:=ae (show R=false by rw[HI.aa];simp[h0]);exact Li):P:=h
theorem aiH(h:P:=by simp[bP,aE,List.lookup,e,cN,execOp,aF,cM,go_sem]):P:=h
theorem afq(h:P:=by have HR:Hid (R=false):=ae (by rw[HO.aa,he];rfl);exact PA):P:=h
theorem ahz(h:P:=by have ui:=ig.trans aZ;clear hr lf bq bB cQ aZ;exact Wv):P:=h
theorem ahL(h:P:=by exact bz (I1.aa.low k (.inl (.inl h))) xc.size):P:=h
theorem ait(h:P:=by
 go_wp2_with fail
 go_meet
 case rel=>exact⟨by rw[hd.aa];rfl,rfl⟩):P:=h
theorem ae9(h:P:=by simp at hu;rcases hu with rfl|rfl|rfl|rfl|rfl|rfl|rfl|rfl <;> rfl):P:=h
theorem VP(h:P:=by have:=d0 wr kr;simpa [jP]using this):P:=h
theorem aic(h:P:=by
 clear hr;go_wp2_with fail
 go_meet
 case rel=>exact⟨e.aa,rfl⟩):P:=h
theorem ae5(h:P:=by obtain⟨css,h1,h2,h3⟩:=h;exact⟨css,mg hb h1,h2,h3⟩):P:=h
theorem afr(h:P:=by have HR:Hid (R=m):=ae (by rw[HO.aa,he];rfl);exact PA):P:=h
theorem agm(h:P:=by go_ret;exact⟨_,fE,by rw[HR.aa];exact hV,hU⟩):P:=h
theorem aeZ(h:P:=by rw[HF.aa];unfold fH;simpa [List.flatMap_append]using fN):P:=h
theorem ahm(h:P:=by simp only[binOp,Sem.run_bind,h,Result.andThen_ok,Sem.run_pure]):P:=h
theorem afy(h:P:=by clear hok;go_wp2;go_ret2;exact⟨_,gX,ho,hb⟩):P:=h
theorem ag9(h:P:=by go_wp2;go_ret;exact⟨_,rfl,by rw[lG.aa];exact HO.aa,kF⟩):P:=h
theorem aho(h:P:=by
 simp only[aE,List.lookup];exact h3.less λk hk=>by
  grind):P:=h
theorem aev(h:P:=by clear e hm;go_enter func331,ntmps331;exact ai5):P:=h
theorem aeD(h:P:=by rw[gj h,List.all_append];simp):P:=h
theorem afL(h:P:=by go_wp2;go_ret;exact⟨_,rfl,k1.tr ME,by rw[HR.aa];simp⟩):P:=h
theorem afU(h:P:=by rw[gj h,List.map_append];rfl):P:=h
theorem af2(h:P:=by clear h8;go_wp2;go_ret;exact⟨by rw[h9.aa];rfl,H3.aa⟩):P:=h
theorem aht(h:P:=by have fA:¬(k:Int)<(l.length:Int):=af;exact Wm):P:=h
theorem aew(h:P:=by have:=(List.getElem?_eq_some_iff.1 hu).1;simpa using this):P:=h
theorem afn(h:P:=by clear qR;go_wp2;go_ret;exact⟨gX,bC⟩):P:=h
theorem afM(h:P:=by go_wp2;go_ret;exact⟨_,rfl,k1.tr kr,fE⟩):P:=h
theorem ahQ(h:P:=by
 rcases hk with h|h
 ·exact .inl (.inl h)
 ·exact .inr h):P:=h
theorem aii(h:P:=by rintro e w4⟨v4,rfl,hO,k4⟩;exact⟨_,rfl,hO.now,k4⟩):P:=h
end Go.Proofs.YtfndfpdhlbmboaaGreat
