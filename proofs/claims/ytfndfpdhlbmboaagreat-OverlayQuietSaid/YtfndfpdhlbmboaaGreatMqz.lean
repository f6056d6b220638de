/-
  Scripts of tactics. Conditions: none.
-/
import Derived.ProofKit
import Derived.WalkKit
import Derived.WalkLawsBesides
import Derived.WalkSpells
import Derived.Deep.Draws
import Derived.Deep.AppendLies
import Derived.Maps.AppendAt
import Derived.Laws.CopyOwn
import Derived.Lib.Hide
import Derived.ScopeJumps
import Derived.Laws.IdiomStrings
import Derived.Laws.BytesArg
import Derived.WalkMore
import Derived.Maps.OwnSet
import Derived.Carry
import Derived.BigQuiet
import Derived.Deep.QuietTactic
import Derived.OpenShut
import Derived.ShutString
import Derived.ChangeOld
import Derived.Below
import Derived.Lib.SmallJoins
import Derived.Deep.Slices
import Derived.Deep.Fields
import Derived.Deep.CutRange
import Derived.Deep.LoopGhost
import Derived.Orders
import Derived.IntWalk
import Derived.Deep.RegionHeld3
import Derived.Deep.DrawnRows
import Derived.Sort.MapsRangeIn
import Derived.RangeFuncGives
import Derived.Deep.CutBlock
import Derived.RangeFuncKeeps
import Derived.RangeFuncLeaves
import Derived.RangeFuncFrom
import Derived.RangeFuncBox
import Derived.Shelf.Abstract
import Derived.OwnWalkIn
import Derived.TacticsInMore
import Derived.LoopNIn
import Derived.LoopIn
import Derived.RangeFuncNested
import Derived.Laws.BitsAllLaws
import Derived.Deep.RegionLaw
import Derived.Lib.SlicesDelete
import Derived.Shelf.SlSortCmp.WholeK
import Derived.Shelf.SlSortCmp.NoneTotal
import Derived.Shelf.Lay
import Derived.Ground.SlsfProg
import Derived.Conc.LoneCalls
import Derived.Conc.LoneSelect
namespace Go.Proofs.YtfndfpdhlbmboaaGreat
open Go Go.RowKit
set_option linter.unusedVariables false
variable {P:Prop}
theorem aD:type_of% @Nat.le_refl:=@Nat.le_refl
theorem bw:type_of% @Nat.lt_of_lt_of_le:=@Nat.lt_of_lt_of_le
theorem bo:type_of% @Nat.le_trans:=@Nat.le_trans
theorem cP:type_of% @Below.refl:=@Below.refl
theorem bT:type_of% @List.getElem_mem:=@List.getElem_mem
theorem gg:type_of% @List.take_succ_eq_append_getElem:=@List.take_succ_eq_append_getElem
theorem gI:type_of% @List.take_of_length_le:=@List.take_of_length_le
theorem cz:type_of% @List.forall_mem_cons:=@List.forall_mem_cons
theorem aQ:type_of% @List.cons_append:=@List.cons_append
theorem aN:type_of% @List.nil_append:=@List.nil_append
theorem rW:type_of% @List.setIfInBounds_toArray:=@List.setIfInBounds_toArray
theorem qZ:type_of% @List.set_cons_zero:=@List.set_cons_zero
theorem rh:type_of% @List.set_cons_succ:=@List.set_cons_succ
theorem Q5:type_of% @List.take_succ_cons:=@List.take_succ_cons
theorem Q8:type_of% @List.take_zero:=@List.take_zero
theorem dz:type_of% @Bool.and_eq_true:=@Bool.and_eq_true
theorem dq:type_of% @List.length_append:=@List.length_append
theorem dQ:type_of% @List.append_assoc:=@List.append_assoc
theorem vD:type_of% @List.all_eq_true:=@List.all_eq_true
theorem Co:type_of% @List.mem_append:=@List.mem_append
theorem eQ:type_of% @List.length_cons:=@List.length_cons
theorem lQ:type_of% @List.length_filter_le:=@List.length_filter_le
theorem nQ:type_of% @List.mem_of_mem_take:=@List.mem_of_mem_take
theorem jV:type_of% @World.ownsRow_nil:=@World.ownsRow_nil
theorem ig:type_of% @Exit.noGoto_ret:=@Exit.noGoto_ret
theorem p7:type_of% @World.ownsRow.alloc:=@World.ownsRow.alloc
theorem jU:type_of% @List.map_cons:=@List.map_cons
theorem vC:type_of% @List.flatMap_cons:=@List.flatMap_cons
theorem p8:type_of% @List.length_take:=@List.length_take
theorem eE:type_of% @Nat.zero_le:=@Nat.zero_le
theorem mz:type_of% @Nat.zero_add:=@Nat.zero_add
theorem nc:type_of% @List.take_length:=@List.take_length
theorem ae(h:P):Hid P:=h
theorem _root_.Go.RowKit.Hid.aa(h:Hid P):P:=h
theorem fo(h:P:=by kernel_rfl):P:=h
theorem aj(h:P:=by simp):P:=h
theorem af(h:P:=by omega):P:=h
theorem aB(h:P:=by grind):P:=h
theorem aeM(h:P:=by simpa [World.setCell]using h.size):P:=h
theorem aY(h:P:=by simp;omega):P:=h
theorem FI(h:P:=by simpa using hR.len):P:=h
theorem FJ(h:P:=by simp_all):P:=h
theorem B6(h:P:=by unfold maxLen;omega):P:=h
theorem xb(h:P:=by simp at h):P:=h
theorem sN(h:P:=by simpa using hk):P:=h
theorem PI(h:P:=by simp[setBlock]):P:=h
theorem FM(h:P:=by rw[e]):P:=h
theorem Vv(h:P:=by rw[hz2];omega):P:=h
theorem Lb(h:P:=by simpa using h0):P:=h
theorem B7(h:P:=by simpa using h):P:=h
theorem bD(h:P:=by go_num):P:=h
theorem ax(h:P:=by decide):P:=h
theorem cC(h:P:=by rfl):P:=h
theorem PK(h:P:=by simpa using hx):P:=h
theorem Ix(h:P:=by simp[h]):P:=h
theorem Iy(h:P:=by simpa using h4):P:=h
theorem Vx(h:P:=by simp[results,results308,go_sem,e0,e1,e2]):P:=h
theorem Lg(h:P:=by simp at hi):P:=h
theorem PM(h:P:=by rw[hc,Nat.succ_mul];omega):P:=h
theorem PN(h:P:=by simpa using hi):P:=h
theorem ae0(h:P:=by rw[<- h1];exact BV C css λcs hcs=>(h2 cs hcs).1):P:=h
theorem fk(h:P:=by assumption):P:=h
theorem Lh(h:P:=by trivial):P:=h
theorem VA(h:P:=by simpa [hlt]using qH):P:=h
theorem DV(h:P:=by simpa using hj):P:=h
theorem VB(h:P:=by simpa using hj'):P:=h
theorem VC(h:P:=by simp[Op.bytesLess]):P:=h
theorem afe(h:P:=by intro cs hcs;obtain⟨y,_,rfl⟩:=List.mem_map.1 hcs;rfl):P:=h
theorem B8(h:P:=by simpa using h1):P:=h
theorem VF(h:P:=by simp[ByteArray.size]):P:=h
theorem iq(h:P:=by rw[HE.aa];rfl):P:=h
theorem PS(h:P:=by rw[HC.aa,hv]):P:=h
theorem afk(h:P:=by rw[HE.aa,hv,hk];rfl):P:=h
theorem Lm(h:P:=by rw[HE.aa]):P:=h
theorem afn(h:P:=by intro e;injection e with e;exact RT e.symm):P:=h
theorem PU(h:P:=by rw[HL.aa];exact jV _ _ _ _):P:=h
theorem PW(h:P:=by simp[nt,hok]):P:=h
theorem VH(h:P:=by have:=h.1;omega):P:=h
theorem Ln(h:P:=by simp[h.1]):P:=h
theorem PX(h:P:=by simp only[oK];omega):P:=h
theorem Iz(h:P:=by simp[hx]):P:=h
theorem VO(h:P:=by simp[World.setCell]):P:=h
theorem afB(h:P:=by simpa using congrArg List.length h2):P:=h
theorem yy(h:P:=by simpa using h2):P:=h
theorem FP(h:P:=by rw[HB.aa];rfl):P:=h
theorem VR(h:P:=by rw[HE.aa,hok];rfl):P:=h
theorem afO(h:P:=by rw[HO.aa];simp[hn]):P:=h
theorem fJ(h:P:=by rw[HR.aa];rfl):P:=h
theorem Lo(h:P:=by simpa using h5):P:=h
theorem PZ(h:P:=by simp[jX,hok]):P:=h
theorem Lp(h:P:=by simpa using e):P:=h
theorem Lq(h:P:=by simpa using h3):P:=h
theorem P4(h:P:=by cases hj):P:=h
theorem yz(h:P:=by cases h):P:=h
theorem afT(h:P:=by obtain⟨-,v2,W2,e,h9⟩:=mg sk;cases e):P:=h
theorem afU(h:P:=by obtain⟨-,h1,W2,e⟩:=Jv q hq e;cases e):P:=h
theorem VS(h:P:=by rw[HR.aa];exact jV _ _ _ _):P:=h
theorem VU(h:P:=by have:=D.o;omega):P:=h
theorem tO(h:P:=by rw[World.size_alloc];exact eS):P:=h
theorem P6(h:P:=by rw[HD.aa,h];rfl):P:=h
theorem VV(h:P:=by rw[hd];rfl):P:=h
theorem IA(h:P:=by rw[hd,hok];rfl):P:=h
theorem afV(h:P:=by simp[results,results209,go_sem,e9]):P:=h
theorem P7(h:P:=by rw[HN.aa.1]):P:=h
theorem afW(h:P:=by rw[HN.aa.2];exact λW' u'=>⟨_,_,rfl,Bt.aa.1 _ (U9.tr (u'.more (by omega) (λ_ _ _=>by simp))),Bt.aa.2 _ (U9.tr (u'.more (by omega) (λ_ _ _=>by simp)))⟩):P:=h
theorem VW(h:P:=by simp[tR,hok]):P:=h
theorem VX(h:P:=by simp[zY,hok]):P:=h
theorem af0(h:P:=by simp[results,results119,go_sem,e9]):P:=h
theorem awI(h:P:=by refine⟨by simp[vL,bR],hi.1,hc,hi.2.1,hi.2.2,by simp[vL],by simp[vL],by simp[vL]⟩):P:=h
theorem Lr(h:P:=by simp[World.setCell];omega):P:=h
theorem FR(h:P:=by simpa using aV.nil _ _ _ _ _):P:=h
theorem FT(h:P:=by simp[Value.ownBlock]at h):P:=h
theorem af2(h:P:=by rw[h]at hb;injection hb with hb;have:=hW.size;omega):P:=h
theorem IB(h:P:=by rw[<- e]):P:=h
theorem af3(h:P:=by rw[HB.aa,HT.aa];rfl):P:=h
theorem DW(h:P:=by simp[e]):P:=h
theorem V1(h:P:=by have:=h.sz;omega):P:=h
theorem af8(h:P:=by have:=HW.aa.low;have:=hW.size;simp;omega):P:=h
theorem aFc(h:P:=by simp[dW,h]):P:=h
theorem nL(h:P:=by rw[HQ.aa];rfl):P:=h
theorem aga(h:P:=by rw[hbase];exact kW.size):P:=h
theorem V2(h:P:=by rw[hbase];exact kr.size):P:=h
theorem yA(h:P:=by simp[cV]):P:=h
theorem IE(h:P:=by simp[hy]):P:=h
theorem po(h:P:=by simp[bR]):P:=h
theorem V5(h:P:=by rw[HS.aa,hq];simp):P:=h
theorem V7(h:P:=by rw[HS.aa,hq,HT.aa];rfl):P:=h
theorem Wb(h:P:=by rw[HC.aa];simp[h0,h1]):P:=h
theorem awR(h:P:=by unfold sA fY;simp only[dz,decide_eq_true_eq];rintro ⟨⟨h1,h2⟩,h3⟩;exact⟨h3,h1,h2⟩):P:=h
theorem agp(h:P:=by rw[HC.aa,JE,oT];rfl):P:=h
theorem awS(h:P:=by unfold sA fY;simp only[dz,decide_eq_true_eq];rintro ⟨⟨h1,h2⟩,h3⟩;omega):P:=h
theorem Ai(h:P:=by cases e):P:=h
theorem We(h:P:=by rw[beq_eq_false_iff_ne];omega):P:=h
theorem agA(h:P:=by rcases hk with hk|hk;omega;have:=bS k hk;omega):P:=h
theorem agB(h:P:=by have:=h.len;show s.list.length<=_;omega):P:=h
theorem agD(h:P:=by rw[HA.aa,if_pos hfit]):P:=h
theorem agE(h:P:=by unfold Own;rw[KH,dq];exact eT):P:=h
theorem uY(h:P:=by rw[hk,e]):P:=h
theorem agG(h:P:=by rw[HA.aa,if_neg hfit]):P:=h
theorem Lt(h:P:=by rw[fy.aa];rfl):P:=h
theorem agJ(h:P:=by rw[HF.aa,if_neg (by rw[hok];decide)]):P:=h
theorem agK(h:P:=by rw[HA.aa,if_neg (by rw[hok];decide)]):P:=h
theorem agL(h:P:=by rw[HF.aa,if_pos hok]):P:=h
theorem agM(h:P:=by rw[HA.aa,if_pos hok]):P:=h
theorem agN(h:P:=by rw[HD.aa,if_neg hfit]):P:=h
theorem Qn(h:P:=by rw[fy.aa,zC.aa];rfl):P:=h
theorem agO(h:P:=by rw[HD.aa,if_pos hfit]):P:=h
theorem Qo(h:P:=by rw[hbase.aa];exact aD _):P:=h
theorem Wk(h:P:=by rw[hbase.aa];exact bo kr.size kA.size):P:=h
theorem axa(h:P:=by simp only[dq,K2,PB,Vj,p8];omega):P:=h
theorem Wl(h:P:=by rw[gg hlt,List.map_append];rfl):P:=h
theorem agS(h:P:=by simp[results,results137,go_sem,e9]):P:=h
theorem agT(h:P:=by rw[<- HR.aa,ht];rfl):P:=h
theorem Wm(h:P:=by have:=rU ht;omega):P:=h
theorem Wp(h:P:=by rw[e7];rfl):P:=h
theorem agW(h:P:=by simp[aF,List.lookup,ba,execOp,aG,go_sem]):P:=h
theorem ag0(h:P:=by rw[iT.aa,if_neg (by rw[hok];decide),if_neg h8,hb];rfl):P:=h
theorem FV(h:P:=by rw[HQ.aa];exact HW.aa):P:=h
theorem IH(h:P:=by simp[vL]):P:=h
theorem axb(h:P:=by intro u hu;exact cW.one (x:=vM) (w:=w) ⟨_,_,rfl,⟨none,0,rfl,Reads.nil _ _ _ _⟩,gy _ _⟩ u hu):P:=h
theorem AA(h:P:=by rw[HI.aa,ho]):P:=h
theorem Lx(h:P:=by rw[HC.aa,ho]):P:=h
theorem Wu(h:P:=by rw[HC.aa,ho];simp only[h1]):P:=h
theorem Cb(h:P:=by have:=hG.dk.len;omega):P:=h
theorem ag5(h:P:=by rw[HR.aa,if_pos h1]):P:=h
theorem ag6(h:P:=by rw[HR.aa,if_neg h1,if_pos h2]):P:=h
theorem ag7(h:P:=by rw[HR.aa,if_neg h1,if_neg h2]):P:=h
theorem Ww(h:P:=by simpa using hl):P:=h
theorem DX(h:P:=by simpa using hc):P:=h
theorem Wx(h:P:=by have:=G3.aa;omega):P:=h
theorem Wy(h:P:=by simp[results,results99,go_sem,e9]):P:=h
theorem ahc(h:P:=by simp[results,results106,go_sem,e9]):P:=h
theorem Cc(h:P:=by exact hrg):P:=h
theorem ahd(h:P:=by rw[yd.aa,Yv];rfl):P:=h
theorem Cd(h:P:=by rw[e];rfl):P:=h
theorem ahf(h:P:=by simp[aF,List.lookup,ba,e0,e8,execOp,aG,go_sem];exact⟨rfl,rfl⟩):P:=h
theorem Qr(h:P:=by first|rfl|(simp[ba];done)):P:=h
theorem ahg(h:P:=by simp[aF,List.lookup,ba,e0,e9,execOp,aG,go_sem];exact⟨rfl,rfl⟩):P:=h
theorem Wz(h:P:=by have:=HX.aa _ hx;omega):P:=h
theorem II(h:P:=by rw[gg hlt]):P:=h
theorem WE(h:P:=by grind [tT]):P:=h
theorem mX(h:P:=by simp[Cp]):P:=h
theorem ahl(h:P:=by rw[HR.aa,mK];rfl):P:=h
theorem WG(h:P:=by simp[aF,List.lookup,ba,Hd,execOp,aG,q8,z8,go_sem]):P:=h
theorem Qt(h:P:=by simp[mF,bR]):P:=h
theorem AE(h:P:=by simp[mF]):P:=h
theorem DY(h:P:=by simp[ju]):P:=h
theorem DZ(h:P:=by rw[HR.aa];exact HF.aa):P:=h
theorem aho(h:P:=by rw[hR'.1];exact Nat.mul_pos hp hs):P:=h
theorem ahp(h:P:=by rw[<- hE.1];exact h1):P:=h
theorem WH(h:P:=by rw[HT.aa,hq];simp):P:=h
theorem ahr(h:P:=by rcases hk with hk|hk;exact .inl hk;have:=bS k hk;exact .inr (by omega)):P:=h
theorem axe(h:P:=by rw[fy.aa];exact (bQ.less λk hk=>bw hk (bo oM k2.size)).low oM):P:=h
theorem FW(h:P:=by simp[hk]):P:=h
theorem WI(h:P:=by have:=lL.aa;omega):P:=h
theorem ahx(h:P:=by rcases hk with hk|hk;exact hk.elim;have:=(akF k hk).1;omega):P:=h
theorem ahy(h:P:=by rw[fy.aa];simp only[dq]at wO⊢;omega):P:=h
theorem ahC(h:P:=by have:=axf a b;rw[h1',h2]at this;simpa using this):P:=h
theorem LD(h:P:=by simp[h0]):P:=h
theorem WJ(h:P:=by simp[hf.aa.1 (by omega)]):P:=h
theorem ahD(h:P:=by simp[hf.aa.2.1 (by omega)]):P:=h
theorem tP(h:P:=by rw[HT.aa,hkk];rfl):P:=h
theorem ahF(h:P:=by simp[results,results301,go_sem,g0,g1,g2]):P:=h
theorem ahH(h:P:=by simp only[p5,hf]):P:=h
theorem WM(h:P:=by rw[<- HR.aa];rfl):P:=h
theorem WN(h:P:=by rw[HF.aa];exact aV.nil _ _ _ _ _):P:=h
theorem ahN(h:P:=by obtain⟨A9,c9,rfl⟩:=bE.slice;rfl):P:=h
theorem Qx(h:P:=by rw[hk];exact Hi):P:=h
theorem WO(h:P:=by subst e;have:=(bE.blk _ hk).1;omega):P:=h
theorem ahP(h:P:=by simp[aF,List.lookup,ba,execOp,aG,q9,z9,go_sem]):P:=h
theorem WQ(h:P:=by rw[<- J5.aa];exact zG.aa):P:=h
theorem axg(h:P:=by rw[HF.aa];unfold lr;rw[if_neg (by omega),if_pos (by simp[hb0,aR,hb2,bP])]):P:=h
theorem axh(h:P:=by rw[HF.aa];unfold lr;rw[if_neg (by omega),if_neg (by simp[hb0,aR,hb2,bP])]):P:=h
theorem WS(h:P:=by rw[HE.aa,gI (by omega)]):P:=h
theorem LG(h:P:=by simp at hpl;omega):P:=h
theorem D2(h:P:=by rw[HF.aa];rfl):P:=h
theorem axj(h:P:=by rw[HF.aa];unfold jB;unfold IZ at hb0;rw[if_pos (by simp only[Bool.or_eq_true]at hb0⊢;exact .inl (.inl hb0))]):P:=h
theorem axk(h:P:=by rw[HF.aa];unfold jB;unfold IZ at hb0;rw[if_neg (by simp only[Bool.or_eq_true,Bool.or_eq_false_iff]at hb0⊢;rw[hb0.1.1,hb0.1.2,hb0.2,hb2,bP];simp)]):P:=h
theorem ahY(h:P:=by have:=hG.tx.y6;omega):P:=h
theorem ah0(h:P:=by rw[HE.aa,Dd,YB];rfl):P:=h
theorem WV(h:P:=by have:=HM.aa k h;omega):P:=h
theorem ah1(h:P:=by simp[Value.ownBlock]at hk):P:=h
theorem QA(h:P:=by have:=HG.aa;omega):P:=h
theorem WW(h:P:=by rw[F0.aa,h];simp):P:=h
theorem WX(h:P:=by rw[F1.aa,h];simp):P:=h
theorem WY(h:P:=by rw[F2.aa,h];simp):P:=h
theorem ah4(h:P:=by rw[HR.aa,aj0];rfl):P:=h
theorem W7(h:P:=by rw[S6.aa];rfl):P:=h
theorem Xa(h:P:=by rw[<- ic.aa,HQ.aa];exact HH.aa.1):P:=h
theorem aia(h:P:=by rw[<- ic.aa,HQ.aa];exact akP.aa):P:=h
theorem QC(h:P:=by simp[ui,bR]):P:=h
theorem D3(h:P:=by simp[ui]):P:=h
theorem aif(h:P:=by rw[HF.aa];unfold vT;rw[ht];rfl):P:=h
theorem aii(h:P:=by simp at hpn;unfold nJ;omega):P:=h
theorem aik(h:P:=by rw[ayy,Nat.mod_eq_of_lt (by omega)]):P:=h
theorem ail(h:P:=by rw[Oc,List.drop_eq_getElem_cons hlt];rfl):P:=h
theorem aim(h:P:=by rw[HOA.aa,hab];rfl):P:=h
theorem IK(h:P:=by simp[hz]):P:=h
theorem QE(h:P:=by simp[Ad]):P:=h
theorem QG(h:P:=by simpa using h6):P:=h
theorem Xc(h:P:=by rw[HP.aa];rfl):P:=h
theorem air(h:P:=by rw[HR.aa];simp[h1]):P:=h
theorem LI(h:P:=by subst h2;simp):P:=h
theorem Xd(h:P:=by subst h5;simp):P:=h
theorem Xe(h:P:=by subst h6;simp):P:=h
theorem axq(h:P:=by simp[aF,List.lookup,ba,e0,e8,execOp,aG,go_sem,atY];exact⟨rfl,rfl⟩):P:=h
theorem QI(h:P:=by rw[HB.aa,hall.aa,hx];rfl):P:=h
theorem aiw(h:P:=by rw[HS.aa,if_neg];rw[HN.aa,EV.aa];simp):P:=h
theorem aix(h:P:=by rcases hk with hk|hk;exact bw hk oA;exact (bS k hk).2):P:=h
theorem Xf(h:P:=by rw[HB.aa,hx];simp):P:=h
theorem Xg(h:P:=by rw[Bool.eq_iff_iff];simp):P:=h
theorem LJ(h:P:=by rw[lL.aa];exact aD _):P:=h
theorem aiz(h:P:=by simp[results,results162,go_sem,e9]):P:=h
theorem LK(h:P:=by rw[IntKind.wrap_i64];omega):P:=h
theorem QK(h:P:=by subst e;omega):P:=h
theorem Xh(h:P:=by rw[HNM.aa];omega):P:=h
theorem Xi(h:P:=by show (l.length:Int)%2^64=_;omega):P:=h
theorem Xj(h:P:=by simpa using xW.aa):P:=h
theorem Xk(h:P:=by rw[gg hlt,List.flatMap_append];simp only[vC,List.flatMap_nil,List.append_nil,dQ]):P:=h
theorem Xo(h:P:=by simp only[gB];rw[HJ.aa]):P:=h
theorem Xp(h:P:=by have:=Bs.aa;rw[this]):P:=h
theorem LL(h:P:=by have:=kA.size;omega):P:=h
theorem aiJ(h:P:=by rintro (e|e) <;> omega):P:=h
theorem aiK(h:P:=by simp[results,results113,go_sem,e9]):P:=h
theorem aiN(h:P:=by rw[HE.aa,MS];rfl):P:=h
theorem aiP(h:P:=by rw[iT.aa,HMM.aa,hc1];rfl):P:=h
theorem aiQ(h:P:=by rw[HQ.aa,ik];rfl):P:=h
theorem xd(h:P:=by simp[tY]):P:=h
theorem aiS(h:P:=by have:=hr.calls;omega):P:=h
theorem LN(h:P:=by simp[rG]):P:=h
theorem aiT(h:P:=by simp[go_sem,execOp,scase,Act.eval]):P:=h
theorem aiU(h:P:=by simp[go_sem,execOp,rcase,Act.eval]):P:=h
theorem aiV(h:P:=by simp[results,f111,Frame.at]):P:=h
theorem AF(h:P:=by grind [cT]):P:=h
theorem LO(h:P:=by simpa using q3):P:=h
theorem Xy(h:P:=by simp[iE]):P:=h
theorem QM(h:P:=by simp at hj;omega):P:=h
theorem aiY(h:P:=by rw[h.len];exact g2):P:=h
theorem FY(h:P:=by unfold jb;rw[if_neg (by omega)]):P:=h
theorem XA(h:P:=by have:=h1.lo k e;omega):P:=h
theorem ai0(h:P:=by have:=PH h.lo ⟨hk.1,.inl hk.2⟩;exact⟨this.1,this.2.1⟩):P:=h
theorem XB(h:P:=by have:=h.lo k e;omega):P:=h
theorem XC(h:P:=by injection e with e;exact e.symm):P:=h
theorem ai7(h:P:=by rintro k (h|rfl) <;> omega):P:=h
theorem ai8(h:P:=by constructor <;> omega):P:=h
theorem ai9(h:P:=by rw[hX];exact .inr rfl):P:=h
theorem XF(h:P:=by unfold yM;omega):P:=h
theorem aja(h:P:=by simp[aF,List.lookup,hp];exact JL.aa W kW):P:=h
theorem ajb(h:P:=by simp[aF,List.lookup,hp];exact zH.aa W kW):P:=h
theorem axF(h:P:=by obtain⟨H,own,a,b,c,d,e,f⟩:=HE.aa;exact⟨H,own,a,b,c,d,e,by first|exact f|exact .inr trivial⟩):P:=h
theorem XG(h:P:=by have:=hs.lc;omega):P:=h
theorem ajd(h:P:=by simp[results,results14,go_sem,e9]):P:=h
theorem aje(h:P:=by simp[results,results32,go_sem,e9]):P:=h
theorem ajf(h:P:=by have:=HVB.aa.1 v Ow k e;have:=GY.aa;omega):P:=h
theorem IQ(h:P:=by simp[intOf];omega):P:=h
theorem ajh(h:P:=by simp[results,results19,go_sem,e9]):P:=h
theorem ajj(h:P:=by rw[<- HS.aa];exact List.take_prefix _ _):P:=h
theorem axK(h:P:=by rw[<- e];rw[show k+49*(pre++[(j:Int)]).length=k+49*pre.length+49 by simp;omega];exact hI9):P:=h
theorem ajk(h:P:=by have:=HKK.aa;omega):P:=h
theorem ajm(h:P:=by have:=(h.1.up hu).2.1.calls;omega):P:=h
theorem FZ(h:P:=by simp[vV]):P:=h
theorem F3(h:P:=by simp[Be]):P:=h
theorem xe(h:P:=by simpa using hz):P:=h
theorem ajs(h:P:=by decide +kernel):P:=h
theorem axQ(h:P:=by unfold Func.isWrapper;first|(rw[if_pos (by decide +kernel)];kernel_rfl)|(rw[if_neg (by decide +kernel)];exact⟨rfl,rfl⟩)):P:=h
theorem ajt(h:P:=by rw[hlo.aa];exact (k1.tr kW).size):P:=h
theorem QW(h:P:=by rw[<- ic.aa,HP.aa];exact rP.aa):P:=h
theorem Ls(h:P:=by
 obtain⟨j,hj,rfl,hO,kr⟩:=hrel;have qM:=k3.tr kr;by_cases hlt:j<es.length
 ·exact axR
 ·exact axS):P:=h
theorem axS(h:P:=by have aO:¬(j:Int)<es.length:=af;rw[gI af]at hO;have hxr:=fM.ay kr;have o6:=dU.ay kr;have zi:fQ wr w1.heap.size (.slice A1 f.length c1) f:=pZ fL kr;obtain⟨Ao,co,rfl,-⟩:=hO.slice;have q:=hxr.cell;have z:=hxr.frozen;go_upto_region 9 with fail;have eB:ah (wr.setCell ⟨w.heap.size,7,none⟩ (.slice Ao es.length co)) w.heap.size 126 #[.int .i64 k,.int .i64 b,.int .u64 l,.int .u64 s,.int .i64 cl,.int .u64 u,.slice A1 f.length c1,.slice Ao es.length co]:=hxr.aP 7 _;have iL:=o6.far (p:=⟨w.heap.size,7,none⟩) aj (.slice Ao es.length co);have k5:K w (wr.setCell ⟨w.heap.size,7,none⟩ (.slice Ao es.length co)):=K.set qM (aD _) 7 _;have qK:=fQ.up zi (w':=wr.setCell ⟨w.heap.size,7,none⟩ (.slice Ao es.length co)) (aK.set af 7 _);have dm:=hO.up (w':=wr.setCell ⟨w.heap.size,7,none⟩ (.slice Ao es.length co)) (aD _) (aK.set af 7 _);generalize wr.setCell _ _=w5 at *;have q:=eB.cell;have y:=iL.cell;have z:=iL.frozen;go_wp2;have df:ah (World.setCell w5 _ _) (w.heap.size+1) 126 #[.int .i64 k,.int .i64 0,.int .u64 0,.int .u64 0,.int .i64 0,.int .u64 0,.slice none 0 0,.slice none 0 0]:=(iL).aP 0 (.int .i64 k);have df:ah (World.setCell (World.setCell w5 _ _) _ _) (w.heap.size+1) 126 #[.int .i64 k,.int .i64 b,.int .u64 0,.int .u64 0,.int .i64 0,.int .u64 0,.slice none 0 0,.slice none 0 0]:=(df).aP 1 (.int .i64 b);have df:ah (World.setCell (World.setCell (World.setCell w5 _ _) _ _) _ _) (w.heap.size+1) 126 #[.int .i64 k,.int .i64 b,.int .u64 l,.int .u64 0,.int .i64 0,.int .u64 0,.slice none 0 0,.slice none 0 0]:=(df).aP 2 (.int .u64 l);have df:ah (World.setCell (World.setCell (World.setCell (World.setCell w5 _ _) _ _) _ _) _ _) (w.heap.size+1) 126 #[.int .i64 k,.int .i64 b,.int .u64 l,.int .u64 s,.int .i64 0,.int .u64 0,.slice none 0 0,.slice none 0 0]:=(df).aP 3 (.int .u64 s);have df:ah (World.setCell (World.setCell (World.setCell (World.setCell (World.setCell w5 _ _) _ _) _ _) _ _) _ _) (w.heap.size+1) 126 #[.int .i64 k,.int .i64 b,.int .u64 l,.int .u64 s,.int .i64 cl,.int .u64 0,.slice none 0 0,.slice none 0 0]:=(df).aP 4 (.int .i64 cl);have df:ah (World.setCell (World.setCell (World.setCell (World.setCell (World.setCell (World.setCell w5 _ _) _ _) _ _) _ _) _ _) _ _) (w.heap.size+1) 126 #[.int .i64 k,.int .i64 b,.int .u64 l,.int .u64 s,.int .i64 cl,.int .u64 u,.slice none 0 0,.slice none 0 0]:=(df).aP 5 (.int .u64 u);have df:ah (World.setCell (World.setCell (World.setCell (World.setCell (World.setCell (World.setCell (World.setCell w5 _ _) _ _) _ _) _ _) _ _) _ _) _ _) (w.heap.size+1) 126 #[.int .i64 k,.int .i64 b,.int .u64 l,.int .u64 s,.int .i64 cl,.int .u64 u,.slice A1 f.length c1,.slice none 0 0]:=(df).aP 6 (.slice A1 f.length c1);have df:ah (World.setCell (World.setCell (World.setCell (World.setCell (World.setCell (World.setCell (World.setCell (World.setCell w5 _ _) _ _) _ _) _ _) _ _) _ _) _ _) _ _) (w.heap.size+1) 126 #[.int .i64 k,.int .i64 b,.int .u64 l,.int .u64 s,.int .i64 cl,.int .u64 u,.slice A1 f.length c1,.slice Ao es.length co]:=(df).aP 7 (.slice Ao es.length co);have U9:=((((((((aK.rf (w.heap.size+1+1) none w5).tr (aK.set (b:=w.heap.size+1) af 0 (.int .i64 k))).tr (aK.set (b:=w.heap.size+1) af 1 (.int .i64 b))).tr (aK.set (b:=w.heap.size+1) af 2 (.int .u64 l))).tr (aK.set (b:=w.heap.size+1) af 3 (.int .u64 s))).tr (aK.set (b:=w.heap.size+1) af 4 (.int .i64 cl))).tr (aK.set (b:=w.heap.size+1) af 5 (.int .u64 u))).tr (aK.set (b:=w.heap.size+1) af 6 (.slice A1 f.length c1))).tr (aK.set (b:=w.heap.size+1) af 7 (.slice Ao es.length co));have K9:=(K.set (K.set (K.set (K.set (K.set (K.set (K.set (K.set k5 (r:=w.heap.size+1) af 0 (.int .i64 k)) (r:=w.heap.size+1) af 1 (.int .i64 b)) (r:=w.heap.size+1) af 2 (.int .u64 l)) (r:=w.heap.size+1) af 3 (.int .u64 s)) (r:=w.heap.size+1) af 4 (.int .i64 cl)) (r:=w.heap.size+1) af 5 (.int .u64 u)) (r:=w.heap.size+1) af 6 (.slice A1 f.length c1)) (r:=w.heap.size+1) af 7 (.slice Ao es.length co));generalize (World.setCell (World.setCell (World.setCell (World.setCell (World.setCell (World.setCell (World.setCell (World.setCell w5 _ _) _ _) _ _) _ _) _ _) _ _) _ _) _ _)=W9 at *;have e9:=df.cell;refine bodyPost_ret (v:=.agg #[.int .i64 k,.int .i64 b,.int .u64 l,.int .u64 s,.int .i64 cl,.int .u64 u,.slice A1 f.length c1,.slice Ao es.length co]) (by simp[results,zR.aa,go_sem,e9]) rfl ?_;exact⟨_,rfl,⟨_,_,rfl,mo af (fQ.up qK (U9.more af (λ_ _ _=>aj))),(aV.low (aV.floor (dm.up (aD _) (U9.more af (λ_ _ _=>aj))) af) af)⟩,K9⟩):P:=h
theorem axR(h:P:=by
 have aO:(j:Int)<es.length:=af;obtain⟨b1,off,cs,rfl,aR,hcl,⟨ve,rfl,iF⟩,hcell⟩:=IU he j hlt ax;have d0:wr.cell? ⟨b1,off+j,none⟩=some ve:=by have:=hcell 0 ax;rw[qM.cell af];simpa [cI]using this
 have HT:Hid (es.take (j+1)=es.take j++[es[j]]):=ae aj;have hej:=GM.aa _ (bT hlt);have Gl:=mY _ _ _ _ iF qM;generalize es[j]=ej at *;obtain⟨Ae,ce,rfl,hRe⟩:=Gl;have im:(es.take j).length<=1000000:=aY;have Dy:=kr.size;go_wp2_with (at_builtin;refine iM rfl _ _ 51 rfl wr.heap.size 76 _ 4 48 TE _ 0 [] rfl (jV _ _ _ _) _ Ae ej.length ce (ej.flatMap kJ) rfl hRe (Vf ej) ?p1 (aD _) ?_)
 case p1=>omega
 intro v2 w4 eT _ _ hb2;have Sa:=ae (qj.rel (show qj w4 wr.heap.size v2 ej from eT));obtain⟨A2,c2,rfl,-⟩:=(show qj w4 wr.heap.size v2 ej from eT).slice;have mN:=hO.blk;have cY:=hO.st hb2;have gW:=kr.tr hb2;obtain⟨css,hown,hcl,mO⟩:=cY;have il:=hb2.size;have kA:=K.new w4 (.cells #[.slice A2 ej.length c2] 51);have hbase:w3.heap.size<=(w4.alloc (.cells #[.slice A2 ej.length c2] 51)).heap.size:=LL;go_wp2_with (at_builtin;refine iM rfl _ _ 37 rfl w3.heap.size 51 _ 1 24 Jw _ _ _ rfl (p7 hown _) (w4.heap.size+1) _ 1 1 [.slice A2 ej.length c2] rfl ?c1 ?c2 ?c3 hbase ?_)
 case c1=>exact Reads.new w4 [.slice A2 ej.length c2] 51 1 1 rfl
 case c2=>intro u hu;simp at hu;subst hu;rfl
 case c3=>omega
 intro v9 w9 gJ cd eS bq;have k9:=(gW.tr kA).trans bq;have bE:aV w3.heap.size w3.heap.size 51 cI (es.take (j+1)) v9 w9:=by exact aju
 exact Wg):P:=h
theorem aie(h:P:=by
 cases L2
 ·exact axT
 ·exact axU):P:=h
theorem axT(h:P:=by
 have hLB:=sD.aa rfl;have HQ:Hid (P'=(Bj,lj++[x])):=ae W7;rw[hLB]at y8;have BN:=ae u3;have MC:=pg.aX BN.aa (λh=>by have:=Z8.aa.low ga (.inr h);have:=lL.aa;omega);have S7:=MC.cell;have Z9:=ae (S4.aa.to ((ag.aU uE _).tr BN.aa) (X:=bu p2) (λk hk=>(Hq.aa k hk).imp .inr id) λk _ hk=>hk);have kA:=K.new wS (.cells (aE x (.slice Af x.f.length cf) (.slice Ae x.es.length ce)) 126);have E9:=nY.st kA;have RB:=nY.blk;have hr:=ez.new (S:=aW) (e:=126) (v:=.agg (aE x (.slice Af x.f.length cf) (.slice Ae x.es.length ce))) Z9.aa 0 (eE _);have MD:=y8.st kA;have RC:=uR.size;have zQ:=ae (And.intro y8 (And.intro uR (And.intro Ey (And.intro Ez (And.intro En nY)))));have Jf:=ae MD;have aAn:lj.length<=1000000:=by simp at SU;omega
 clear y8 uR Ey Ez En nY MD uC q8;clear pN u3 iO N6;go_wp2_with (at_builtin;refine jz rfl _ _ 43 rfl _ 8 96 oZ rfl rfl E9 _ rfl x ?p1 ?p2 ?p3 ?_)
 case p1 => exact ah6
 case p2=>omega
 case p3=>exact bo RC kA.size
 intro v11 N4 Bb um Ge Jg;have akP:=ae Bb;have N5:=kA.size;have hBw:bA (λk=>((M k∨bu p' k)∨v11.ownBlock=some k)∨bu p3 k) p3 Bj N4:=Jf.aa.far (X:=λk=>(Value.slice Ao lj.length co).ownBlock=some k) (ag.eP um λk e=>e) (λk hk=>.inl (.inr hk)) (λk hk=>zQ.aa.2.2.2.2.1 k hk) (λk hk h=>by
  rcases h with (h|h)|h
  ·exact .inl (.inl h)
  ·exact ah7
  ·exact .inr h) (λk hk=>.inr hk) (λk hk=>by
   have hg:=um.size;rcases hk with (h|h)|h
   ·exact ah8
   ·exact (Bb.blk k h).2
   ·exact bw (Jf.aa.low k (.inr h)) um.size)
 have Mf:∀k,v11.ownBlock=some k->¬bu p3 k:=λk hk h=>by exact ah9
 have u11:=(zQ.aa.2.1.tr (ag.aU kA _)).gq (ag.eP (X:=λk=>(Value.slice Ao lj.length co).ownBlock=some k) um λk e=>e) λk hk h=>by have:=(RB k h).1;omega
 have HH:=ae (And.intro hBw (And.intro u11 (And.intro zQ.aa.2.2.1 (And.intro zQ.aa.2.2.2.1 Mf))));clear hBw u11 Mf hr E9 Bb um Ge Jg S7 MC;go_wp2;go_roundw
 case rel=>exact⟨j+1,p3,af,bD,Xa,HH.aa.2.1,HH.aa.2.2.1,HH.aa.2.2.2.1,HH.aa.2.2.2.2,aia⟩
 case measure=>simp[intOf];omega):P:=h
theorem aeW(h:P:=by
 apply aI (OW k N ⟨s.toArray⟩ _);intro W5 jG;have eN:=eN.below jG (by have:=dU.lt;simp;omega);have cH:=cH.ay jG;have hgr:=oG hgr (BU jG _);have Kt:=(ah.new W3 71 #[.int .i64 k,.int .i64 N,.string { data:=s.toArray }]).below jG aj;have jm:=jG.size;simp only[World.size_alloc]at jm;clear jG;by_cases hok:iP (k:Int) N ⟨s.toArray⟩=true
 ·exact axV
 ·have hok:iP (k:Int) N ⟨s.toArray⟩=false:=by simpa using hok
  have hch:(mc (k:Int) N ⟨s.toArray⟩ != 0)=true:=by simp[mc,hok]
  have Fi:=Kt.cell 0;have xN:=Kt.cell 1;have hv2:=Kt.cell 2;simp at Fi xN hv2;go_wp2;have Jn:(if (decide (3<k)||false||!(iP (k:Int) N ⟨s.toArray⟩))=true then (((0,0,[]),l3,true):(Int×Int×List UInt8)×List UInt8×Bool)else (((k:Int),N,s),l3,false))=((0,0,[]),l3,true):=by simp[hok]
  exact ajv):P:=h
theorem ajv(h:P:=by go_step3;refine⟨rfl,?_⟩;have hy0:=cH.cell 0;have CJ:=cH.cell 1;have hy2:=cH.cell 2;have hz0:=cH.frozen 0;have hz1:=cH.frozen 1;have hz2:=cH.frozen 2;simp at hy0 CJ hy2;obtain⟨A4,c4,hb4,_⟩:=id eN;have mI:=hb4.cell 1;have s5:=hb4.frozen 1;simp at mI;go_wp2;have eB:=(((cH.far (p:=⟨g,1,none⟩) aY (.bool true)).aP 0 (.int .i64 0)).aP 1 (.int .i64 0)).aP 2 (.string { data:=#[] });have e0:=eB.cell 0;have e1:=eB.cell 1;have e2:=eB.cell 2;simp at e0 e1 e2;have hw:=eN.Vw;rw[ig];refine bodyPost_ret (v:=vd (0,0,[])) Vx rfl ?_;rw[HN.aa,Jn];exact aeV):P:=h
theorem agl(h:P:=by
 go_wp2_with fail
 apply cF (CV.aa w1 k1) k1;intro w2 j2 k2;replace kk:=kk.tr j2;cases h2:jZ sf m.cG
 ·have HQ:Hid (iJ m=130):=ae (by unfold iJ;rw[show dI m=false from by simp[dI,h2]];rfl);go_wp2;go_ret;exact⟨nL,k2⟩
 go_wp2_with fail
 apply cF (CA.aa w2 k2) k2;intro w3 j3 k3;replace kk:=kk.tr j3;cases h3:jZ bH m.asks
 ·have HQ:Hid (iJ m=130):=ae (by unfold iJ;rw[show dI m=false from by simp[dI,h3]];rfl);go_wp2;go_ret;exact⟨nL,k3⟩
 go_wp2_with fail
 apply cF (CE.aa w3 k3) k3;intro w4 j4 k4;replace kk:=kk.tr j4;cases h4:jZ bH m.entries
 ·have HQ:Hid (iJ m=130):=ae (by unfold iJ;rw[show dI m=false from by simp[dI,h4]];rfl);go_wp2;go_ret;exact⟨nL,k4⟩
 go_wp2_with fail
 apply cF (CP.aa w4 k4) k4;intro w5 j5 k5;replace kk:=kk.tr j5;cases h5:jZ bH m.eD
 ·have HQ:Hid (iJ m=130):=ae (by unfold iJ;rw[show dI m=false from by simp[dI,h5]];rfl);go_wp2;go_ret;exact⟨nL,k5⟩
 go_wp2_with fail
 apply cF (CB.aa w5 k5) k5;intro w6 j6 k6;replace kk:=kk.tr j6;cases h6:jZ nW m.dF
 ·have HQ:Hid (iJ m=130):=ae (by unfold iJ;rw[show dI m=false from by simp[dI,h6]];rfl);go_wp2;go_ret;exact⟨nL,k6⟩
 go_wp2_with fail
 apply cF (CD.aa w6 k6) k6;intro w7 j7 k7;replace kk:=kk.tr j7;cases h7:jZ nW m.ends
 ·have HQ:Hid (iJ m=130):=ae (by unfold iJ;rw[show dI m=false from by simp[dI,h7]];rfl);go_wp2;go_ret;exact⟨nL,k7⟩
 have HQ:Hid (iJ m=0):=ae (by unfold iJ;rw[show dI m=true from by simp[dI,hK,h2,h3,h4,h5,h6,h7]];rfl);go_wp2;go_ret;exact⟨nL,k7⟩):P:=h
theorem aju(h:P:=by
 rw[HT.aa];exact aV.snoc hcl (λw' u=>mO w' (aK.tr (aK.aU kA _ _) u)) (by rw[List.length_take_of_le (show j<=es.length by omega)];exact gJ) cd tO
  (λw' u=>Sa.aa w' ((aK.tr (aK.aU kA _ _) u).more af (λk hk _ e=>aB)))):P:=h
theorem aeT(h:P:=by
 rw[DQ k,HKN.aa];apply bN (wW A m c l KN qG _ B (hR.below aka hB) aY af);rintro v1 w1⟨gM,aR⟩;have hx1:=(ah.new w 71 #[.int .i64 k,.int .i64 n,.string s]).below aR aj;have ik:=hx1.cell 2;simp at ik;obtain⟨A1,c1,rfl,j9⟩:=gM.slice;have kQ:(l++az KN).length<=m+9:=by have:=Hml.aa;simp;omega
 generalize mH:(l++az KN).length=m1 at *;clear mH gM;have hz1:=aR.size;simp only[World.size_alloc]at hz1;go_wp2_with fail
 apply bN (wW A1 m1 c1 _ NV hnl w1 w1.heap.size j9 (aD _) af);rintro v2 w2⟨eT,hb2⟩;have hx2:=hx1.below hb2 af;have oD:=hx2.cell 2;simp at oD;clear ik hx1 j9;obtain⟨A2,c2,rfl,xF⟩:=eT.slice;have fg:(l++az KN++az NV).length<=m+18:=by have:=Hml.aa;simp;omega
 generalize hm2:(l++az KN++az NV).length=m2 at *;clear hm2 eT;have hz2:=hb2.size;go_wp2_with fail
 have hcb:Below w2.heap.size w2 (w2.drew.alloc (.cells (bytesRow s (grownCap w2 s.size 0 5)) 5 ((bytesRow s (grownCap w2 s.size 0 5)).size,(bytesRow s (grownCap w2 s.size 0 5)).size+1))):=((cP _ w2).drew).alloc (aD _) _;apply bN (OV A2 _ m2 c2 s.size _ _ (dS s) _ (w2.heap.size+1) ((xF.below hcb (aD _)).more af) (Reads.conv w2.drew s _ _ _) aj af af);rintro v3 w3⟨fL,bP⟩;go_wp2;go_ret;refine⟨_,rfl,?_,?_⟩
 ·unfold nO;rw[HKN.aa,YZ.aa];refine tH ?_ fL;simp;omega
 ·exact ((aka.trans (aR.mono aj)).trans (hb2.mono af)).trans ((hcb.mono af).trans (bP.mono aY))):P:=h
theorem yD(h:P:=by
 go_wp2_with fail
 refine C.aa.mono ?_;rintro e w2⟨rfl,hQ⟩;exact ajq):P:=h
theorem P5(h:P:=by have q:=D.rv.cell;have z:=D.rv.frozen;go_wp2;clear q z;have P9:=D.put zEL rfl;simp only[dY,zEL,Nat.reduceAdd,mz]at P9;generalize World.setCell _ _ _=W9 at *;have e9:=P9.1.cell;refine bodyPost_ret (v:=.tuple #[.agg eM,.int .i64 110]) afV rfl ?_;exact⟨.agg eM,P7,by rw[HN.aa.2];exact λ_ _=>auV _,P9.2.1⟩):P:=h
theorem axV(h:P:=by
 have hch:(mc (k:Int) N ⟨s.toArray⟩ != 0)=false:=by simp[mc,hok]
 have hy0:=cH.cell 0;have CJ:=cH.cell 1;have hy2:=cH.cell 2;have hz0:=cH.frozen 0;have hz1:=cH.frozen 1;have hz2:=cH.frozen 2;have Fi:=Kt.cell 0;have xN:=Kt.cell 1;have hv2:=Kt.cell 2;simp at hy0 CJ hy2 Fi xN hv2;go_wp2;have eB:=((cH.aP 0 (.int .i64 k)).aP 1 (.int .i64 N)).aP 2 (.string { data:=s.toArray });have e0:=eB.cell 0;have e1:=eB.cell 1;have e2:=eB.cell 2;simp at e0 e1 e2;simp only[Exit.jump];refine bodyPost_ret (v:=vd (k,N,s)) Vx rfl ?_;have Jn:(if (decide (3<k)||false||!(iP (k:Int) N ⟨s.toArray⟩))=true then (((0,0,[]),l3,true):(Int×Int×List UInt8)×List UInt8×Bool)else (((k:Int),N,s),l3,false))=(((k:Int),N,s),l3,false):=by simp[h3,hok]
 rw[HN.aa,Jn];refine⟨rfl,?_,?_⟩
 ·exact Rd.below (B:=w.heap.size) eN ((((cP _ _).setCell aj _).setCell aj _).setCell aj _) hg
 ·exact yx (yx (yx hgr aj _) aj _) aj _):P:=h
theorem VY(h:P:=by go_wp2;clear q z;have P9:=D.put zRL rfl;simp only[dY,zRL,Nat.reduceAdd,mz]at P9;generalize World.setCell _ _ _=W9 at *;have e9:=P9.1.cell;refine bodyPost_ret (v:=.tuple #[.agg rz,.int .i64 110]) af0 rfl ?_;exact⟨.agg rz,P7,by rw[HN.aa.2];exact λ_ _=>au6 _,P9.2.1⟩):P:=h
theorem PL(h:P:=by
 go_in;go_wp2;refine Kw 0 rfl ?_;go_wp2_with fail
 apply aI HN.aa;rintro w2⟨oU,hgr⟩;obtain⟨h9,om⟩:=hfin w2 oU hgr;obtain⟨A,c,hb,hr,hc1,ik⟩:=oU;have eH:=hb.cell 0;have hx1:=hb.cell 1;have s5:=hb.frozen 1;simp at eH hx1;go_wp2;go_step3;refine⟨rfl,?_⟩;go_wp2;rw[ig];go_ret;exact⟨_,rfl,h9,om⟩):P:=h
theorem Xw(h:P:=by
 have q:=D.rv.cell;have z:=D.rv.frozen;have aj9:Hid (pI b=none):=ae (by rw[HD.aa];simp);obtain rfl:CK=130:=by rw[Oj.aa,aj9.aa];rfl
 obtain rfl:MX=vP:=by rw[HMX.aa,aj9.aa];rfl
 go_wp2;have P9:=D.put zML rfl;simp only[dY,zML,Nat.reduceAdd,mz]at P9;clear q z;generalize World.setCell _ _ _=W9 at *;have e9:=P9.1.cell;refine bodyPost_ret (v:=.tuple #[.agg Jk,.int .i64 130]) aiK rfl ?_;exact⟨.agg Jk,rfl,λ_ _=>av3 _,P9.2.1⟩):P:=h
theorem WZ(h:P:=by
 have Kn:ag (λk=>k=g∨k=g+1∨k=g+2) w6 w9:=⟨sH.os.trans u8.os,sH.tape.trans u8.tape,sH.output.trans u8.output,bo u8.size sH.size,λk h1 h2=>(sH.block k (bw h1 u8.size) aB).trans (u8.block k h1 h2)⟩;clear CC hB T8 SV SX SY q8 ql aAh aAi aAj;have HD:=ae SZ;have u9:=Kn;clear SZ;go_wp2;go_roundw
 case rel=>exact⟨j+1,af,bD,HD.aa,u9⟩
 case measure=>simp[intOf];omega):P:=h
theorem IC(h:P:=by
 go_wp2;go_roundw
 case rel=>exact⟨k+1,af,bD,o6,kW⟩
 case measure=>simp[intOf];omega):P:=h
theorem qT(h:P:=by go_wp2;go_ret;exact⟨iq,rfl⟩):P:=h
theorem Ly(h:P:=by simp only[cz,aN,aQ,bV,bW,aJ]at hp;obtain⟨⟨v',e,hO⟩,-⟩:=hp;simp[bO,aF,List.lookup,e,cU,execOp,aG,cP,go_sem];exact hO):P:=h
theorem mW(h:P:=by go_wp2;go_ret;exact⟨fJ,k1⟩):P:=h
theorem Lz(h:P:=by simp only[cz,aN,aQ,bV,bW,aJ]at hp;obtain⟨⟨v',e,hO⟩,-⟩:=hp;simp[bO,aF,List.lookup,e,cU,execOp,aG,aJ,cP,go_sem]):P:=h
theorem Ql(h:P:=by
 obtain⟨rfl,rfl⟩:xs=[]/\n=0:=by exact axW
 go_wp2;go_ret;exact⟨_,rfl,jV _ _ _ _,kk⟩):P:=h
theorem ahi(h:P:=by
 rintro v2 w2⟨ho,k2⟩;obtain⟨oB,oC,rfl,hF⟩:=Ca ho;have bS:=hO.blk;have hz:=jh.size;replace hO:=hO.st k2;have qO:=jh.tr k2;have hr:=ez.new (S:=aW) (e:=126) (v:=.agg (aE x oB oC)) hF 0 (eE _);have bQ:=hO.st ((K.rf w2).al (.cells (aE x oB oC) 126));have cO:=qO.tr ((K.rf w2).al (.cells (aE x oB oC) 126));go_wp2_with (at_builtin;refine jz rfl _ _ 43 rfl _ 8 96 oZ rfl rfl bQ _ rfl x ?p1 ?p2 ?p3 ?_)
 case p1=>exact hr.less λk hk=>agA
 case p2=>simp;omega
 case p3=>exact cO.size
 intro v9 w9 bE cd _ bq;rw[<- HT.aa]at bE;have iR:=cO.trans bq;exact WU):P:=h
theorem ajw(h:P:=by
 have wP:=iR.trans bq;go_wp2;go_roundw
 case rel=>exact⟨j+1,af,bD,by rw[<- ic.aa,HP.aa];exact ala,wP⟩
 case measure=>simp[intOf];omega):P:=h
theorem agq(h:P:=by
 rintro s A B row⟨v,hv,hrow,hB,hz⟩ hg hr;have hne:∀g t cs,ah A g t cs->some g≠row:=λg t cs hb e=>by obtain⟨h1,o,h2,h3⟩:=hr g e.symm;unfold ah at hb;rw[hb]at h2;injection h2 with h2;rw[<- h2]at h3;cases h3
 refine⟨v,hv.kept hg (hne _ _ _ hv),FB hrow λg _ h1 h2=>hg.block g h1 ?_,⟨hg.os.trans hB.os,hg.tape.trans hB.tape,hg.output.trans hB.output,bo hB.size hg.size,λk hk=>(hg.block k (bw hk hB.size) λe=>?_).trans (hB.block k hk)⟩,bo hz hg.size⟩
 ·obtain⟨cur,hb⟩:=lO hrow h2;exact hne _ _ _ hb
 ·obtain⟨h1,-⟩:=hr k e.symm;have:=k2.size;omega):P:=h
theorem Wg(h:P:=by
 go_wp2;go_roundw
 case rel=>exact⟨j+1,af,bD,bE,k9⟩
 case measure=>simp[intOf];omega):P:=h
theorem ID(h:P:=by simp only[cz,aN,aQ,bV,bW,aJ]at hp;exact⟨hp.1,hp.2.1.less λ_ h=>h⟩):P:=h
theorem agz(h:P:=by
 have hb:=ah.new w 5 #[];have k1:=hb.aS;have ho:(w.alloc (.cells #[] 5)).ownsRow w.heap.size 5 1 (.slice (some ⟨w.heap.size,0,none⟩) 0 0) 0 [] :=
  ⟨rfl,.inr ⟨w.heap.size,0,_,rfl,aD _,hb,aD _,B6,aj,aj⟩⟩
 have j9:=(hR.below k1 (aD _)).more k1.size;go_wp2_with (at_builtin;refine iM rfl _ _ 94 rfl w.heap.size 5 _ 1 1 TB _ 0 [] rfl ho _ (some ad) n c xs rfl j9 h1 ?p1 k1.size ?_)
 case p1=>omega
 exact Wd):P:=h
theorem ahv(h:P:=by
 have HR:Hid (i7 a b=if a<b then -1 else if b<a then 1 else 0):=ae rfl;generalize i7 a b=R at *;go_in;go_wp2_with fail
 apply aI (C1.aa a w);intro w2 k2;go_wp2_with fail
 apply cF (C1.aa b w2) k2;intro w3 k3 k;by_cases h1:a<b
 ·have HE:Hid (R=-1):=ae ag5;exact XL
 by_cases h2:b<a
 ·have HE:Hid (R=1):=ae ag6;exact XL
 have HE:Hid (R=0):=ae ag7;exact XL):P:=h
theorem IG(h:P:=by
 go_wp2;try rw[ig]
 exact ajx):P:=h
theorem aeZ(h:P:=by
 intro k;induction k with
 | zero=>intro _;exact⟨[],rfl,aj,aj⟩
 | succ k ih => exact axX):P:=h
theorem ah9(h:P:=by
 rcases Ge with e|e
 ·exact zQ.aa.2.2.2.2.1 k (e▸hk) h
 ·exact axY):P:=h
theorem Ld(h:P:=by go_in;go_wp2;refine Kw 0 rfl ?_;go_wp2;go_step3;refine⟨rfl,?_⟩;go_wp2;rw[ig];go_ret;exact⟨rfl,AU _ rfl⟩):P:=h
theorem LA(h:P:=by have aO:¬(j:Int)<l.length:=af;obtain rfl:j=l.length:=af;rw[nc]at hO;exact Qm):P:=h
theorem LF(h:P:=by
 go_wp2;go_roundw
 case rel=>exact⟨j+1,af,bD,by rw[<- ic.aa,HP.aa];exact cY,gW⟩
 case measure=>simp[intOf];omega):P:=h
theorem ajx(h:P:=by go_ret2;exact⟨_,nL,FV,bB⟩):P:=h
theorem Qq(h:P:=by
 rcases hx with hx|hx|hx
 ·have:=Zw.aa;have:=xX.aa;have:=Nk.aa;omega
 ·have:=(xU.aa.blk gp hx).1;have:=Nk.aa;omega
 ·have:=JL.aa gp hx;have:=xX.aa;omega):P:=h
theorem Ah(h:P:=by go_wp2;go_ret;exact⟨fJ,kk⟩):P:=h
theorem Wq(h:P:=by simp only[cz,aN,aQ,bV,bW,aJ]at hp;obtain⟨⟨JS,JT,e3,hF⟩,h5,-⟩:=hp;simp[e3,h5,bO,aF,List.lookup,cU,execOp,aG,cP,go_sem];exact⟨_,_,rfl,Ex.tx hF⟩):P:=h
theorem axZ(h:P:=by exact Rd.below (B:=w.heap.size) hw.1 ((((cP _ _).setCell aj _).setCell aj _).setCell aj _) hg):P:=h
theorem axW(h:P:=by
 rcases Nat.eq_zero_or_pos xs.length with h|h
 ·refine⟨List.eq_nil_of_length_eq_zero h,?_⟩;have:=hR.1;omega
 ·obtain⟨b,off,e,-⟩:=hR.2 h;cases e):P:=h
theorem axU(h:P:=by
 have HQ:Hid (P'=(L1,lj)):=ae W7;have HH:=ae (And.intro y8 (And.intro uR (And.intro Ey (And.intro Ez (And.intro En nY)))));clear y8 uR Ey Ez En nY pN u3 iO N6 uC;go_wp2;go_roundw
 case rel=>exact⟨j+1,p3,af,bD,Xa,HH.aa.2.1,HH.aa.2.2.1,HH.aa.2.2.2.1,HH.aa.2.2.2.2.1,by rw[<- ic.aa,HQ.aa];exact HH.aa.2.2.2.2.2⟩
 case measure=>simp[intOf];omega):P:=h
theorem ahz(h:P:=by
 have aA8:=iU.blk;have C3:=ae (acZ _ _ R v8 w8 iU SN hRs);obtain⟨A8,c8,rfl⟩:=iU.slice;go_wp2_with fail
 apply aI C3.aa;rintro w9⟨bE,u9⟩;have pV:=SL.size;have kF:=u9.k tu λk hk=>by have:=(aA8 k hk).1;have:=lL.aa;omega
 have HO:Hid (aC (λk=>k<lo) lo 246 iz R (.slice A8 R.length c8) w9):=ae ((bE.less λk hk=>af).low af);exact ahw):P:=h
theorem axX(h:P:=by
 intro hk;obtain⟨css,h1,h2,h3⟩:=ih af;obtain⟨cs,h4,h5,h6⟩:=hex k af;refine⟨css++[cs],by simp[h1],?_,λi j hik hj=>?_⟩
 ·intro x hx;rcases List.mem_append.1 hx with hx|hx
  ·exact h2 x hx
  ·simp at hx;subst hx;exact⟨h4,h5⟩
 ·by_cases aA9:i<k
  ·rw[h3 i j aA9 hj,List.getElem?_append_left af]
  ·obtain rfl:i=k:=af;rw[h6 j hj,List.getElem?_append_right af,h1];simp):P:=h
theorem ahR(h:P:=by
 have HE:=ae (by
  have:=hall.aa;rw[gI af]at this;exact this)
 go_wp2;go_ret;exact⟨_,rfl,kr,by rw[HE.aa];simp⟩):P:=h
theorem Qp(h:P:=by
 clear gJ cd eS bq hown mO yI kA q5;go_wp2;go_roundw
 case rel=>exact⟨j+1,af,bD,xV,k9⟩
 case measure=>simp[intOf];omega):P:=h
theorem Xm(h:P:=by
 rintro v4 w4⟨hs4,k4⟩;rw[<- HS.aa]at hs4;have xZ:=ae (mo uA.size hs4);have rK:=uA.tr k4;go_wp2;go_roundw
 case rel=>exact⟨j+1,af,bD,xZ,rK⟩
 case measure=>simp[intOf];omega):P:=h
theorem Xr(h:P:=by have u0:=(uj.tr u4).tr (ag.aU kA _);exact⟨pK.os.trans u0.os,pK.tape.trans u0.tape,pK.output.trans u0.output,bo u0.size pK.size,λk hk hx=>(pK.block k hk).trans (u0.block k hk hx)⟩):P:=h
theorem V9(h:P:=by
 have aO:¬(j:Int)<l.length:=af;have HR:Hid (R=true):=ae (by
  have h1:=HT.aa;rw[gI af]at h1;rw[HI.aa,h1];simp[jn])
 go_wp2;go_ret;exact⟨fJ,kr⟩):P:=h
theorem Wd(h:P:=by intro v4 w4 fw _ _ hb4;have HO:=ae (by simpa using fw);have k4:=k1.trans hb4;clear fw ho hb;go_wp2;go_ret;exact⟨_,rfl,HO.aa,k4⟩):P:=h
theorem Qz(h:P:=by
 go_wp2;go_roundw
 case rel=>exact⟨j+1,_,af,bD,mj,by rw[<- ic.aa,HQ.aa];exact x9,hat,uW⟩
 case measure=>simp[intOf];omega):P:=h
theorem axY(h:P:=by rw[e]at hk;injection hk with hk;have:=zQ.aa.1.low k (.inr h);have h9:wS.heap.size<(wS.alloc (.cells (aE x (.slice Af x.f.length cf) (.slice Ae x.es.length ce)) 126)).heap.size:=aj;omega):P:=h
theorem ajy(h:P:=by rintro w' rfl;exact aiO):P:=h
theorem XD(h:P:=by simp only[cz,aN,aQ,bV,bW,aJ]at hp;obtain⟨⟨p,code,e⟩,-⟩:=hp;exact ai5):P:=h
theorem PJ(h:P:=by go_in;go_wp2;go_ret;refine⟨?_,rfl⟩;rw[HE.aa];show Ending.returned (.int _ _)=Ending.returned (.int _ _);congr 2;all_goals omega):P:=h
theorem WR(h:P:=by
 go_wp2;go_roundw
 case rel=>exact⟨j+1,af,bD,by rw[<- ic.aa,HP.aa];exact bE,wP⟩
 case measure=>simp[intOf];omega):P:=h
theorem WU(h:P:=by
 go_wp2;go_roundw
 case rel=>exact⟨j+1,af,bD,bE,iR⟩
 case measure=>simp[intOf];omega):P:=h
theorem QH(h:P:=by
 go_wp2_with (with_reducible refine ac9 rfl (.tmp 23) (.tmp 24) rfl a b rfl rfl ?_)
 exact Cf):P:=h
theorem WC(h:P:=by simp only[cz,aN,aQ,bV,bW,aJ]at hp;obtain⟨⟨oB,oC,e6,hF⟩,-⟩:=hp;simp[aF,List.lookup,e6];exact⟨rfl,hF⟩):P:=h
theorem aht(h:P:=by
 have Gl:=mY _ _ _ _ iF kr;generalize es[j]=ej at *;obtain⟨Ae,ce,rfl,hRe⟩:=Gl;have im:(es.take j).length<=1000000:=aY;have Dy:=kr.size;go_wp2_with (at_builtin;refine iM rfl _ _ 51 rfl wr.heap.size 76 _ 4 48 TE _ 0 [] rfl (jV _ _ _ _) _ Ae ej.length ce (ej.flatMap kJ) rfl hRe (Vf ej) ?p1 (aD _) ?_)
 case p1=>omega
 intro v2 w4 eT _ _ hb2;have Sa:=ae (qj.rel (show qj w4 wr.heap.size v2 ej from eT));obtain⟨A2,c2,rfl,-⟩:=(show qj w4 wr.heap.size v2 ej from eT).slice;have mN:=hO.blk;have cY:=hO.st hb2;have gW:=kr.tr hb2;obtain⟨css,hown,hcl,mO⟩:=cY;have il:=hb2.size;have kA:=K.new w4 (.cells #[.slice A2 ej.length c2] 51);have hbase:w.heap.size<=(w4.alloc (.cells #[.slice A2 ej.length c2] 51)).heap.size:=LL;go_wp2_with (at_builtin;refine iM rfl _ _ 37 rfl w.heap.size 51 _ 1 24 Jw _ _ _ rfl (p7 hown _) (w4.heap.size+1) _ 1 1 [.slice A2 ej.length c2] rfl ?c1 ?c2 ?c3 hbase ?_)
 case c1=>exact Reads.new w4 [.slice A2 ej.length c2] 51 1 1 rfl
 case c2=>intro u hu;simp at hu;subst hu;rfl
 case c3=>omega
 intro v9 w9 gJ cd eS bq;have k9:=(gW.tr kA).trans bq;have bE:aV w.heap.size w.heap.size 51 cI (es.take (j+1)) v9 w9:=by exact aju
 exact Wg):P:=h
theorem WK(h:P:=by
 go_wp2_with fail
 apply cF C1.aa kr;intro w2 k2 kW;cases hx:q t
 ·exact ajz
 ·exact ax0):P:=h
theorem age(h:P:=by
 by_cases h1:xs.size<=100
 ·exact ax1
 ·have h1':(100:Int)<(xs.size:Int):=af;have HE:=ae (HF.aa af);exact qT):P:=h
theorem ahX(h:P:=by
 have iR:=pX.tr kA;have oA:=bo k8.size kA.size;go_wp2_with (at_builtin;refine jz rfl _ _ 43 rfl _ 8 96 oZ rfl rfl rP.a _ rfl x ?p1 ?p2 ?p3 ?_)
 case p1 =>
  exact hr.less λk hk=>by
   rcases hk with (hk|hk)|hk
   ·omega
   ·have:=eU k hk;omega
   ·have:=tC k hk;omega
 case p2=>omega
 case p3=>exact bo My oA
 exact aih):P:=h
theorem ax1(h:P:=by
 have h1':¬(100:Int)<(xs.size:Int):=af;by_cases h2:xt.size<=100
 ·exact ax2
 ·have GC:(100:Int)<(xt.size:Int):=af;have HE:=ae (HF.aa af);exact qT):P:=h
theorem ajz(h:P:=by have o6:Hid ((l.take (k+1)).any q=false):=ae QI;exact IC):P:=h
theorem IJ(h:P:=by rintro w' rfl;have JX:=pU;go_wp2;go_ret;exact⟨iq,JX⟩):P:=h
theorem Xt(h:P:=by
 clear gJ cd eS bq hown mO Di Gt;go_wp2;go_roundw
 case rel=>exact⟨j+1,af,bD,es++[x],lk,DC,DD,EP,YO,xV,u9⟩
 case measure=>simp[intOf];omega):P:=h
theorem afP(h:P:=by
 go_wp2_with fail
 apply cF (Kx x _ _ (EK _ k1)) k1;intro w2 k2 bB;have e3:=au0 x;cases he:bH x
 ·exact afM
 ·exact afN):P:=h
theorem Ce(h:P:=by go_wp2;go_ret;exact⟨iq,pU⟩):P:=h
theorem LP(h:P:=by go_wp2;go_ret;exact⟨fJ,rfl⟩):P:=h
theorem ahj(h:P:=by rintro v2 w4⟨ho,k4⟩;exact⟨_,rfl,by obtain⟨oB,oC,e,hF⟩:=Ca ho;exact⟨oB,oC,e,hF.less λk hk=>bw hk kW.size⟩,k4⟩):P:=h
theorem Qc(h:P:=by simp only[cz,aN,aQ,bV,bW,aJ]at hp;exact hp.1):P:=h
theorem aiI(h:P:=by go_wp2;have e9:=bq.cell;rw[J0]at e9 Bv xR Kn;simp only[dY,Nat.reduceAdd,mz]at e9 Bv xR Kn;refine bodyPost_ret (v:=.agg (aE x (.slice A9 x.f.length c9) (.slice D9 x.es.length d9))) (by simp[results,results196,go_sem,e9]) rfl ?_;exact⟨_,rfl,Bv,xR,Kn⟩):P:=h
theorem PY(h:P:=by go_wp2;go_ret;exact⟨fJ,bB⟩):P:=h
theorem VM(h:P:=by rintro ⟨g,cap,cur,g1,g2,g3,g4⟩;exact⟨g,cap,cur,g1,g2,(u.block g g2 (Array.getElem?_eq_some_iff.1 g3).1 aj).trans g3,g4⟩):P:=h
theorem Cg(h:P:=by exact absurd (hb2.gY hb) ax):P:=h
theorem aeX(h:P:=by go_wp2;generalize W3.alloc _=W4 at *;have Jn:(if (decide (3<k)||true||!(iP (k:Int) N ⟨s.toArray⟩))=true then (((0,0,[]),l3,true):(Int×Int×List UInt8)×List UInt8×Bool)else (((k:Int),N,s),l3,false))=((0,0,[]),l3,true):=aj;exact ajv):P:=h
theorem Qe(h:P:=by simp at e;obtain⟨rfl,rfl⟩:=e;exact⟨_,_,rfl,h1,h2⟩):P:=h
theorem LC(h:P:=by go_wp2;go_ret;exact⟨fJ,DZ⟩):P:=h
theorem Cf(h:P:=by go_ret;exact⟨D2,kF⟩):P:=h
theorem ae7(h:P:=by
 cases y with
 | tmp t => simp only[beq_iff_eq]at h4;simp only[zk,aF,h4]
 | const v=>rfl
 | global g=>rfl
 | func f=>rfl):P:=h
theorem afX(h:P:=by have gN:=O5 kT;have HN:=ae (ace (HQ.aa.1 kT));rw[gN.1];clear kT gN;have q:=DE.rv.cell;have z:=DE.rv.frozen;go_upto_region 9 with fail;generalize wd.alloc _=we at *;clear D;have D:=DE;clear DE;exact VY):P:=h
theorem FN(h:P:=by go_wp2;go_ret;exact⟨D2,dP⟩):P:=h
theorem WT(h:P:=by intro v9 w9 bE cd eS bq;have ala:=(rP.swap.push bE cd tO).swap;exact ajw):P:=h
theorem ae1(h:P:=by
 intro q hq;have e:q=q/C*C+q%C:=by rw[Nat.mul_comm];exact (Nat.div_add_mod q C).symm
 have mI:=Nat.div_lt_of_lt_mul (by rwa [Nat.mul_comm]at hq);have s9:q%C<C:=Nat.mod_lt _ hC0;rw[e,h3 _ _ mI s9,hfg _ _ mI s9]):P:=h
theorem V4(h:P:=by have yP:(16:Int)<(l.length:Int):=af;have HR:Hid (R=false):=ae (by rw[HI.aa];simp[jn]);exact Ah):P:=h
theorem ahq(h:P:=by
 have nC:Hid ((l.take (j+1)).filter q=(l.take j).filter q):=ae WH;rw[<- nC.aa]at di;go_wp2;go_roundw
 case rel=>exact⟨j+1,af,bD,di,qO⟩
 case measure=>simp[intOf];omega):P:=h
theorem afp(h:P:=by
 have oA:w1.heap.size<=w9.heap.size:=by have:=bq.size;simp at this;omega
 clear gJ cd eS bq;go_wp2;go_roundw
 case rel=>exact⟨k+1,af,bD,ajB,df,akd,oA⟩
 case measure=>simp[intOf];omega):P:=h
theorem ahe(h:P:=by simp[bO,aF,List.lookup,hp,cU,execOp,aG,q1,qa,go_sem];refine (C1.aa W (k1.tr kW)).mono ?_;rintro e w4⟨v4,rfl,hO,k4⟩;exact⟨_,rfl,⟨_,rfl,aV.low (aV.floor hO kW.size) kW.size⟩,k4⟩):P:=h
theorem agx(h:P:=by
 have HB:Hid (yX m=Ev (k'+1) s0):=ae (by rw[Ev,<- HM.aa]);clear hB ha h1;go_wp2;go_round
 case rel=>exact⟨k'+1,af,bD,yX m,by rw[HX.aa],hl,HB⟩
 case measure=>simp[intOf];omega):P:=h
theorem ahh(h:P:=by refine (C1.aa W (k1.tr kW)).mono ?_;rintro e w4⟨v4,rfl,hO,k4⟩;exact⟨_,rfl,⟨_,rfl,aV.low (aV.floor hO ajt) ajt⟩,k4⟩):P:=h
theorem aiv(h:P:=by apply bN (abI R _ w H2.aa HS.aa lE);rintro v2 w2⟨hO,k2⟩;clear H2 HS lE;have HO:=ae hO;obtain⟨A2,c2,rfl⟩:=av hO.aq;clear hO;go_wp2;go_ret;exact⟨_,rfl,HO.aa,k2⟩):P:=h
theorem XK(h:P:=by
 go_wp2;go_roundw
 case rel=>exact⟨j+1,af,af,bD,HW⟩
 case measure=>simp[intOf];omega):P:=h
theorem agh(h:P:=by rw[Bool.eq_false_iff];intro hh;obtain⟨y,hy,e⟩:=FD.1 hh;simp only[List.map_append,jU]at h;exact (List.nodup_append.1 h).2.2 (au y) (List.mem_map_of_mem hy) (au x) aj e):P:=h
theorem afx(h:P:=by
 intro l;induction l with
 | nil=>simp
 | cons y l ih =>
  intro hl
  have h1:=ih λt ht=>hl t aB
  obtain⟨g1,g2⟩:=hl y aj
  grind [jL,auS,dq,eQ]):P:=h
theorem ax0(h:P:=by have HE:=ae (HA.aa Xf);go_wp2;go_ret;exact⟨_,rfl,kW,by rw[HE.aa];simp⟩):P:=h
theorem aeY(h:P:=by intro i hil;obtain⟨cs',hc,ht⟩:=hi i af;rw[hC]at hc;obtain⟨_,hcl,hat⟩:=World.cells?_some hc;refine⟨cs',hcl,hE _ _ _ hcl ht,λj hj=>?_⟩;rw[<- Go.Deep.add_add];exact hat j hj):P:=h
theorem af6(h:P:=by rw[Q5,List.flatten_cons,List.flatten_cons,ih,List.take_append,gI (l:=c) PM,hc,show (k+1)*n-n=k*n by rw[Nat.succ_mul];omega]):P:=h
theorem Qu(h:P:=by
 go_wp2;try rw[ig]
 exact Qv):P:=h
theorem VZ(h:P:=by
 go_wp2;go_roundw
 case rel=>exact⟨j+1,af,bD,nC,JC⟩
 case measure=>simp[intOf];omega):P:=h
theorem V8(h:P:=by
 go_wp2;go_roundw
 case rel=>exact⟨j+1,af,bD,nC,rK⟩
 case measure=>simp[intOf];omega):P:=h
theorem Qh(h:P:=by go_wp2;go_ret;exact⟨nL,k1⟩):P:=h
theorem Lw(h:P:=by go_wp2;go_ret;exact⟨iq,kr⟩):P:=h
theorem Qv(h:P:=by go_ret;exact⟨iq,hb2⟩):P:=h
theorem XH(h:P:=by go_wp2;go_ret2;exact⟨_,fJ,by rw[HR.aa];exact HE.aa,DZ⟩):P:=h
theorem agP(h:P:=by
 have e9:=bq.cell;try rw[ig]
 refine bodyPost_ret (v:=.tuple #[.agg lH,.int .i64 co]) (by simp[results,results62,go_sem,e9,cV]) rfl ?_;exact⟨_,_,_,rfl,aza _ _,k9⟩):P:=h
theorem Xl(h:P:=by simp only[dq,p8]at this⊢;have:min j l.length<=16:=af;omega):P:=h
theorem ahB(h:P:=by
 by_cases h2:b<a
 ·have HE:Hid (i7 a b=1):=ae (by simp[i7,h1,h2]);go_in;exact qT
 ·have HE:Hid (i7 a b=0):=ae (by simp[i7,h1,h2]);go_in;exact qT):P:=h
theorem ax2(h:P:=by
 have GC:¬(100:Int)<(xt.size:Int):=af;have hr:=ae (HT.aa ⟨h1,h2⟩);go_wp2;go_round
 case rel=>exact⟨k+1,af,bD,hr⟩
 case measure=>simp[intOf];omega):P:=h
theorem agY(h:P:=by simp only[cz,aN,aQ,bV,bW,aJ]at hp;obtain⟨⟨JS,JT,e3,hF⟩,-⟩:=hp;show uv _ _ _ (V 6) _;rw[e3];exact⟨rfl,hF⟩):P:=h
theorem aip(h:P:=by
 rcases List.mem_append.1 h with h|h
 ·exact .inl h
 ·simp at h;exact .inr ⟨x,aj,h⟩):P:=h
theorem aiX(h:P:=by
 rw[XT g1 g2];split
 ·next hj =>
  have:=hU j i aiY h1 (((h.ls j _ g2).1.trans hj).trans h3.symm);subst this;exact Prod.ext rfl oX.symm
 ·rfl):P:=h
theorem ag3(h:P:=by intro V W kW hA;simp only[aN,aQ,b6,aJ,Nat.reduceAdd]at hA;refine aH.h ?_;have kF:=k2.tr kW;go_wp2;go_ret;exact⟨nL,kF⟩):P:=h
theorem ah5(h:P:=by simp only[cz,aN,aQ,bV,bW,aJ]at hp;simp[bO,aF,List.lookup,cU,execOp,aG,cP,go_sem];exact hp.1):P:=h
theorem IL(h:P:=by go_in;go_wp2;go_ret;exact⟨rfl,K.rf w⟩):P:=h
theorem ahb(h:P:=by have hz:cells.size=i.size:=aB;simp[execOp,aG,hs,hx,Instr.storeAt,Instr.sureAddr,storeVar,sizeOf,typeInfo,hq,Value.cells,hz];rw[<- hz,hst];simp[Result.andThen]):P:=h
theorem Xx(h:P:=by go_wp2;go_ret3;exact⟨_,D2,WN,k1⟩):P:=h
theorem afD(h:P:=by
 unfold Instr.findAsking fW;rw[h1];by_cases hk:p.1=k
 ·simp_all
 ·have hk':¬k=p.1:=λe=>hk e.symm
  simp[Sem.run_bind,he,Result.andThen,hk,hk',ih r (i+1) h3]):P:=h
theorem aiW(h:P:=by
 have hu:=underlying151;have hg:(getObj c).run prog w=.ok (.chan 8 l.toArray false s r false) w:=by simp[getObj,Sem.run,hc]
 simp[Builtin.len_,hu,hg,go_sem]):P:=h
theorem Xq(h:P:=by have h0:=Gt.st kA;exact⟨h0.1.below pK eO,h0.2.1.below pK af,h0.2.2⟩):P:=h
theorem afI(h:P:=by
 have hch:(mc vk vn vs != 0)=true:=by simp[mc,hv]
 go_wp2;rw[ig];go_ret;exact⟨by rw[ru.aa (by rw[hT.aa];simp[j8,hv])];rfl,AU.aa _ qJ⟩):P:=h
theorem Qs(h:P:=by rw[yB af];exact h.pre j hj WE):P:=h
theorem Lu(h:P:=by go_wp2;go_ret2;exact⟨nL,k1⟩):P:=h
theorem ahW(h:P:=by
 have rP:=ae zM;go_wp2;go_roundw
 case rel=>exact⟨j+1,af,bD,QW,oY⟩
 case measure=>simp[intOf];omega):P:=h
theorem ahT(h:P:=by
 have rP:=ae BK;go_wp2;go_roundw
 case rel=>exact⟨j+1,af,bD,QW,gW⟩
 case measure=>simp[intOf];omega):P:=h
theorem ahU(h:P:=by
 have rP:=ae Ds;go_wp2;go_roundw
 case rel=>exact⟨j+1,af,bD,QW,mh⟩
 case measure=>simp[intOf];omega):P:=h
theorem ahV(h:P:=by
 have rP:=ae uD;go_wp2;go_roundw
 case rel=>exact⟨j+1,af,bD,QW,ot⟩
 case measure=>simp[intOf];omega):P:=h
theorem agU(h:P:=by simp only[cz,aN,aQ,bV,bW,aJ]at hp;exact⟨rfl,aja⟩):P:=h
theorem agV(h:P:=by simp only[cz,aN,aQ,bV,bW,aJ]at hp;exact⟨rfl,ajb⟩):P:=h
theorem aiB(h:P:=by have g1:=cS (aZ a.1) (gH _);have g2:=cS a.2.1 h.2.1;have g3:=cS a.2.2 h.2.2;unfold fA;simp only[dq];omega):P:=h
theorem aeQ(h:P:=by refine⟨h.1,h.2.imp id ?_⟩;rintro ⟨g,cap,cur,h1,h2,h3,h4⟩;exact⟨g,cap,cur,h1,h2,(hb.block g (Array.getElem?_eq_some_iff.1 h3).1).trans h3,h4⟩):P:=h
theorem afL(h:P:=by
 have e3:((es.length:Int)==0)=false:=by rw[Md,MT]
 have HB:Hid (E=110):=ae (by rw[HE.aa,MT];rfl);go_wp2;go_ret;exact⟨FP,bB⟩):P:=h
theorem agy(h:P:=by have HR:Hid (R=30/\F=[]):=ae ⟨HC.aa,HF.aa⟩;go_wp2;go_ret2;exact⟨_,by rw[HR.aa.1];rfl,by rw[HR.aa.2];exact jV _ _ _ _,kk⟩):P:=h
theorem ait(h:P:=by
 intro w2 k2 kW;cases hx:q x
 ·exact ajz
 ·have HE:=ae (Kh.aa Xf);exact Wt):P:=h
theorem afc(h:P:=by
 have h':=h;rcases h.2 with ⟨rfl,h0⟩|⟨g,cap,cur,rfl,_,_,hn,hc,_⟩
 ·grind [List.eq_nil_of_length_eq_zero,Reads.yE]
 ·grind [Reads.yE]):P:=h
theorem afj(h:P:=by
 have HE:=ae (ru.aa (by
  rw[HT.aa,if_neg aY,if_neg aY];simp;omega))
 go_wp2;go_ret;exact⟨iq,hb0⟩):P:=h
theorem afr(h:P:=by obtain⟨HE,HL⟩:=RU.aa false IA;go_wp2;go_ret2;exact⟨_,iq,PU,Ya⟩):P:=h
theorem aiu(h:P:=by
 have fe:¬(k:Int)<l.length:=af;have HE:=ae (by
  have:=hall.aa;rw[gI af]at this;exact this)
 exact Lw):P:=h
theorem afH(h:P:=by go_wp2;rw[ig];go_ret;exact⟨by rw[ru.aa (by rw[hT.aa];simp[j8,hn])];rfl,AU.aa _ ((cP _ _).alloc (aD _) _)⟩):P:=h
theorem af4(h:P:=by
 refine ae λh x hx=>?_
 rw[gg hlt]at hx;rcases List.mem_append.1 hx with hx|hx
 ·exact hall.aa x hx
 ·grind):P:=h
theorem QN(h:P:=by
 go_in;go_wp2_with fail
 apply aI C1.aa;exact ajy):P:=h
theorem afq(h:P:=by obtain⟨HE,HL⟩:=RU.aa false VV;go_wp2;go_ret2;exact⟨_,iq,PU,hb⟩):P:=h
theorem ag9(h:P:=by
 have HO:=ae dm;go_wp2;go_roundw
 case rel=>exact⟨j+1,af,bD,by rw[HQ.aa];exact HO.aa,k5⟩
 case measure=>simp[intOf];omega):P:=h
theorem afl(h:P:=by
 intro x hx;rw[gg h]at hx;rcases List.mem_append.1 hx with hx|hx
 ·exact ha x hx
 ·simp at hx;rw[hx];exact hb):P:=h
theorem afJ(h:P:=by
 go_wp2;go_roundw
 case rel=>exact⟨k+1,af,bD,bD,hr,AU.aa _ (below_drewN qJ _)⟩
 case measure=>simp[intOf];omega):P:=h
theorem afQ(h:P:=by
 go_in;go_wp2_with fail
 apply aI hch.aa;intro w1 aR;go_wp2;go_ret2;exact⟨_,rfl,VS,aR⟩):P:=h
theorem VP(h:P:=by unfold aH;rw[hg,if_pos (show bO V none=true from rfl),hx];exact h):P:=h
theorem afG(h:P:=by clear hR;generalize l.length=n at *;go_in;go_wp2;go_step3;go_wp2;rw[ig];go_ret;exact⟨iq,cP _ _⟩):P:=h
theorem Qb(h:P:=by rw[if_neg af];exact⟨rfl,cP _ _⟩):P:=h
theorem ahL(h:P:=by simp[bO,aF,List.lookup,hp,cU,execOp,aG,qx,qo,go_sem];apply bN (OQ x _ W (HE.aa _ (k1.tr kW)) hs);exact ahj):P:=h
theorem VT(h:P:=by have:=hcell 0 ax;rw[kr.cell af];simpa [cI]using this):P:=h
theorem agj(h:P:=by have z3:=Q0 e3;have HQ:Hid (iJ m=130):=ae (by unfold iJ;rw[show dI m=false from by simp[dI,sk,e3]];rfl);exact Qh):P:=h
theorem agk(h:P:=by have z4:=Q0 e4;have HQ:Hid (iJ m=130):=ae (by unfold iJ;rw[show dI m=false from by simp[dI,sk,e4]];rfl);exact Qh):P:=h
theorem aiL(h:P:=by simp[bO,aF,List.lookup,hp,cU,execOp,aG,aJ,q2,Ty,uJ,go_sem];refine (C3.aa W kW).mono ?_;rintro e w4⟨rfl,k4⟩;grind):P:=h
theorem aeV(h:P:=by
 refine⟨rfl,?_,?_⟩
 ·exact axZ
 ·exact yx (yx (yx (oG hgr hw.2) aj _) aj _) aj _):P:=h
theorem afC(h:P:=by simp[Builtin.delete_,hts,run_underlying hT,MapKept.run_getObj_map h1,KG.mc,hf,MapKept.run_setObj_map _ h1,Result.andThen,setBlock]):P:=h
theorem ahQ(h:P:=by
 go_wp2;go_roundw
 case rel=>exact⟨j+1,af,bD,by rw[<- ic.aa,HP.aa];exact dm,mh⟩
 case measure=>simp[intOf];omega):P:=h
theorem afK(h:P:=by have HE:Hid (E=110):=ae (by rw[<- xu];exact Fy (by simp[bH];omega));go_wp2;go_ret;exact⟨iq,bB⟩):P:=h
theorem ag2(h:P:=by rintro v3 w3⟨hO,k3⟩;have HW:=ae (aV.low (aV.floor hO bB.size) bB.size);replace bB:=bB.tr k3;go_wp2;exact ajx):P:=h
theorem ahZ(h:P:=by simp[bO,aF,List.lookup,hp,cU,execOp,aG,aJ,q2,ya,go_sem];refine (C4.aa W kW).mono ?_;rintro e w4⟨rfl,k4⟩;grind):P:=h
theorem afs(h:P:=by obtain⟨HE,HL⟩:=RU.aa true IA;go_wp2;go_ret2;exact⟨_,iq,by rw[HL.aa];exact Q7,Ya⟩):P:=h
theorem agH(h:P:=by
 unfold AG ib;split
 ·rename_i h;simp only[dz,decide_eq_true_eq]at h;rw[BZ,xP];omega
 ·simp):P:=h
theorem agb(h:P:=by
 go_wp2;go_roundw
 case rel=>exact⟨j+1,af,bD,ae ⟨_,_,_,HS9.aa⟩,k9⟩
 case measure=>simp[intOf];omega):P:=h
theorem QR(h:P:=by exact⟨by rw[HR.aa],by rw[HR.aa];exact hF⟩):P:=h
theorem ahn(h:P:=by refine (C5.aa W kW).mono ?_;rintro e w4⟨v4,rfl,hO,k4⟩;exact ain):P:=h
theorem ai4(h:P:=by
 rw[hu]at HR C2;go_in;go_wp2_with fail
 apply aI C1.aa;rintro w' rfl;go_wp2_with fail
 apply aI C2.aa;exact ajy):P:=h
theorem afh(h:P:=by rw[ih af];simp only;rw[hd,vC,dQ,C.fwd _ hx,gg hk']):P:=h
theorem aeU(h:P:=by
 go_wp2;all_goals
  go_ret
  refine⟨rfl,AU _ _ _ af (λhpos=>?_) af af⟩
  first|rfl|omega):P:=h
theorem Wt(h:P:=by go_wp2;go_ret;exact⟨iq,kW⟩):P:=h
theorem ahO(h:P:=by
 rcases eS with h|h
 ·exact .inl (h▸hk)
 ·rw[h]at hk;injection hk with hk;have:=kW.size;exact .inr af):P:=h
theorem Qy(h:P:=by go_wp2;go_ret;exact⟨D2,kG⟩):P:=h
theorem Xu(h:P:=by clear HO HJ fy HQ;go_wp2;go_ret;exact⟨_,rfl,HL.aa,Di,uj⟩):P:=h
theorem ajr(h:P:=by obtain⟨A1,c1,rfl⟩:=av h1;obtain⟨A2,c2,rfl⟩:=av h2;rw[hg];go_in;go_wp2;go_ret;exact⟨rfl,kk⟩):P:=h
theorem ae4(h:P:=by have hn:Hid (sO s=false):=ae (by simp[sO];omega);go_in;go_wp2;go_ret;exact⟨by rw[hn.aa];rfl,rfl⟩):P:=h
theorem Xv(h:P:=by
 go_wp2;go_meet
 case rel=>exact⟨_,_,_,_,_,_,_,_,_,_,D,HD⟩):P:=h
theorem agI(h:P:=by
 rw[HF.aa];split
 ·rename_i ho;have:=aci rs;rw[acT ho]at this;simp only;omega
 ·simp):P:=h
theorem QQ(h:P:=by exact absurd (h.blk.gY hb) ax):P:=h
theorem afi(h:P:=by rw[List.flatMap_append,vC,List.flatMap_nil,List.append_nil,dQ,<- e1];exact e2):P:=h
theorem aih(h:P:=by intro v9 w9 bE cd eS bq;have ala:=rP.push bE cd tO;exact ajw):P:=h
theorem agR(h:P:=by
 rcases hx with hx|hx|hx
 ·omega
 ·have:=(xU.aa.blk k hx).1;have:=Zw.aa;right;omega
 ·exact .inl hx):P:=h
theorem aiE(h:P:=by
 split
 ·exact ax3
 ·grind [fU.rf]):P:=h
theorem QV(h:P:=by go_wp2;go_ret;exact⟨by rw[hR];rfl,k1⟩):P:=h
theorem agt(h:P:=by
 have:=iN hown' (ag.bK (X:=λk=>k=B0) rfl 0 v') λb hb e=>Mq (by rw[hb,e])
 simpa using this):P:=h
theorem aha(h:P:=by rw[gI af]at hO;have HO:=ae hO;exact Ws):P:=h
theorem ah6(h:P:=by
 exact hr.less λk hk=>by
  rcases hk with hk|hk
  ·exact hk
  ·have:=RB k hk;exact .inr af):P:=h
theorem Qj(h:P:=by exact absurd (h1.gY hx2) ax):P:=h
theorem ah7(h:P:=by
 rcases Ge with e|e
 ·exact .inl (.inr (e▸h))
 ·rw[e]at h;injection h with h;simp at hk;omega):P:=h
theorem agd(h:P:=by
 refine ae λh j hj hjk=>?_
 by_cases e:j=k
 ·subst e;exact h
 ·exact hall.aa j hj af):P:=h
theorem ags(h:P:=by obtain⟨cur,hb⟩:=lO I1 ej;unfold ah at hb;rw[hb]at hj;injection hj with hj;rw[<- hj];rfl):P:=h
theorem Wo(h:P:=by exact⟨_,_,rfl,rfl,rfl,λV W _ _=>atv _ _ _⟩):P:=h
theorem afE(h:P:=by
 cases ak with
 | nil=>simp[Instr.findKey,run_underlying hu,Instr.findNow,fW]
 | cons p r=>simp at h):P:=h
theorem afR(h:P:=by
 go_wp2;go_roundw
 case rel=>exact⟨k+1,af,bD,fw,MO⟩
 case measure=>simp[intOf];omega):P:=h
theorem Qi(h:P:=by go_ret;exact⟨by rw[iT.aa];rfl,k1⟩):P:=h
theorem ai6(h:P:=by simp[bO,execOp,aG,cU];exact⟨⟨_,rfl,kW.size,0,0,heap_alloc_new W _⟩,(K.rf W).al _⟩):P:=h
theorem aeP(h:P:=by refine⟨h.1,h.2.imp id ?_⟩;rintro ⟨g,cap,cur,h1,h2,h3⟩;exact⟨g,cap,cur,h1,af,h3⟩):P:=h
theorem VG(h:P:=by simp at hu;rcases hu with rfl|rfl|rfl|rfl|rfl <;> rfl):P:=h
theorem PT(h:P:=by go_ret;exact⟨iq,hb⟩):P:=h
theorem ahE(h:P:=by have:=hall.aa l[j] (List.mem_take_iff_getElem.2 ⟨j,af,rfl⟩);rw[h1]at this;cases this):P:=h
theorem aiF(h:P:=by have:=h.told;have:=h.calls;exact⟨h1,h.fit.same h2.1 ⟨h2.2.1,h2.2.2.1⟩,aB,af⟩):P:=h
theorem afa(h:P:=by rintro v w w'⟨A,c,rfl,hr⟩ hb;exact⟨A,c,rfl,(hr.below hb (aD _)).more hb.size⟩):P:=h
theorem afm(h:P:=by go_wp2;go_ret2;exact⟨_,iq,PU,dP⟩):P:=h
theorem VQ(h:P:=by go_wp2;go_ret;exact⟨FP,bB.tr k3⟩):P:=h
theorem WL(h:P:=by have fe:¬(k:Int)<l.length:=af;exact ahR):P:=h
theorem Wh(h:P:=by obtain⟨jQ,ER,e,h1,h2⟩:=hrl W k;exact Qe):P:=h
theorem aiG(h:P:=by
 cases l with
 | nil=>exact .inl rfl
 | cons x l=>exact .inr ⟨.string x.1,aj,aj⟩):P:=h
theorem Qm(h:P:=by go_wp2;go_ret;exact⟨_,rfl,hO,kr⟩):P:=h
theorem aeR(h:P:=by exact⟨v',w',hrun,h2,h3,h5,(cP _ _).grown h3 hbase λk hk=>(hown.lt k hk).1⟩):P:=h
theorem Vz(h:P:=by simp[Act.put,Array.getElem?_setIfInBounds_ne hne]):P:=h
theorem Wn(h:P:=by exact⟨⟨kW.size,dM.new W⟩,(K.rf W).al _⟩):P:=h
theorem aib(h:P:=by
 rcases N6 k hk with h|h
 ·exact Hq.aa k h
 ·have:=S5.aa.size;exact .inr af):P:=h
theorem aiy(h:P:=by
 rcases List.mem_append.1 hg with hg|hg
 ·exact Tc g hg
 ·simp at hg;subst hg;exact CQ):P:=h
theorem ajl(h:P:=by gi_wp2;exact⟨⟨HF.aa.1 _ (.inl hz2.symm),HF.aa.1 _ (.inr af)⟩,HF.aa.2⟩):P:=h
theorem QJ(h:P:=by exact ho s (List.mem_filter.1 hs).1):P:=h
theorem QP(h:P:=by go_wp2;go_ret;exact⟨rfl,HF.aa⟩):P:=h
theorem agr(h:P:=by
 rcases hown'.2 with ⟨-,h0⟩|⟨g',cap',cur',e,-⟩
 ·omega
 ·exact⟨g',cap',e⟩):P:=h
theorem ahs(h:P:=by intro v9 w9 bE cd _ bq;rw[<- nC.aa]at bE;have iR:=cO.trans bq;exact WU):P:=h
theorem Xz(h:P:=by exact⟨this.1,this.2.up u λk e=>e▸hM⟩):P:=h
theorem agQ(h:P:=by intro b hb;obtain⟨r,hr,rfl⟩:=List.mem_map.1 hb;exact Vm (hG.eZ r hr).2.2):P:=h
theorem QT(h:P:=by exact⟨rfl,ag.rf _ _,gm,ak,h⟩):P:=h
theorem afA(h:P:=by obtain⟨vf,ve,rfl,h1,h2⟩:=h;exact⟨vf,ve,rfl,eu _ _ _ _ h1 k,bj h2 k⟩):P:=h
theorem V6(h:P:=by go_wp2;go_ret;exact⟨fJ,rK⟩):P:=h
theorem ahk(h:P:=by rw[tT af]at hL;rw[yB af,tT af];exact h.al hL):P:=h
theorem ajq(h:P:=by have hE:=ae (HF.aa _ _ _ hQ af);go_wp2;go_ret;exact⟨rfl,hE.aa⟩):P:=h
theorem aic(h:P:=by
 rcases N6 k h with h|h
 ·exact zP.aa k hk h
 ·have:=(Zv.aa k hk).2;omega):P:=h
theorem XL(h:P:=by go_wp2;go_ret;exact⟨iq,k⟩):P:=h
theorem af1(h:P:=by
 split
 ·unfold fE;split
  ·exact hl
  ·exact hl.erase _
 ·exact hl):P:=h
theorem aio(h:P:=by
 split at h
 ·exact .inl h
 ·split at h
  ·exact .inl h
  ·exact aip):P:=h
theorem agu(h:P:=by obtain⟨cur,hb⟩:=lO hrow h2;unfold ah at hb;rw[e,hK]at hb;cases hb):P:=h
theorem ax3(h:P:=by exact⟨⟨List.prefix_refl _,List.prefix_refl _,rfl⟩,⟨h.ab,h.prom⟩⟩):P:=h
theorem agf(h:P:=by
 rcases hk with ⟨g,_⟩|⟨_,g,_⟩|⟨g,_⟩
 ·omega
 ·exact g
 ·omega):P:=h
theorem Wf(h:P:=by exact absurd (h1.gY h.blk) ax):P:=h
theorem afY(h:P:=by obtain⟨_,_,he,h1,_⟩:=Yi.aa _ (UX.tr u);simp at he;rw[he.1];exact h1):P:=h
theorem afZ(h:P:=by obtain⟨_,_,he,_,h1⟩:=Yi.aa _ (UX.tr u);simp at he;rw[he.2];exact h1):P:=h
theorem aiC(h:P:=by have HS:=ae hs;go_wp2;go_ret;exact⟨_,rfl,HS.aa,k1.tr (k2.tr k3)⟩):P:=h
theorem af9(h:P:=by go_wp2;go_ret;exact⟨nL,by rw[HQ.aa];exact HS.aa,oT⟩):P:=h
theorem ahA(h:P:=by have HE:Hid (i7 a b=-1):=ae (by simp[i7,h1]);go_in;exact qT):P:=h
theorem ahG(h:P:=by exact ((dP.setCell aj _).setCell aj _).setCell aj _):P:=h
theorem W6(h:P:=by exact⟨rfl,by rw[HF.aa];exact HN.aa⟩):P:=h
theorem agm(h:P:=by have HR:=ae (no.aa λh=>by have:=rU h;omega);exact Ah):P:=h
theorem Ws(h:P:=by go_wp2;go_ret;exact⟨_,rfl,HO.aa,kr⟩):P:=h
theorem ahm(h:P:=by go_wp2;go_ret;exact⟨by rw[ZR.aa];rfl,by rw[ZR.aa];exact HF.aa⟩):P:=h
theorem ais(h:P:=by intro w2 k2 kF;go_wp2;go_ret;exact⟨by rw[HR.aa];first|done|rfl,kF⟩):P:=h
theorem Xn(h:P:=by go_wp2;go_ret;exact⟨_,rfl,HS.aa,kr⟩):P:=h
theorem aiR(h:P:=by go_wp2;go_ret;exact⟨by rw[HQ2.aa];rfl,by rw[HQ2.aa];exact HN.aa⟩):P:=h
theorem aiM(h:P:=by
 refine aH.e ?_;go_wp2_with fail
 go_meet
 case rel=>exact⟨rfl,kW⟩):P:=h
theorem ai1(h:P:=by have HR:=ae (show R=true by rw[HI.aa];simp[h0,h1]);exact LP):P:=h
theorem af7(h:P:=by have:=congrArg (List.drop 1) h.post;simpa [List.drop_drop]using this):P:=h
theorem agn(h:P:=by have HR:Hid (R=false):=ae (by rw[HC.aa];simp[h0]);exact Ah):P:=h
theorem ago(h:P:=by
 go_wp2;try rw[ig]
 go_ret;exact⟨fJ,k1⟩):P:=h
theorem aiO(h:P:=by go_wp2;go_ret;exact⟨fJ,by rw[HR.aa];exact HN.aa⟩):P:=h
theorem aji(h:P:=by exact⟨v,_,rfl,.inl ⟨rfl,by grind [mV],h.Re hv h2 u⟩⟩):P:=h
theorem afS(h:P:=by have h4:=List.all_eq_true.1 h1.2 y (by simpa using hy);exact ae7):P:=h
theorem ai2(h:P:=by have HR:=ae (show R=false by rw[HI.aa];simp[h1]);exact LP):P:=h
theorem ai3(h:P:=by have HR:=ae (show R=false by rw[HI.aa];simp[h0]);exact LP):P:=h
theorem ai5(h:P:=by simp[bO,aF,List.lookup,e,cU,execOp,aG,cP,go_sem]):P:=h
theorem ajc(h:P:=by
 go_in;go_wp2_with fail
 apply aI C1.aa;rintro w' rfl;exact LP):P:=h
theorem afM(h:P:=by have HR:Hid (R=false):=ae (by rw[HO.aa,he];rfl);exact PY):P:=h
theorem ah8(h:P:=by exact bw (Jf.aa.low k (.inl (.inl h))) um.size):P:=h
theorem ahS(h:P:=by intro v9 w9 bE cd eS bq;have wP:=pX.trans bq;exact WR):P:=h
theorem ae2(h:P:=by have:=World.block_lt_of_cell? w _ zj;simpa [Addr.add]using this):P:=h
theorem afz(h:P:=by simp at hu;rcases hu with rfl|rfl|rfl|rfl|rfl|rfl|rfl|rfl <;> rfl):P:=h
theorem agZ(h:P:=by have HW:=ae (aV.low (aV.floor hO mR) mR);exact IG):P:=h
theorem aiA(h:P:=by
 clear hr;go_wp2_with fail
 go_meet
 case rel=>exact⟨e.aa,rfl⟩):P:=h
theorem afv(h:P:=by obtain⟨css,h1,h2,h3⟩:=h;exact⟨css,mo hb h1,h2,h3⟩):P:=h
theorem afN(h:P:=by have HR:Hid (R=m):=ae (by rw[HO.aa,he];rfl);exact PY):P:=h
theorem agF(h:P:=by go_ret;exact⟨_,fJ,by rw[HR.aa];exact hV,hU⟩):P:=h
theorem ajo(h:P:=by exact⟨K8 _ _ _,La hf (by simp at h0⊢;omega)⟩):P:=h
theorem afo(h:P:=by rw[HF.aa];unfold fQ;simpa [List.flatMap_append]using gJ):P:=h
theorem ahK(h:P:=by simp only[binOp,Sem.run_bind,h,Result.andThen_ok,Sem.run_pure]):P:=h
theorem ahw(h:P:=by go_wp2;go_ret;exact⟨_,rfl,by rw[lL.aa];exact HO.aa,kF⟩):P:=h
theorem ahM(h:P:=by
 simp only[aF,List.lookup];exact h3.less λk hk=>by
  grind):P:=h
theorem ain(h:P:=by exact⟨_,rfl,aV.low (aV.floor hO kW.size) kW.size,k4⟩):P:=h
theorem ae3(h:P:=by rw[gg h,List.all_append];simp):P:=h
theorem agi(h:P:=by go_in;go_wp2;go_ret;exact⟨by rw[HR.aa];simp[h0,h1],k1⟩):P:=h
theorem agc(h:P:=by rw[gg h,List.map_append];rfl):P:=h
theorem aeS(h:P:=by have:=(List.getElem?_eq_some_iff.1 hu).1;simpa using this):P:=h
theorem ahu(h:P:=by have kk:=K.rf w;go_in;go_wp2;go_ret;exact⟨aj,kk⟩):P:=h
theorem aid(h:P:=by
 rcases hk with h|h
 ·exact .inl (.inl h)
 ·exact .inr h):P:=h
theorem aiD(h:P:=by rintro e w4⟨v4,rfl,hO,k4⟩;exact⟨_,rfl,hO.now,k4⟩):P:=h
end Go.Proofs.YtfndfpdhlbmboaaGreat
