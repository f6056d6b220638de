/-
  Scripts of tactics. Conditions: none.
-/
import Derived.ProofKit
import Derived.WalkKit
import Derived.WalkLawsBesides
import Derived.WalkSpells
import Derived.Deep.Draws
import Derived.Deep.AppendLies
import Derived.Maps.AppendAt
import Derived.Laws.CopyOwn
import Derived.Lib.Hide
import Derived.ScopeJumps
import Derived.Laws.IdiomStrings
import Derived.Laws.BytesArg
import Derived.WalkMore
import Derived.Maps.OwnSet
import Derived.Carry
import Derived.BigQuiet
import Derived.Deep.QuietTactic
import Derived.OpenShut
import Derived.ShutString
import Derived.ChangeOld
import Derived.Below
import Derived.Lib.SmallJoins
import Derived.Deep.Slices
import Derived.Deep.Fields
import Derived.Deep.CutRange
import Derived.Deep.LoopGhost
import Derived.Orders
import Derived.IntWalk
import Derived.Deep.RegionHeld3
import Derived.Deep.DrawnRows
import Derived.Sort.MapsRangeIn
import Derived.RangeFuncGives
import Derived.Deep.CutBlock
import Derived.RangeFuncKeeps
import Derived.RangeFuncLeaves
import Derived.RangeFuncFrom
import Derived.RangeFuncBox
import Derived.Shelf.Abstract
import Derived.OwnWalkIn
import Derived.TacticsInMore
import Derived.LoopNIn
import Derived.LoopIn
import Derived.RangeFuncNested
import Derived.Laws.BitsAllLaws
import Derived.Deep.RegionLaw
import Derived.Lib.SlicesDelete
import Derived.Shelf.SlSortCmp.WholeK
import Derived.Shelf.SlSortCmp.NoneTotal
import Derived.Shelf.Lay
import Derived.Ground.SlsfProg
import Derived.Conc.LoneCalls
import Derived.Conc.LoneSelect
namespace Go.Proofs.YtfndfpdhlbmboaaGreat
open Go Go.RowKit
set_option linter.unusedVariables false
variable {P:Prop}
theorem aD:type_of% @Nat.le_refl:=@Nat.le_refl
theorem bz:type_of% @Nat.lt_of_lt_of_le:=@Nat.lt_of_lt_of_le
theorem bn:type_of% @Nat.le_trans:=@Nat.le_trans
theorem cT:type_of% @Below.refl:=@Below.refl
theorem bZ:type_of% @List.getElem_mem:=@List.getElem_mem
theorem gJ:type_of% @List.take_succ_eq_append_getElem:=@List.take_succ_eq_append_getElem
theorem gQ:type_of% @List.take_of_length_le:=@List.take_of_length_le
theorem cF:type_of% @List.forall_mem_cons:=@List.forall_mem_cons
theorem aR:type_of% @List.cons_append:=@List.cons_append
theorem aO:type_of% @List.nil_append:=@List.nil_append
theorem sC:type_of% @List.setIfInBounds_toArray:=@List.setIfInBounds_toArray
theorem rH:type_of% @List.set_cons_zero:=@List.set_cons_zero
theorem rI:type_of% @List.set_cons_succ:=@List.set_cons_succ
theorem Yb:type_of% @List.take_succ_cons:=@List.take_succ_cons
theorem Yd:type_of% @List.take_zero:=@List.take_zero
theorem dC:type_of% @Bool.and_eq_true:=@Bool.and_eq_true
theorem dx:type_of% @List.length_append:=@List.length_append
theorem eu:type_of% @List.append_assoc:=@List.append_assoc
theorem xC:type_of% @List.all_eq_true:=@List.all_eq_true
theorem Eh:type_of% @List.mem_append:=@List.mem_append
theorem fg:type_of% @List.length_cons:=@List.length_cons
theorem mw:type_of% @List.length_filter_le:=@List.length_filter_le
theorem om:type_of% @List.mem_of_mem_take:=@List.mem_of_mem_take
theorem kU:type_of% @World.ownsRow_nil:=@World.ownsRow_nil
theorem iq:type_of% @Exit.noGoto_ret:=@Exit.noGoto_ret
theorem qG:type_of% @World.ownsRow.alloc:=@World.ownsRow.alloc
theorem jR:type_of% @List.map_cons:=@List.map_cons
theorem uy:type_of% @List.flatMap_cons:=@List.flatMap_cons
theorem qI:type_of% @List.length_take:=@List.length_take
theorem eV:type_of% @Nat.zero_le:=@Nat.zero_le
theorem mQ:type_of% @Nat.zero_add:=@Nat.zero_add
theorem nC:type_of% @List.take_length:=@List.take_length
theorem ae(h:P):Hid P:=h
theorem _root_.Go.RowKit.Hid.aa(h:Hid P):P:=h
theorem fB(h:P:=by kernel_rfl):P:=h
theorem aj(h:P:=by simp):P:=h
theorem af(h:P:=by omega):P:=h
theorem aA(h:P:=by grind):P:=h
theorem aeR(h:P:=by simpa [World.setCell]using h.size):P:=h
theorem ba(h:P:=by simp;omega):P:=h
theorem FP(h:P:=by simpa using hR.len):P:=h
theorem FQ(h:P:=by simp_all):P:=h
theorem BW(h:P:=by unfold maxLen;omega):P:=h
theorem xy(h:P:=by simp at h):P:=h
theorem tk(h:P:=by simpa using hk):P:=h
theorem PK(h:P:=by simp[setBlock]):P:=h
theorem K8(h:P:=by rw[e]):P:=h
theorem VA(h:P:=by rw[hz2];omega):P:=h
theorem La(h:P:=by simpa using h0):P:=h
theorem BX(h:P:=by simpa using h):P:=h
theorem bI(h:P:=by go_num):P:=h
theorem ax(h:P:=by decide):P:=h
theorem cV(h:P:=by rfl):P:=h
theorem IM(h:P:=by simp[h]):P:=h
theorem IP(h:P:=by simpa using h4):P:=h
theorem VC(h:P:=by simp[results,results308,go_sem,e0,e1,e2]):P:=h
theorem Lf(h:P:=by simp at hi):P:=h
theorem PM(h:P:=by rw[hc,Nat.succ_mul];omega):P:=h
theorem PN(h:P:=by simpa using hi):P:=h
theorem Lg(h:P:=by trivial):P:=h
theorem VF(h:P:=by simpa [hlt]using rV):P:=h
theorem DR(h:P:=by simpa using hj):P:=h
theorem VG(h:P:=by simpa using hj'):P:=h
theorem VH(h:P:=by simp[Op.bytesLess]):P:=h
theorem afh(h:P:=by intro cs hcs;obtain⟨y,_,rfl⟩:=List.mem_map.1 hcs;rfl):P:=h
theorem BZ(h:P:=by simpa using h1):P:=h
theorem VK(h:P:=by simp[ByteArray.size]):P:=h
theorem iK(h:P:=by rw[HE.aa];rfl):P:=h
theorem PT(h:P:=by rw[HC.aa,hv]):P:=h
theorem afn(h:P:=by rw[HE.aa,hv,hk];rfl):P:=h
theorem Ll(h:P:=by rw[HE.aa]):P:=h
theorem afq(h:P:=by intro e;injection e with e;exact RV e.symm):P:=h
theorem PW(h:P:=by rw[HL.aa];exact kU _ _ _ _):P:=h
theorem PX(h:P:=by simp[mW,hok]):P:=h
theorem VL(h:P:=by have:=h.1;omega):P:=h
theorem Lm(h:P:=by simp[h.1]):P:=h
theorem PY(h:P:=by simp only[oX];omega):P:=h
theorem fP(h:P:=by assumption):P:=h
theorem IQ(h:P:=by simp[hx]):P:=h
theorem VS(h:P:=by simp[World.setCell]):P:=h
theorem afE(h:P:=by simpa using congrArg List.length h2):P:=h
theorem yB(h:P:=by simpa using h2):P:=h
theorem FV(h:P:=by rw[HB.aa];rfl):P:=h
theorem VV(h:P:=by rw[HE.aa,hok];rfl):P:=h
theorem afS(h:P:=by rw[HO.aa];simp[hn]):P:=h
theorem fW(h:P:=by rw[HR.aa];rfl):P:=h
theorem Ln(h:P:=by simpa using h5):P:=h
theorem P4(h:P:=by simp[ko,hok]):P:=h
theorem B4(h:P:=by simpa using e):P:=h
theorem Lo(h:P:=by simpa using h3):P:=h
theorem P5(h:P:=by cases hj):P:=h
theorem yC(h:P:=by cases h):P:=h
theorem afX(h:P:=by obtain⟨-,v2,W2,e,h9⟩:=ju rW;cases e):P:=h
theorem afY(h:P:=by obtain⟨-,h1,W2,e⟩:=GP q hq e;cases e):P:=h
theorem VW(h:P:=by rw[HR.aa];exact kU _ _ _ _):P:=h
theorem VY(h:P:=by have:=D.o;omega):P:=h
theorem rE(h:P:=by rw[World.size_alloc];exact cY):P:=h
theorem P7(h:P:=by rw[HD.aa,h];rfl):P:=h
theorem VZ(h:P:=by rw[hd];rfl):P:=h
theorem IU(h:P:=by rw[hd,hok];rfl):P:=h
theorem afZ(h:P:=by simp[results,results209,go_sem,e9]):P:=h
theorem P8(h:P:=by rw[HN.aa.1]):P:=h
theorem af0(h:P:=by rw[HN.aa.2];exact λW' u'=>⟨_,_,rfl,Bk.aa.1 _ (U9.tr (u'.more (by omega) (λ_ _ _=>by simp))),Bk.aa.2 _ (U9.tr (u'.more (by omega) (λ_ _ _=>by simp)))⟩):P:=h
theorem V0(h:P:=by simp[ur,hok]):P:=h
theorem V1(h:P:=by simp[zY,hok]):P:=h
theorem af4(h:P:=by simp[results,results119,go_sem,e9]):P:=h
theorem awZ(h:P:=by refine⟨by simp[lX,cD],hi.1,hc,hi.2.1,hi.2.2,by simp[lX],by simp[lX],by simp[lX]⟩):P:=h
theorem Lp(h:P:=by simp[World.setCell];omega):P:=h
theorem FX(h:P:=by simpa using aX.nil _ _ _ _ _):P:=h
theorem FY(h:P:=by simp[Value.ownBlock]at h):P:=h
theorem af6(h:P:=by rw[h]at hb;injection hb with hb;have:=hW.size;omega):P:=h
theorem IV(h:P:=by rw[<- e]):P:=h
theorem af7(h:P:=by rw[HB.aa,HT.aa];rfl):P:=h
theorem DU(h:P:=by simp[e]):P:=h
theorem V5(h:P:=by have:=h.sz;omega):P:=h
theorem agc(h:P:=by have:=HW.aa.low;have:=hW.size;simp;omega):P:=h
theorem aEw(h:P:=by simp[dZ,h]):P:=h
theorem nW(h:P:=by rw[HQ.aa];rfl):P:=h
theorem age(h:P:=by rw[hbase];exact kW.size):P:=h
theorem V6(h:P:=by rw[hbase];exact kr.size):P:=h
theorem yD(h:P:=by simp[bU]):P:=h
theorem IY(h:P:=by simp[hy]):P:=h
theorem qA(h:P:=by simp[cD]):P:=h
theorem Wc(h:P:=by rw[HS.aa,hq];simp):P:=h
theorem We(h:P:=by rw[HS.aa,hq,HT.aa];rfl):P:=h
theorem agp(h:P:=by rw[HC.aa];simp[h0]):P:=h
theorem Wh(h:P:=by rw[HC.aa];simp[h0,h1]):P:=h
theorem axf(h:P:=by unfold sS fA;simp only[dC,decide_eq_true_eq];rintro ⟨⟨h1,h2⟩,h3⟩;exact⟨h3,h1,h2⟩):P:=h
theorem agr(h:P:=by rw[HC.aa,JL,pg];rfl):P:=h
theorem axg(h:P:=by unfold sS fA;simp only[dC,decide_eq_true_eq];rintro ⟨⟨h1,h2⟩,h3⟩;omega):P:=h
theorem DV(h:P:=by cases e):P:=h
theorem agC(h:P:=by rcases hk with hk|hk;omega;have:=bT k hk;omega):P:=h
theorem agD(h:P:=by have:=h.len;show s.list.length<=_;omega):P:=h
theorem agF(h:P:=by rw[HA.aa,if_pos hfit]):P:=h
theorem agG(h:P:=by unfold Own;rw[KL,dx];exact dG):P:=h
theorem vV(h:P:=by rw[hk,e]):P:=h
theorem agI(h:P:=by rw[HA.aa,if_neg hfit]):P:=h
theorem Lr(h:P:=by rw[fy.aa];rfl):P:=h
theorem agL(h:P:=by rw[HF.aa,if_neg (by rw[hok];decide)]):P:=h
theorem agM(h:P:=by rw[HA.aa,if_neg (by rw[hok];decide)]):P:=h
theorem agN(h:P:=by rw[HF.aa,if_pos hok]):P:=h
theorem agO(h:P:=by rw[HA.aa,if_pos hok]):P:=h
theorem agP(h:P:=by rw[HD.aa,if_neg hfit]):P:=h
theorem Qm(h:P:=by rw[fy.aa,zy.aa];rfl):P:=h
theorem agQ(h:P:=by rw[HD.aa,if_pos hfit]):P:=h
theorem Qn(h:P:=by rw[hbase.aa];exact aD _):P:=h
theorem Wp(h:P:=by rw[hbase.aa];exact bn kr.size kA.size):P:=h
theorem axo(h:P:=by simp only[dx,K2,PC,Vn,qI];omega):P:=h
theorem Wq(h:P:=by rw[gJ hlt,List.map_append];rfl):P:=h
theorem agU(h:P:=by simp[results,results137,go_sem,e9]):P:=h
theorem agV(h:P:=by rw[<- HR.aa,ht];rfl):P:=h
theorem Ws(h:P:=by have:=sA ht;omega):P:=h
theorem Wv(h:P:=by rw[e7];rfl):P:=h
theorem agY(h:P:=by simp[aF,List.lookup,bj,execOp,aG,go_sem]):P:=h
theorem ag2(h:P:=by rw[iQ.aa,if_neg (by rw[hok];decide),if_neg h8,hb];rfl):P:=h
theorem F3(h:P:=by rw[HQ.aa];exact HW.aa):P:=h
theorem Wz(h:P:=by simp[lX,cD]):P:=h
theorem B7(h:P:=by simp[lX]):P:=h
theorem axp(h:P:=by intro u hu;exact df.one (x:=wu) (w:=w) ⟨_,_,rfl,⟨none,0,rfl,Reads.nil _ _ _ _⟩,gI _ _⟩ u hu):P:=h
theorem DW(h:P:=by rw[HI.aa,ho]):P:=h
theorem Lv(h:P:=by rw[HC.aa,ho]):P:=h
theorem WA(h:P:=by rw[HC.aa,ho];simp only[h1]):P:=h
theorem B8(h:P:=by have:=hG.dk.len;omega):P:=h
theorem ag6(h:P:=by rw[HR.aa,if_pos h1]):P:=h
theorem ag7(h:P:=by rw[HR.aa,if_neg h1,if_pos h2]):P:=h
theorem ag8(h:P:=by rw[HR.aa,if_neg h1,if_neg h2]):P:=h
theorem WD(h:P:=by simpa using hl):P:=h
theorem DY(h:P:=by simpa using hc):P:=h
theorem WE(h:P:=by have:=G7.aa;omega):P:=h
theorem WG(h:P:=by simp[results,results99,go_sem,e9]):P:=h
theorem ahd(h:P:=by simp[results,results106,go_sem,e9]):P:=h
theorem Ca(h:P:=by exact hrg):P:=h
theorem ahe(h:P:=by rw[ya.aa,YJ];rfl):P:=h
theorem Cb(h:P:=by rw[e];rfl):P:=h
theorem WH(h:P:=by first|rfl|(simp[bj];done)):P:=h
theorem ahf(h:P:=by simp[aF,List.lookup,bj,e0,e9,execOp,aG,go_sem];exact⟨rfl,rfl⟩):P:=h
theorem WI(h:P:=by have:=HX.aa _ hx;omega):P:=h
theorem I0(h:P:=by rw[gJ hlt]):P:=h
theorem WM(h:P:=by grind [ux]):P:=h
theorem nA(h:P:=by simp[Cl]):P:=h
theorem ahk(h:P:=by rw[HR.aa,ng];rfl):P:=h
theorem WN(h:P:=by simp[aF,List.lookup,bj,Dl,execOp,aG,q8,z8,go_sem]):P:=h
theorem Qt(h:P:=by simp[mX,cD]):P:=h
theorem Aj(h:P:=by simp[mX]):P:=h
theorem DZ(h:P:=by simp[jF]):P:=h
theorem F4(h:P:=by rw[HR.aa];exact HF.aa):P:=h
theorem ahn(h:P:=by rw[hR'.1];exact Nat.mul_pos hp hs):P:=h
theorem aho(h:P:=by rw[<- hE.1];exact h1):P:=h
theorem WO(h:P:=by rw[HT.aa,hq];simp):P:=h
theorem ahq(h:P:=by rcases hk with hk|hk;exact .inl hk;have:=bT k hk;exact .inr (by omega)):P:=h
theorem axs(h:P:=by rw[fy.aa];exact (bH.less λk hk=>bz hk (bn oZ k2.size)).low oZ):P:=h
theorem D2(h:P:=by simp[hk]):P:=h
theorem WQ(h:P:=by have:=lQ.aa;omega):P:=h
theorem ahu(h:P:=by rcases hk with hk|hk;exact hk.elim;have:=(akw k hk).1;omega):P:=h
theorem ahv(h:P:=by rw[fy.aa];simp only[dx]at xe⊢;omega):P:=h
theorem Qv(h:P:=by simp[iu,h1,h2]):P:=h
theorem ahx(h:P:=by have:=axt a b;rw[h1',h2]at this;simpa using this):P:=h
theorem Ly(h:P:=by simp[h0]):P:=h
theorem WU(h:P:=by simp[hf.aa.1 (by omega)]):P:=h
theorem ahy(h:P:=by simp[hf.aa.2.1 (by omega)]):P:=h
theorem uo(h:P:=by rw[HT.aa,hkk];rfl):P:=h
theorem ahA(h:P:=by simp[results,results301,go_sem,g0,g1,g2]):P:=h
theorem ahC(h:P:=by simp only[qD,hf]):P:=h
theorem WX(h:P:=by rw[<- HR.aa];rfl):P:=h
theorem WY(h:P:=by rw[HF.aa];exact aX.nil _ _ _ _ _):P:=h
theorem ahI(h:P:=by obtain⟨A9,c9,rfl⟩:=bq.slice;rfl):P:=h
theorem Qz(h:P:=by rw[hk];exact Hm):P:=h
theorem WZ(h:P:=by subst e;have:=(bq.blk _ hk).1;omega):P:=h
theorem ahK(h:P:=by simp[aF,List.lookup,bj,execOp,aG,q9,z9,go_sem]):P:=h
theorem W6(h:P:=by rw[<- Ka.aa];exact zB.aa):P:=h
theorem axu(h:P:=by rw[HF.aa];unfold lT;rw[if_neg (by omega),if_pos (by simp[hb0,aN,hb2,bG])]):P:=h
theorem axv(h:P:=by rw[HF.aa];unfold lT;rw[if_neg (by omega),if_neg (by simp[hb0,aN,hb2,bG])]):P:=h
theorem Xa(h:P:=by rw[HE.aa,gQ (by omega)]):P:=h
theorem LA(h:P:=by simp at hpl;omega):P:=h
theorem D3(h:P:=by rw[HF.aa];rfl):P:=h
theorem axx(h:P:=by rw[HF.aa];unfold jS;unfold Jc at hb0;rw[if_pos (by simp only[Bool.or_eq_true]at hb0⊢;exact .inl (.inl hb0))]):P:=h
theorem axy(h:P:=by rw[HF.aa];unfold jS;unfold Jc at hb0;rw[if_neg (by simp only[Bool.or_eq_true,Bool.or_eq_false_iff]at hb0⊢;rw[hb0.1.1,hb0.1.2,hb0.2,hb2,bG];simp)]):P:=h
theorem ahU(h:P:=by have:=hG.tx.AU;omega):P:=h
theorem ahW(h:P:=by rw[HE.aa,CQ,YP];rfl):P:=h
theorem Xc(h:P:=by have:=HM.aa k h;omega):P:=h
theorem ahX(h:P:=by simp[Value.ownBlock]at hk):P:=h
theorem QC(h:P:=by have:=HG.aa;omega):P:=h
theorem Xd(h:P:=by rw[F0.aa,h];simp):P:=h
theorem Xe(h:P:=by rw[F1.aa,h];simp):P:=h
theorem Xf(h:P:=by rw[F2.aa,h];simp):P:=h
theorem ah0(h:P:=by rw[HR.aa,ajW];rfl):P:=h
theorem Xi(h:P:=by rw[Ta.aa];rfl):P:=h
theorem Xj(h:P:=by rw[<- ic.aa,HQ.aa];exact HH.aa.1):P:=h
theorem ah6(h:P:=by rw[<- ic.aa,HQ.aa];exact akI.aa):P:=h
theorem QD(h:P:=by simp[uI,cD]):P:=h
theorem D4(h:P:=by simp[uI]):P:=h
theorem aib(h:P:=by rw[HF.aa];unfold wI;rw[ht];rfl):P:=h
theorem aid(h:P:=by simp at hpn;unfold oP;omega):P:=h
theorem aif(h:P:=by rw[ayG,Nat.mod_eq_of_lt (by omega)]):P:=h
theorem aih(h:P:=by rw[zQ,List.drop_eq_getElem_cons hlt];rfl):P:=h
theorem aii(h:P:=by rw[HOA.aa,hab];rfl):P:=h
theorem LC(h:P:=by simp[hz]):P:=h
theorem QF(h:P:=by simp[Ad]):P:=h
theorem QH(h:P:=by simpa using h6):P:=h
theorem Xl(h:P:=by rw[HP.aa];rfl):P:=h
theorem ain(h:P:=by rw[HR.aa];simp[h1]):P:=h
theorem LF(h:P:=by subst h2;simp):P:=h
theorem Xm(h:P:=by subst h5;simp):P:=h
theorem Xn(h:P:=by subst h6;simp):P:=h
theorem axE(h:P:=by simp[aF,List.lookup,bj,e0,e8,execOp,aG,go_sem,aun];exact⟨rfl,rfl⟩):P:=h
theorem QO(h:P:=by rw[HB.aa,hall.aa,hx];rfl):P:=h
theorem ait(h:P:=by rw[HS.aa,if_neg];rw[HN.aa,EY.aa];simp):P:=h
theorem aiu(h:P:=by rcases hk with hk|hk;exact bz hk nu;exact (bT k hk).2):P:=h
theorem Xp(h:P:=by rw[HB.aa,hx];simp):P:=h
theorem Xq(h:P:=by rw[Bool.eq_iff_iff];simp):P:=h
theorem LG(h:P:=by rw[lQ.aa];exact aD _):P:=h
theorem aiw(h:P:=by simp[results,results162,go_sem,e9]):P:=h
theorem LH(h:P:=by rw[IntKind.wrap_i64];omega):P:=h
theorem QQ(h:P:=by subst e;omega):P:=h
theorem Xr(h:P:=by rw[HNM.aa];omega):P:=h
theorem Xt(h:P:=by show (l.length:Int)%2^64=_;omega):P:=h
theorem Xu(h:P:=by simpa using xZ.aa):P:=h
theorem Xv(h:P:=by rw[gJ hlt,List.flatMap_append];simp only[uy,List.flatMap_nil,List.append_nil,eu]):P:=h
theorem Xz(h:P:=by simp only[gK];rw[HJ.aa]):P:=h
theorem XA(h:P:=by have:=Bi.aa;rw[this]):P:=h
theorem LI(h:P:=by have:=kA.size;omega):P:=h
theorem aiG(h:P:=by rintro (e|e) <;> omega):P:=h
theorem aiH(h:P:=by simp[results,results113,go_sem,e9]):P:=h
theorem aiJ(h:P:=by rw[HE.aa,GJ];rfl):P:=h
theorem aiL(h:P:=by rw[iQ.aa,SS.aa,hc1];rfl):P:=h
theorem aiM(h:P:=by rw[HQ.aa,ik];rfl):P:=h
theorem tu(h:P:=by simp[oV]):P:=h
theorem aiO(h:P:=by have:=hr.calls;omega):P:=h
theorem aiP(h:P:=by unfold gX fA;rw[h.lh];simp;omega):P:=h
theorem aiQ(h:P:=by injection e with e _;omega):P:=h
theorem QR(h:P:=by decide +kernel):P:=h
theorem aiR(h:P:=by simp[go_sem,execOp,scase,Act.eval]):P:=h
theorem aiS(h:P:=by simp[go_sem,execOp,rcase,Act.eval]):P:=h
theorem aiT(h:P:=by simp[results,f111,Frame.at]):P:=h
theorem I4(h:P:=by grind [dh]):P:=h
theorem aiV(h:P:=by rw[h.len];exact g2):P:=h
theorem F6(h:P:=by unfold jf;rw[if_neg (by omega)]):P:=h
theorem XK(h:P:=by have:=h1.lo k e;omega):P:=h
theorem aiX(h:P:=by have:=PJ h.lo ⟨hk.1,.inl hk.2⟩;exact⟨this.1,this.2.1⟩):P:=h
theorem XL(h:P:=by have:=h.lo k e;omega):P:=h
theorem XM(h:P:=by injection e with e;exact e.symm):P:=h
theorem ai4(h:P:=by rintro k (h|rfl) <;> omega):P:=h
theorem ai5(h:P:=by constructor <;> omega):P:=h
theorem ai6(h:P:=by rw[hX];exact .inr rfl):P:=h
theorem XP(h:P:=by unfold yP;omega):P:=h
theorem ai7(h:P:=by simp[aF,List.lookup,hp];exact JR.aa W kW):P:=h
theorem ai8(h:P:=by simp[aF,List.lookup,hp];exact vC.aa W kW):P:=h
theorem axV(h:P:=by obtain⟨H,own,a,b,c,d,e,f⟩:=HE.aa;exact⟨H,own,a,b,c,d,e,by first|exact f|exact .inr trivial⟩):P:=h
theorem XQ(h:P:=by have:=hs.lc;omega):P:=h
theorem aja(h:P:=by simp[results,results14,go_sem,e9]):P:=h
theorem ajb(h:P:=by simp[results,results32,go_sem,e9]):P:=h
theorem ajc(h:P:=by have:=HVB.aa.1 v Kt k e;have:=G2.aa;omega):P:=h
theorem I6(h:P:=by simp[intOf];omega):P:=h
theorem aje(h:P:=by simp[results,results19,go_sem,e9]):P:=h
theorem ajg(h:P:=by rw[<- HS.aa];exact List.take_prefix _ _):P:=h
theorem ax0(h:P:=by rw[<- e];rw[show k+49*(pre++[(j:Int)]).length=k+49*pre.length+49 by simp;omega];exact hI9):P:=h
theorem XS(h:P:=by have:=HKK.aa;omega):P:=h
theorem aji(h:P:=by have:=(h.1.up hu).2.1.calls;omega):P:=h
theorem ax3(h:P:=by unfold Func.isWrapper;first|(rw[if_pos (by decide +kernel)];kernel_rfl)|(rw[if_neg (by decide +kernel)];exact⟨rfl,rfl⟩)):P:=h
theorem ajn(h:P:=by rw[hlo.aa];exact (k1.tr kW).size):P:=h
theorem QX(h:P:=by rw[<- ic.aa,HP.aa];exact lC.aa):P:=h
theorem Lq(h:P:=by
 clear sR;obtain⟨j,hj,rfl,hO,kr⟩:=hrel;have qZ:=k3.tr kr;by_cases hlt:j<es.length
 ·exact ax4
 ·exact ax5):P:=h
theorem ax5(h:P:=by have aP:¬(j:Int)<es.length:=af;rw[gQ af]at hO;have TY:=eE.ay kr;have nR:=dN.ay kr;have wK:fT wr w1.heap.size (.slice A1 f.length c1) f:=qv eN kr;obtain⟨Ao,co,rfl,-⟩:=hO.slice;have q:=TY.cell;have z:=TY.frozen;have hzz:=kr.size;go_upto_region 9 with (fail);have dY:ai (wr.setCell ⟨w.heap.size,7,none⟩ (.slice Ao es.length co)) w.heap.size 126 #[.int .i64 k,.int .i64 b,.int .u64 l,.int .u64 s,.int .i64 cl,.int .u64 u,.slice A1 f.length c1,.slice Ao es.length co]:=TY.aQ 7 _;have iy:=nR.far (p:=⟨w.heap.size,7,none⟩) aj (.slice Ao es.length co);have k5:K w (wr.setCell ⟨w.heap.size,7,none⟩ (.slice Ao es.length co)):=K.set qZ (aD _) 7 _;have pq:=fT.up wK (w':=wr.setCell ⟨w.heap.size,7,none⟩ (.slice Ao es.length co)) (aI.set af 7 _);have cK:=hO.up (w':=wr.setCell ⟨w.heap.size,7,none⟩ (.slice Ao es.length co)) (aD _) (aI.set af 7 _);clear TY nR wK hO q z;generalize wr.setCell _ _=w5 at *;have q:=dY.cell;have y:=iy.cell;have z:=iy.frozen;go_wp2;have cX:ai (World.setCell w5 _ _) (w.heap.size+1) 126 #[.int .i64 k,.int .i64 0,.int .u64 0,.int .u64 0,.int .i64 0,.int .u64 0,.slice none 0 0,.slice none 0 0]:=(iy).aQ 0 (.int .i64 k);have cX:ai (World.setCell (World.setCell w5 _ _) _ _) (w.heap.size+1) 126 #[.int .i64 k,.int .i64 b,.int .u64 0,.int .u64 0,.int .i64 0,.int .u64 0,.slice none 0 0,.slice none 0 0]:=(cX).aQ 1 (.int .i64 b);have cX:ai (World.setCell (World.setCell (World.setCell w5 _ _) _ _) _ _) (w.heap.size+1) 126 #[.int .i64 k,.int .i64 b,.int .u64 l,.int .u64 0,.int .i64 0,.int .u64 0,.slice none 0 0,.slice none 0 0]:=(cX).aQ 2 (.int .u64 l);have cX:ai (World.setCell (World.setCell (World.setCell (World.setCell w5 _ _) _ _) _ _) _ _) (w.heap.size+1) 126 #[.int .i64 k,.int .i64 b,.int .u64 l,.int .u64 s,.int .i64 0,.int .u64 0,.slice none 0 0,.slice none 0 0]:=(cX).aQ 3 (.int .u64 s);have cX:ai (World.setCell (World.setCell (World.setCell (World.setCell (World.setCell w5 _ _) _ _) _ _) _ _) _ _) (w.heap.size+1) 126 #[.int .i64 k,.int .i64 b,.int .u64 l,.int .u64 s,.int .i64 cl,.int .u64 0,.slice none 0 0,.slice none 0 0]:=(cX).aQ 4 (.int .i64 cl);have cX:ai (World.setCell (World.setCell (World.setCell (World.setCell (World.setCell (World.setCell w5 _ _) _ _) _ _) _ _) _ _) _ _) (w.heap.size+1) 126 #[.int .i64 k,.int .i64 b,.int .u64 l,.int .u64 s,.int .i64 cl,.int .u64 u,.slice none 0 0,.slice none 0 0]:=(cX).aQ 5 (.int .u64 u);have cX:ai (World.setCell (World.setCell (World.setCell (World.setCell (World.setCell (World.setCell (World.setCell w5 _ _) _ _) _ _) _ _) _ _) _ _) _ _) (w.heap.size+1) 126 #[.int .i64 k,.int .i64 b,.int .u64 l,.int .u64 s,.int .i64 cl,.int .u64 u,.slice A1 f.length c1,.slice none 0 0]:=(cX).aQ 6 (.slice A1 f.length c1);have cX:ai (World.setCell (World.setCell (World.setCell (World.setCell (World.setCell (World.setCell (World.setCell (World.setCell w5 _ _) _ _) _ _) _ _) _ _) _ _) _ _) _ _) (w.heap.size+1) 126 #[.int .i64 k,.int .i64 b,.int .u64 l,.int .u64 s,.int .i64 cl,.int .u64 u,.slice A1 f.length c1,.slice Ao es.length co]:=(cX).aQ 7 (.slice Ao es.length co);have U9:=((((((((aI.rf (w.heap.size+1+1) none w5).tr (aI.set (b:=w.heap.size+1) af 0 (.int .i64 k))).tr (aI.set (b:=w.heap.size+1) af 1 (.int .i64 b))).tr (aI.set (b:=w.heap.size+1) af 2 (.int .u64 l))).tr (aI.set (b:=w.heap.size+1) af 3 (.int .u64 s))).tr (aI.set (b:=w.heap.size+1) af 4 (.int .i64 cl))).tr (aI.set (b:=w.heap.size+1) af 5 (.int .u64 u))).tr (aI.set (b:=w.heap.size+1) af 6 (.slice A1 f.length c1))).tr (aI.set (b:=w.heap.size+1) af 7 (.slice Ao es.length co));have K9:=(K.set (K.set (K.set (K.set (K.set (K.set (K.set (K.set k5 (r:=w.heap.size+1) af 0 (.int .i64 k)) (r:=w.heap.size+1) af 1 (.int .i64 b)) (r:=w.heap.size+1) af 2 (.int .u64 l)) (r:=w.heap.size+1) af 3 (.int .u64 s)) (r:=w.heap.size+1) af 4 (.int .i64 cl)) (r:=w.heap.size+1) af 5 (.int .u64 u)) (r:=w.heap.size+1) af 6 (.slice A1 f.length c1)) (r:=w.heap.size+1) af 7 (.slice Ao es.length co));clear q y z;generalize (World.setCell (World.setCell (World.setCell (World.setCell (World.setCell (World.setCell (World.setCell (World.setCell w5 _ _) _ _) _ _) _ _) _ _) _ _) _ _) _ _)=W9 at *;have e9:=cX.cell;refine bodyPost_ret (v:=.agg #[.int .i64 k,.int .i64 b,.int .u64 l,.int .u64 s,.int .i64 cl,.int .u64 u,.slice A1 f.length c1,.slice Ao es.length co]) (by simp[results,zR.aa,go_sem,e9]) rfl ?_;exact⟨_,rfl,⟨_,_,rfl,mN af (fT.up pq (U9.more af (λ_ _ _=>aj))),(aX.low (aX.floor (cK.up (aD _) (U9.more af (λ_ _ _=>aj))) af) af)⟩,K9⟩):P:=h
theorem ax4(h:P:=by
 have aP:(j:Int)<es.length:=af;obtain⟨b1,off,cs,rfl,aN,hcl,⟨ve,rfl,iN⟩,hcell⟩:=I7 he j hlt ax;have d0:wr.cell? ⟨b1,off+j,none⟩=some ve:=by have:=hcell 0 ax;rw[qZ.cell af];simpa [cO]using this
 have HT:Hid (es.take (j+1)=es.take j++[es[j]]):=ae aj;have hej:=GU.aa _ (bZ hlt);have Et:=qC _ _ _ _ iN qZ;generalize es[j]=ej at *;obtain⟨Ae,ce,rfl,hRe⟩:=Et;have gV:(es.take j).length<=1000000:=ba;have BK:=kr.size;clear hcell iN;go_wp2_with (at_builtin;refine iW rfl _ _ 51 rfl wr.heap.size 76 _ 4 48 TE _ 0 [] rfl (kU _ _ _ _) _ Ae ej.length ce (ej.flatMap nI) rfl hRe (Vj ej) ?p1 (aD _) ?_)
 case p1=>omega
 intro v2 w4 dG _ _ hb2;have Sg:=ae (qM.rel (show qM w4 wr.heap.size v2 ej from dG));obtain⟨A2,c2,rfl,-⟩:=(show qM w4 wr.heap.size v2 ej from dG).slice;have lq:=hO.blk;have cI:=hO.st hb2;have gG:=kr.tr hb2;obtain⟨css,hown,hcl,lJ⟩:=cI;have gM:=hb2.size;clear hO hb2 dG;have kA:=K.new w4 (.cells #[.slice A2 ej.length c2] 51);have hbase:w3.heap.size<=(w4.alloc (.cells #[.slice A2 ej.length c2] 51)).heap.size:=LI;go_wp2_with (at_builtin;refine iW rfl _ _ 37 rfl w3.heap.size 51 _ 1 24 JD _ _ _ rfl (qG hown _) (w4.heap.size+1) _ 1 1 [.slice A2 ej.length c2] rfl ?c1 ?c2 ?c3 hbase ?_)
 case c1=>exact Reads.new w4 [.slice A2 ej.length c2] 51 1 1 rfl
 case c2=>intro u hu;simp at hu;subst hu;rfl
 case c3=>omega
 intro v9 w9 gg bC cY aY;have k9:=(gG.tr kA).trans aY;have bq:aX w3.heap.size w3.heap.size 51 cO (es.take (j+1)) v9 w9:=by exact ajo
 clear gg bC cY aY hown lJ;exact Wn):P:=h
theorem aia(h:P:=by
 cases L2
 ·exact ax6
 ·exact ax7):P:=h
theorem ae4(h:P:=by
 apply aM (O3 k N ⟨s.toArray⟩ _);intro W5 jH;have eF:=eF.below jH (by have:=dN.lt;simp;omega);have b5:=b5.ay jH;have hgr:=oO hgr (BN jH _);have Kx:=(ai.new W3 71 #[.int .i64 k,.int .i64 N,.string { data:=s.toArray }]).below jH aj;have ix:=eE.lt;have jg:=jH.size;simp only[World.size_alloc]at jg;clear jH;by_cases hok:iY (k:Int) N ⟨s.toArray⟩=true
 ·exact ax8
 ·have hok:iY (k:Int) N ⟨s.toArray⟩=false:=by simpa using hok
  have hch:(mH (k:Int) N ⟨s.toArray⟩ != 0)=true:=by simp[mH,hok]
  have Fs:=Kx.cell 0;have wV:=Kx.cell 1;have hv2:=Kx.cell 2;simp at Fs wV hv2;go_wp2;have Jz:(if (decide (3<k)||false||!(iY (k:Int) N ⟨s.toArray⟩))=true then (((0,0,[]),l3,true):(Int×Int×List UInt8)×List UInt8×Bool)else (((k:Int),N,s),l3,false))=((0,0,[]),l3,true):=by simp[hok]
  exact ajp):P:=h
theorem ax6(h:P:=by
 have hLB:=oJ.aa rfl;have HQ:Hid (P'=(Bj,lj++[x])):=ae Xi;rw[hLB]at y7;have BH:=ae u3;have Mx:=nT.aW BH.aa (λh=>by have:=HBr.aa.low ga (.inr h);have:=lQ.aa;omega);have NQ:=Mx.cell;have HFa:=ae (S8.aa.to ((ag.aT vI _).tr BH.aa) (X:=bw p2) (λk hk=>(Hw.aa k hk).imp .inr id) λk _ hk=>hk);have kA:=K.new xg (.cells (aE x (.slice Af x.f.length cf) (.slice Ae x.es.length ce)) 126);have Fh:=nM.st kA;have RD:=nM.blk;have hr:=eD.new (S:=aV) (e:=126) (v:=.agg (aE x (.slice Af x.f.length cf) (.slice Ae x.es.length ce))) HFa.aa 0 (eV _);have My:=y7.st kA;have YT:=uR.size;have zP:=ae (And.intro y7 (And.intro uR (And.intro Ez (And.intro EA (And.intro Eo nM)))));have Jt:=ae My;have aAt:lj.length<=1000000:=by simp at SZ;omega
 clear y7 uR Ez EA Eo nM My tT q8;clear pd u3 iH NT;go_wp2_with (at_builtin;refine jN rfl _ _ 43 rfl _ 8 96 pw rfl rfl Fh _ rfl x ?p1 ?p2 ?p3 ?_)
 case p1 => exact ah2
 case p2=>omega
 case p3=>exact bn YT kA.size
 intro v11 NR AV uK Gg Ju;have akI:=ae AV;have NS:=kA.size;have hBw:bB (λk=>((M k∨bw p' k)∨v11.ownBlock=some k)∨bw p3 k) p3 Bj NR:=Jt.aa.far (X:=λk=>(Value.slice Ao lj.length co).ownBlock=some k) (ag.eU uK λk e=>e) (λk hk=>.inl (.inr hk)) (λk hk=>zP.aa.2.2.2.2.1 k hk) (λk hk h=>by
  rcases h with (h|h)|h
  ·exact .inl (.inl h)
  ·exact ah3
  ·exact .inr h) (λk hk=>.inr hk) (λk hk=>by
   have hg:=uK.size;rcases hk with (h|h)|h
   ·exact ah4
   ·exact (AV.blk k h).2
   ·exact bz (Jt.aa.low k (.inr h)) uK.size)
 have L8:∀k,v11.ownBlock=some k->¬bw p3 k:=λk hk h=>by exact ah5
 have u11:=(zP.aa.2.1.tr (ag.aT kA _)).gF (ag.eU (X:=λk=>(Value.slice Ao lj.length co).ownBlock=some k) uK λk e=>e) λk hk h=>by have:=(RD k h).1;omega
 have HH:=ae (And.intro hBw (And.intro u11 (And.intro zP.aa.2.2.1 (And.intro zP.aa.2.2.2.1 L8))));clear hBw u11 L8 hr Fh AV uK Gg Ju NQ Mx;go_wp2;go_roundw
 case rel=>exact⟨j+1,p3,af,bI,Xj,HH.aa.2.1,HH.aa.2.2.1,HH.aa.2.2.2.1,HH.aa.2.2.2.2,ah6⟩
 case measure=>simp[intOf];omega):P:=h
theorem ajp(h:P:=by
 go_step3;refine⟨rfl,?_⟩;have hy0:=b5.cell 0;have AZ:=b5.cell 1;have hy2:=b5.cell 2;have hz0:=b5.frozen 0;have hz1:=b5.frozen 1;have hz2:=b5.frozen 2;simp at hy0 AZ hy2;obtain⟨A4,c4,hb4,_⟩:=id eF;have lI:=hb4.cell 1;have qV:=hb4.frozen 1;simp at lI;go_wp2;have dY:=(((b5.far (p:=⟨g,1,none⟩) ba (.bool true)).aQ 0 (.int .i64 0)).aQ 1 (.int .i64 0)).aQ 2 (.string { data:=#[] });have e0:=dY.cell 0;have e1:=dY.cell 1;have e2:=dY.cell 2;simp at e0 e1 e2;have hw:=eF.VB;rw[iq];refine bodyPost_ret (v:=vd (0,0,[])) VC rfl ?_;rw[HN.aa,Jz];refine⟨rfl,?_,?_⟩
 ·exact ae2
 ·exact ae3):P:=h
theorem agn(h:P:=by
 clear rW;go_wp2_with fail
 apply cG (CV.aa w1 k1) k1;intro w2 j2 k2;replace kk:=kk.tr j2;cases h2:kY sJ m.cU
 ·have HQ:Hid (iU m=130):=ae (by unfold iU;rw[show ed m=false from by simp[ed,h2]];rfl);go_wp2;go_ret;exact⟨nW,k2⟩
 go_wp2_with fail
 apply cG (CA.aa w2 k2) k2;intro w3 j3 k3;replace kk:=kk.tr j3;cases h3:kY bJ m.asks
 ·have HQ:Hid (iU m=130):=ae (by unfold iU;rw[show ed m=false from by simp[ed,h3]];rfl);go_wp2;go_ret;exact⟨nW,k3⟩
 go_wp2_with fail
 apply cG (CE.aa w3 k3) k3;intro w4 j4 k4;replace kk:=kk.tr j4;cases h4:kY bJ m.entries
 ·have HQ:Hid (iU m=130):=ae (by unfold iU;rw[show ed m=false from by simp[ed,h4]];rfl);go_wp2;go_ret;exact⟨nW,k4⟩
 go_wp2_with fail
 apply cG (CP.aa w4 k4) k4;intro w5 j5 k5;replace kk:=kk.tr j5;cases h5:kY bJ m.fe
 ·have HQ:Hid (iU m=130):=ae (by unfold iU;rw[show ed m=false from by simp[ed,h5]];rfl);go_wp2;go_ret;exact⟨nW,k5⟩
 go_wp2_with fail
 apply cG (CB.aa w5 k5) k5;intro w6 j6 k6;replace kk:=kk.tr j6;cases h6:kY oy m.dQ
 ·have HQ:Hid (iU m=130):=ae (by unfold iU;rw[show ed m=false from by simp[ed,h6]];rfl);go_wp2;go_ret;exact⟨nW,k6⟩
 go_wp2_with fail
 apply cG (CD.aa w6 k6) k6;intro w7 j7 k7;replace kk:=kk.tr j7;cases h7:kY oy m.ends
 ·have HQ:Hid (iU m=130):=ae (by unfold iU;rw[show ed m=false from by simp[ed,h7]];rfl);go_wp2;go_ret;exact⟨nW,k7⟩
 have HQ:Hid (iU m=0):=ae (by unfold iU;rw[show ed m=true from by simp[ed,hK,h2,h3,h4,h5,h6,h7]];rfl);go_wp2;go_ret;exact⟨nW,k7⟩):P:=h
theorem ahr(h:P:=by
 have Et:=qC _ _ _ _ iN kr;generalize es[j]=ej at *;obtain⟨Ae,ce,rfl,hRe⟩:=Et;have gV:(es.take j).length<=1000000:=ba;have BK:=kr.size;clear hcell iN;go_wp2_with (at_builtin;refine iW rfl _ _ 51 rfl wr.heap.size 76 _ 4 48 TE _ 0 [] rfl (kU _ _ _ _) _ Ae ej.length ce (ej.flatMap nI) rfl hRe (Vj ej) ?p1 (aD _) ?_)
 case p1=>omega
 intro v2 w4 dG _ _ hb2;have Sg:=ae (qM.rel (show qM w4 wr.heap.size v2 ej from dG));obtain⟨A2,c2,rfl,-⟩:=(show qM w4 wr.heap.size v2 ej from dG).slice;have lq:=hO.blk;have cI:=hO.st hb2;have gG:=kr.tr hb2;obtain⟨css,hown,hcl,lJ⟩:=cI;have gM:=hb2.size;clear hO hb2 dG;have kA:=K.new w4 (.cells #[.slice A2 ej.length c2] 51);have hbase:w.heap.size<=(w4.alloc (.cells #[.slice A2 ej.length c2] 51)).heap.size:=LI;go_wp2_with (at_builtin;refine iW rfl _ _ 37 rfl w.heap.size 51 _ 1 24 JD _ _ _ rfl (qG hown _) (w4.heap.size+1) _ 1 1 [.slice A2 ej.length c2] rfl ?c1 ?c2 ?c3 hbase ?_)
 case c1=>exact Reads.new w4 [.slice A2 ej.length c2] 51 1 1 rfl
 case c2=>intro u hu;simp at hu;subst hu;rfl
 case c3=>omega
 intro v9 w9 gg bC cY aY;have k9:=(gG.tr kA).trans aY;have bq:aX w.heap.size w.heap.size 51 cO (es.take (j+1)) v9 w9:=by exact ajo
 clear gg bC cY aY hown lJ;exact Wn):P:=h
theorem ajo(h:P:=by
 rw[HT.aa];exact aX.snoc hcl (λw' u=>lJ w' (aI.tr (aI.aT kA _ _) u)) (by rw[List.length_take_of_le (show j<=es.length by omega)];exact gg) bC rE
  (λw' u=>Sg.aa w' ((aI.tr (aI.aT kA _ _) u).more af (λk hk _ e=>aA)))):P:=h
theorem ae0(h:P:=by
 rw[DK k,HKN.aa];apply bS (xp A m c l KN pY _ B (hR.below aj5 hB) ba af);rintro v1 w1⟨eH,aN⟩;have hx1:=(ai.new w 71 #[.int .i64 k,.int .i64 n,.string s]).below aN aj;have ik:=hx1.cell 2;simp at ik;obtain⟨A1,c1,rfl,jZ⟩:=eH.slice;have jX:(l++az KN).length<=m+9:=by have:=Hml.aa;simp;omega
 generalize kH:(l++az KN).length=m1 at *;clear kH eH;have hz1:=aN.size;simp only[World.size_alloc]at hz1;go_wp2_with fail
 apply bS (xp A1 m1 c1 _ NV hnl w1 w1.heap.size jZ (aD _) af);rintro v2 w2⟨dG,hb2⟩;have hx2:=hx1.below hb2 af;have rA:=hx2.cell 2;simp at rA;clear ik hx1 jZ;obtain⟨A2,c2,rfl,sM⟩:=dG.slice;have ew:(l++az KN++az NV).length<=m+18:=by have:=Hml.aa;simp;omega
 generalize hm2:(l++az KN++az NV).length=m2 at *;clear hm2 dG;have hz2:=hb2.size;go_wp2_with fail
 have hcb:Below w2.heap.size w2 (w2.drew.alloc (.cells (bytesRow s (grownCap w2 s.size 0 5)) 5 ((bytesRow s (grownCap w2 s.size 0 5)).size,(bytesRow s (grownCap w2 s.size 0 5)).size+1))):=((cT _ w2).drew).alloc (aD _) _;apply bS (O2 A2 _ m2 c2 s.size _ _ (dX s) _ (w2.heap.size+1) ((sM.below hcb (aD _)).more af) (Reads.conv w2.drew s _ _ _) aj af af);rintro v3 w3⟨eN,bG⟩;go_wp2;go_ret;refine⟨_,rfl,?_,?_⟩
 ·unfold nZ;rw[HKN.aa,Zh.aa];refine ua ?_ eN;simp;omega
 ·exact ((aj5.trans (aN.mono aj)).trans (hb2.mono af)).trans ((hcb.mono af).trans (bG.mono ba))):P:=h
theorem P6(h:P:=by have q:=D.rv.cell;have z:=D.rv.frozen;go_wp2;clear q z;have P9:=D.put zEL rfl;simp only[ef,zEL,Nat.reduceAdd,mQ]at P9;generalize World.setCell _ _ _=W9 at *;have e9:=P9.1.cell;refine bodyPost_ret (v:=.tuple #[.agg eQ,.int .i64 110]) afZ rfl ?_;exact⟨.agg eQ,P8,by rw[HN.aa.2];exact λ_ _=>avl _,P9.2.1⟩):P:=h
theorem PL(h:P:=by
 go_enter func210,ntmps210;go_wp2;refine Kz 0 rfl ?_;go_wp2_with fail
 apply aM HN.aa;rintro w2⟨ph,hgr⟩;obtain⟨h9,pZ⟩:=hfin w2 ph hgr;obtain⟨A,c,hb,hr,hc1,ik⟩:=ph;have dL:=hb.cell 0;have hx1:=hb.cell 1;have qV:=hb.frozen 1;simp at dL hx1;go_wp2;go_step3;refine⟨rfl,?_⟩;go_wp2;rw[iq];go_ret;exact⟨_,rfl,h9,pZ⟩):P:=h
theorem ax8(h:P:=by
 have hch:(mH (k:Int) N ⟨s.toArray⟩ != 0)=false:=by simp[mH,hok]
 have hy0:=b5.cell 0;have AZ:=b5.cell 1;have hy2:=b5.cell 2;have hz0:=b5.frozen 0;have hz1:=b5.frozen 1;have hz2:=b5.frozen 2;have Fs:=Kx.cell 0;have wV:=Kx.cell 1;have hv2:=Kx.cell 2;simp at hy0 AZ hy2 Fs wV hv2;go_wp2;have dY:=((b5.aQ 0 (.int .i64 k)).aQ 1 (.int .i64 N)).aQ 2 (.string { data:=s.toArray });have e0:=dY.cell 0;have e1:=dY.cell 1;have e2:=dY.cell 2;simp at e0 e1 e2;simp only[Exit.jump];refine bodyPost_ret (v:=vd (k,N,s)) VC rfl ?_;have Jz:(if (decide (3<k)||false||!(iY (k:Int) N ⟨s.toArray⟩))=true then (((0,0,[]),l3,true):(Int×Int×List UInt8)×List UInt8×Bool)else (((k:Int),N,s),l3,false))=(((k:Int),N,s),l3,false):=by simp[h3,hok]
 rw[HN.aa,Jz];refine⟨rfl,?_,?_⟩
 ·exact Rd.below (B:=w.heap.size) eF ((((cT _ _).setCell aj _).setCell aj _).setCell aj _) hg
 ·exact yA (yA (yA hgr aj _) aj _) aj _):P:=h
theorem V2(h:P:=by go_wp2;clear q z;have P9:=D.put zRL rfl;simp only[ef,zRL,Nat.reduceAdd,mQ]at P9;generalize World.setCell _ _ _=W9 at *;have e9:=P9.1.cell;refine bodyPost_ret (v:=.tuple #[.agg rP,.int .i64 110]) af4 rfl ?_;exact⟨.agg rP,P8,by rw[HN.aa.2];exact λ_ _=>avw _,P9.2.1⟩):P:=h
theorem XG(h:P:=by
 have q:=D.rv.cell;have z:=D.rv.frozen;have aj4:Hid (tI b=none):=ae (by rw[HD.aa];simp);obtain rfl:CK=130:=by rw[Ic.aa,aj4.aa];rfl
 obtain rfl:MX=uH:=by rw[HMX.aa,aj4.aa];rfl
 go_wp2;have P9:=D.put zML rfl;simp only[ef,zML,Nat.reduceAdd,mQ]at P9;clear q z;generalize World.setCell _ _ _=W9 at *;have e9:=P9.1.cell;refine bodyPost_ret (v:=.tuple #[.agg Jy,.int .i64 130]) aiH rfl ?_;exact⟨.agg Jy,rfl,λ_ _=>awo _,P9.2.1⟩):P:=h
theorem Xg(h:P:=by
 have Kr:ag (λk=>k=g∨k=g+1∨k=g+2) w6 w9:=⟨s9.os.trans u8.os,s9.tape.trans u8.tape,s9.output.trans u8.output,bn u8.size s9.size,λk h1 h2=>(s9.block k (bz h1 u8.size) aA).trans (u8.block k h1 h2)⟩;clear CC hB T8 S0 S4 S5 q8 ql aAn aAo aAp;have HD:=ae S6;have u9:=Kr;clear S6;go_wp2;go_roundw
 case rel=>exact⟨j+1,af,bI,HD.aa,u9⟩
 case measure=>simp[intOf];omega):P:=h
theorem IW(h:P:=by
 go_wp2;go_roundw
 case rel=>exact⟨k+1,af,bI,nR,kW⟩
 case measure=>simp[intOf];omega):P:=h
theorem ahh(h:P:=by
 rintro v2 w2⟨ho,k2⟩;obtain⟨oK,oL,rfl,hF⟩:=B6 ho;have bT:=hO.blk;have hz:=iV.size;replace hO:=hO.st k2;have ry:=iV.tr k2;have hr:=eD.new (S:=aV) (e:=126) (v:=.agg (aE x oK oL)) hF 0 (eV _);have bH:=hO.st ((K.rf w2).al (.cells (aE x oK oL) 126));have cJ:=ry.tr ((K.rf w2).al (.cells (aE x oK oL) 126));clear hO hF ho q;go_wp2_with (at_builtin;refine jN rfl _ _ 43 rfl _ 8 96 pw rfl rfl bH _ rfl x ?p1 ?p2 ?p3 ?_)
 case p1=>exact hr.less λk hk=>agC
 case p2=>simp;omega
 case p3=>exact cJ.size
 intro v9 w9 bq bC _ aY;rw[<- HT.aa]at bq;have iz:=cJ.trans aY;clear hr bH;exact Qu):P:=h
theorem DT(h:P:=by go_wp2;go_ret;exact⟨fW,k1⟩):P:=h
theorem Qk(h:P:=by
 obtain⟨rfl,rfl⟩:xs=[]/\n=0:=by exact ax9
 go_wp2;go_ret;exact⟨_,rfl,kU _ _ _ _,kk⟩):P:=h
theorem ags(h:P:=by
 rintro s A B row⟨v,hv,hrow,hB,hz⟩ hg hr;have hne:∀g t cs,ai A g t cs->some g≠row:=λg t cs hb e=>by obtain⟨h1,o,h2,h3⟩:=hr g e.symm;unfold ai at hb;rw[hb]at h2;injection h2 with h2;rw[<- h2]at h3;cases h3
 refine⟨v,hv.kept hg (hne _ _ _ hv),FJ hrow λg _ h1 h2=>hg.block g h1 ?_,⟨hg.os.trans hB.os,hg.tape.trans hB.tape,hg.output.trans hB.output,bn hB.size hg.size,λk hk=>(hg.block k (bz hk hB.size) λe=>?_).trans (hB.block k hk)⟩,bn hz hg.size⟩
 ·obtain⟨cur,hb⟩:=mq hrow h2;exact hne _ _ _ hb
 ·obtain⟨h1,-⟩:=hr k e.symm;have:=k2.size;omega):P:=h
theorem Lc(h:P:=by go_enter func192,ntmps192;go_wp2;refine Kz 0 rfl ?_;go_wp2;go_step3;refine⟨rfl,?_⟩;go_wp2;rw[iq];go_ret;exact⟨rfl,AJ _ rfl⟩):P:=h
theorem Xb(h:P:=by
 go_wp2;go_roundw
 case rel=>exact⟨j+1,af,bI,by rw[<- ic.aa,HP.aa];exact Mu,vF⟩
 case measure=>simp[intOf];omega):P:=h
theorem IX(h:P:=by simp only[cF,aO,aR,bW,bY,aJ]at hp;exact⟨hp.1,hp.2.1.less λ_ h=>h⟩):P:=h
theorem agB(h:P:=by
 have hb:=ai.new w 5 #[];have k1:=hb.aU;have ho:(w.alloc (.cells #[] 5)).ownsRow w.heap.size 5 1 (.slice (some ⟨w.heap.size,0,none⟩) 0 0) 0 [] :=
  ⟨rfl,.inr ⟨w.heap.size,0,_,rfl,aD _,hb,aD _,BW,aj,aj⟩⟩
 have jZ:=(hR.below k1 (aD _)).more k1.size;go_wp2_with (at_builtin;refine iW rfl _ _ 94 rfl w.heap.size 5 _ 1 1 TB _ 0 [] rfl ho _ (some ad) n c xs rfl jZ h1 ?p1 k1.size ?_)
 case p1=>omega
 exact Wl):P:=h
theorem Qq(h:P:=by simp only[cF,aO,aR,bW,bY,aJ]at hp;obtain⟨⟨v',e,hO⟩,-⟩:=hp;simp[bR,aF,List.lookup,e,cW,execOp,aG,cT,go_sem];exact hO):P:=h
theorem Qr(h:P:=by simp only[cF,aO,aR,bW,bY,aJ]at hp;obtain⟨⟨v',e,hO⟩,-⟩:=hp;simp[bR,aF,List.lookup,e,cW,execOp,aG,aJ,cT,go_sem]):P:=h
theorem IZ(h:P:=by
 go_wp2;try rw[iq]
 go_ret2;exact⟨_,nW,F3,bD⟩):P:=h
theorem ah5(h:P:=by
 rcases Gg with e|e
 ·exact zP.aa.2.2.2.2.1 k (e▸hk) h
 ·exact aya):P:=h
theorem ahs(h:P:=by
 go_wp2_with fail
 apply aM (C1.aa a w);intro w2 k2;go_wp2_with fail
 apply cG (C1.aa b w2) k2;intro w3 k3 k;clear C1;by_cases h1:a<b
 ·have HE:Hid (R=-1):=ae ag6;exact XX
 by_cases h2:b<a
 ·have HE:Hid (R=1):=ae ag7;exact XX
 have HE:Hid (R=0):=ae ag8;exact XX):P:=h
theorem Lw(h:P:=by have aP:¬(j:Int)<l.length:=af;obtain rfl:j=l.length:=af;rw[nC]at hO;exact Ql):P:=h
theorem ahw(h:P:=by
 have ali:=iA.blk;have C3:=ae (ac7 _ _ R v8 w8 iA NF Z5);clear j9 Jq Fc akx pE Z5;obtain⟨A8,c8,rfl⟩:=iA.slice;go_wp2_with fail
 apply aM C3.aa;rintro w9⟨bq,u9⟩;have rr:=SR.size;have kF:=u9.k sZ λk hk=>by have:=(ali k hk).1;have:=lQ.aa;omega
 have HO:Hid (aB (λk=>k<lo) lo 246 iI R (.slice A8 R.length c8) w9):=ae ((bq.less λk hk=>af).low af);clear C3 bq u9 ali iA;exact aht):P:=h
theorem Lz(h:P:=by
 go_wp2;go_roundw
 case rel=>exact⟨j+1,af,bI,by rw[<- ic.aa,HP.aa];exact cI,gG⟩
 case measure=>simp[intOf];omega):P:=h
theorem DX(h:P:=by go_wp2;go_ret;exact⟨iK,rfl⟩):P:=h
theorem Qp(h:P:=by
 rcases hx with hx|hx|hx
 ·have:=ZI.aa;have:=x7.aa;have:=Nd.aa;omega
 ·have:=(xa.aa.blk gp hx).1;have:=Nd.aa;omega
 ·have:=JR.aa gp hx;have:=x7.aa;omega):P:=h
theorem yE(h:P:=by go_wp2;go_ret;exact⟨fW,kk⟩):P:=h
theorem Ww(h:P:=by simp only[cF,aO,aR,bW,bY,aJ]at hp;obtain⟨⟨J1,J2,e3,hF⟩,h5,-⟩:=hp;simp[e3,h5,bR,aF,List.lookup,cW,execOp,aG,cT,go_sem];exact⟨_,_,rfl,Ex.tx hF⟩):P:=h
theorem ae2(h:P:=by exact Rd.below (B:=w.heap.size) hw.1 ((((cT _ _).setCell aj _).setCell aj _).setCell aj _) hg):P:=h
theorem ax9(h:P:=by
 rcases Nat.eq_zero_or_pos xs.length with h|h
 ·refine⟨List.eq_nil_of_length_eq_zero h,?_⟩;have:=hR.1;omega
 ·obtain⟨b,off,e,-⟩:=hR.2 h;cases e):P:=h
theorem ax7(h:P:=by
 have HQ:Hid (P'=(L1,lj)):=ae Xi;have HH:=ae (And.intro y7 (And.intro uR (And.intro Ez (And.intro EA (And.intro Eo nM)))));clear y7 uR Ez EA Eo nM pd u3 iH NT tT;go_wp2;go_roundw
 case rel=>exact⟨j+1,p3,af,bI,Xj,HH.aa.2.1,HH.aa.2.2.1,HH.aa.2.2.2.1,HH.aa.2.2.2.2.1,by rw[<- ic.aa,HQ.aa];exact HH.aa.2.2.2.2.2⟩
 case measure=>simp[intOf];omega):P:=h
theorem ahN(h:P:=by
 clear hr iA bC cY aY;go_wp2;go_roundw
 case rel=>exact⟨j+1,af,bI,by rw[<- ic.aa,HP.aa];exact bq,vF⟩
 case measure=>simp[intOf];omega):P:=h
theorem Xx(h:P:=by
 rintro v4 w4⟨hs4,k4⟩;rw[<- HS.aa]at hs4;have x8:=ae (mN uV.size hs4);have rm:=uV.tr k4;clear q hs4 HB HS;go_wp2;go_roundw
 case rel=>exact⟨j+1,af,bI,x8,rm⟩
 case measure=>simp[intOf];omega):P:=h
theorem ahM(h:P:=by
 have HE:=ae (by
  have:=hall.aa;rw[gQ af]at this;exact this)
 go_wp2;go_ret;exact⟨_,rfl,kr,by rw[HE.aa];simp⟩):P:=h
theorem Qo(h:P:=by
 clear gg bC cY aY hown lJ yK kA q5;go_wp2;go_roundw
 case rel=>exact⟨j+1,af,bI,xY,k9⟩
 case measure=>simp[intOf];omega):P:=h
theorem XC(h:P:=by have u0:=(uj.tr u4).tr (ag.aT kA _);exact⟨pV.os.trans u0.os,pV.tape.trans u0.tape,pV.output.trans u0.output,bn u0.size pV.size,λk hk hx=>(pV.block k hk).trans (u0.block k hk hx)⟩):P:=h
theorem Wg(h:P:=by
 have aP:¬(j:Int)<l.length:=af;have HR:Hid (R=true):=ae (by
  have h1:=HT.aa;rw[gQ af]at h1;rw[HI.aa,h1];simp[im])
 go_wp2;go_ret;exact⟨fW,kr⟩):P:=h
theorem Wl(h:P:=by intro v4 w4 eo _ _ hb4;have HO:=ae (by simpa using eo);have k4:=k1.trans hb4;clear eo ho hb;go_wp2;go_ret;exact⟨_,rfl,HO.aa,k4⟩):P:=h
theorem QB(h:P:=by
 go_wp2;go_roundw
 case rel=>exact⟨j+1,_,af,bI,j8,by rw[<- ic.aa,HQ.aa];exact sW,hat,uW⟩
 case measure=>simp[intOf];omega):P:=h
theorem aya(h:P:=by rw[e]at hk;injection hk with hk;have:=zP.aa.1.low k (.inr h);have h9:xg.heap.size<(xg.alloc (.cells (aE x (.slice Af x.f.length cf) (.slice Ae x.es.length ce)) 126)).heap.size:=aj;omega):P:=h
theorem ajq(h:P:=by rintro w' rfl;exact aiK):P:=h
theorem XN(h:P:=by simp only[cF,aO,aR,bW,bY,aJ]at hp;obtain⟨⟨p,code,e⟩,-⟩:=hp;exact ai2):P:=h
theorem Qu(h:P:=by
 go_wp2;go_roundw
 case rel=>exact⟨j+1,af,bI,bq,iz⟩
 case measure=>simp[intOf];omega):P:=h
theorem QN(h:P:=by
 go_wp2_with (with_reducible refine adj rfl (.tmp 23) (.tmp 24) rfl a b rfl rfl ?_)
 exact Cd):P:=h
theorem ajr(h:P:=by go_wp2;go_ret;refine⟨?_,rfl⟩;rw[HE.aa];show Ending.returned (.int _ _)=Ending.returned (.int _ _);congr 2;all_goals omega):P:=h
theorem afT(h:P:=by
 go_wp2_with fail
 apply cG (KB x _ _ (ER _ k1)) k1;intro w2 k2 bD;have e3:=avq x;cases he:bJ x
 ·exact afQ
 ·exact afR):P:=h
theorem WK(h:P:=by simp only[cF,aO,aR,bW,bY,aJ]at hp;obtain⟨⟨oK,oL,e6,hF⟩,-⟩:=hp;simp[aF,List.lookup,e6];exact⟨rfl,hF⟩):P:=h
theorem I1(h:P:=by rintro w' rfl;have J6:=pE;go_wp2;go_ret;exact⟨iK,J6⟩):P:=h
theorem ae3(h:P:=by exact yA (yA (yA (oO hgr hw.2) aj _) aj _) aj _):P:=h
theorem PZ(h:P:=by clear HO;go_wp2;go_ret;exact⟨fW,bD⟩):P:=h
theorem ahT(h:P:=by
 go_wp2_with (at_builtin;refine jN rfl _ _ 43 rfl _ 8 96 pw rfl rfl lC.a _ rfl x ?p1 ?p2 ?p3 ?_)
 case p1 =>
  exact hr.less λk hk=>by
   rcases hk with (hk|hk)|hk
   ·omega
   ·have:=fq k hk;omega
   ·have:=s8 k hk;omega
 case p2=>omega
 case p3=>exact bn Mt nu
 intro v9 w9 bq bC cY aY;have Mu:=lC.push bq bC rE;exact ahS):P:=h
theorem WV(h:P:=by
 cases hx:q t
 ·exact ajs
 ·exact ayb):P:=h
theorem ajs(h:P:=by have nR:Hid ((l.take (k+1)).any q=false):=ae QO;exact IW):P:=h
theorem XD(h:P:=by
 clear gg bC cY aY hown lJ Df Gw;go_wp2;go_roundw
 case rel=>exact⟨j+1,af,bI,es++[x],lk,Dw,Dx,CZ,Y7,xY,u9⟩
 case measure=>simp[intOf];omega):P:=h
theorem Xw(h:P:=by simp only[dx,qI]at this⊢;have:min j l.length<=16:=af;have h9:30000*min j l.length<=30000*16:=Nat.mul_le_mul_left _ this;omega):P:=h
theorem I2(h:P:=by go_enter func360,ntmps360;go_wp2;go_ret;exact⟨rfl,K.rf w⟩):P:=h
theorem Cc(h:P:=by go_wp2;go_ret;exact⟨iK,pE⟩):P:=h
theorem LL(h:P:=by go_wp2;go_ret;exact⟨fW,rfl⟩):P:=h
theorem ahi(h:P:=by rintro v2 w4⟨ho,k4⟩;exact⟨_,rfl,by obtain⟨oK,oL,e,hF⟩:=B6 ho;exact⟨oK,oL,e,hF.less λk hk=>bz hk kW.size⟩,k4⟩):P:=h
theorem Qd(h:P:=by simp only[cF,aO,aR,bW,bY,aJ]at hp;exact hp.1):P:=h
theorem aiF(h:P:=by go_wp2;have e9:=aY.cell;rw[Ha]at e9 Bm uZ Kr;simp only[ef,Nat.reduceAdd,mQ]at e9 Bm uZ Kr;refine bodyPost_ret (v:=.agg (aE x (.slice A9 x.f.length c9) (.slice D9 x.es.length d9))) (by simp[results,results196,go_sem,e9]) rfl ?_;exact⟨_,rfl,Bm,uZ,Kr⟩):P:=h
theorem VQ(h:P:=by rintro ⟨g,cap,cur,g1,g2,g3,g4⟩;exact⟨g,cap,cur,g1,g2,(u.block g g2 (Array.getElem?_eq_some_iff.1 g3).1 aj).trans g3,g4⟩):P:=h
theorem Ce(h:P:=by exact absurd (hb2.ie hb) ax):P:=h
theorem ae5(h:P:=by go_wp2;generalize W3.alloc _=W4 at *;have Jz:(if (decide (3<k)||true||!(iY (k:Int) N ⟨s.toArray⟩))=true then (((0,0,[]),l3,true):(Int×Int×List UInt8)×List UInt8×Bool)else (((k:Int),N,s),l3,false))=((0,0,[]),l3,true):=aj;exact ajp):P:=h
theorem Qf(h:P:=by simp at e;obtain⟨rfl,rfl⟩:=e;exact⟨_,_,rfl,h1,h2⟩):P:=h
theorem Lx(h:P:=by go_wp2;go_ret;exact⟨fW,F4⟩):P:=h
theorem Cd(h:P:=by go_ret;exact⟨D3,kF⟩):P:=h
theorem af1(h:P:=by have fU:=Pb lr;have HN:=ae (acm (HQ.aa.1 lr));rw[fU.1];clear lr fU;have q:=DE.rv.cell;have z:=DE.rv.frozen;go_upto_region 9 with (fail);generalize wd.alloc _=we at *;clear D;have D:=DE;clear DE;exact V2):P:=h
theorem afa(h:P:=by
 cases y with
 | tmp t => simp only[beq_iff_eq]at h4;simp only[za,aF,h4]
 | const v=>rfl
 | global g=>rfl
 | func f=>rfl):P:=h
theorem FT(h:P:=by go_wp2;go_ret;exact⟨D3,dP⟩):P:=h
theorem Wb(h:P:=by have yS:(16:Int)<(l.length:Int):=af;have HR:Hid (R=false):=ae (by rw[HI.aa];simp[im]);exact yE):P:=h
theorem ahp(h:P:=by
 have nh:Hid ((l.take (j+1)).filter q=(l.take j).filter q):=ae WO;rw[<- nh.aa]at cH;go_wp2;go_roundw
 case rel=>exact⟨j+1,af,bI,cH,ry⟩
 case measure=>simp[intOf];omega):P:=h
theorem afs(h:P:=by
 have nu:w1.heap.size<=w9.heap.size:=by have:=aY.size;simp at this;omega
 clear gg bC cY aY;go_wp2;go_roundw
 case rel=>exact⟨k+1,af,bI,aju,cX,aj7,nu⟩
 case measure=>simp[intOf];omega):P:=h
theorem Wf(h:P:=by
 clear q;go_wp2;go_roundw
 case rel=>exact⟨j+1,af,bI,nh,rm⟩
 case measure=>simp[intOf];omega):P:=h
theorem agz(h:P:=by
 have HB:Hid (yY m=Ew (k'+1) s0):=ae (by rw[Ew,<- HM.aa]);clear hB ha h1;go_wp2;go_round
 case rel=>exact⟨k'+1,af,bI,yY m,by rw[HX.aa],hl,HB⟩
 case measure=>simp[intOf];omega):P:=h
theorem ahg(h:P:=by refine (C1.aa W (k1.tr kW)).mono ?_;rintro e w4⟨v4,rfl,hO,k4⟩;exact⟨_,rfl,⟨_,rfl,aX.low (aX.floor hO ajn) ajn⟩,k4⟩):P:=h
theorem agj(h:P:=by rw[Bool.eq_false_iff];intro hh;obtain⟨y,hy,e⟩:=FM.1 hh;simp only[List.map_append,jR]at h;exact (List.nodup_append.1 h).2.2 (ar y) (List.mem_map_of_mem hy) (ar x) aj e):P:=h
theorem afA(h:P:=by
 intro l;induction l with
 | nil=>simp
 | cons y l ih =>
  intro hl
  have h1:=ih λt ht=>hl t aA
  obtain⟨g1,g2⟩:=hl y aj
  grind [ku,avi,dx,fg]):P:=h
theorem ag4(h:P:=by clear qs;intro V W kW hA;simp only[aO,aR,cC,aJ,Nat.reduceAdd]at hA;refine aH.h ?_;have kF:=k2.tr kW;clear hA q2 sX;go_wp2;go_ret;exact⟨nW,kF⟩):P:=h
theorem ayb(h:P:=by have HE:=ae (HA.aa Xp);go_wp2;go_ret;exact⟨_,rfl,kW,by rw[HE.aa];simp⟩):P:=h
theorem aga(h:P:=by rw[Yb,List.flatten_cons,List.flatten_cons,ih,List.take_append,gQ (l:=c) PM,hc,show (k+1)*n-n=k*n by rw[Nat.succ_mul];omega]):P:=h
theorem Qw(h:P:=by
 go_wp2;try rw[iq]
 exact Qx):P:=h
theorem V3(h:P:=by
 go_wp2;go_roundw
 case rel=>exact⟨j+1,af,bI,nh,JI⟩
 case measure=>simp[intOf];omega):P:=h
theorem Qg(h:P:=by go_wp2;go_ret;exact⟨nW,k1⟩):P:=h
theorem Wn(h:P:=by
 go_wp2;go_roundw
 case rel=>exact⟨j+1,af,bI,bq,k9⟩
 case measure=>simp[intOf];omega):P:=h
theorem Lu(h:P:=by go_wp2;go_ret;exact⟨iK,kr⟩):P:=h
theorem Qx(h:P:=by go_ret;exact⟨iK,hb2⟩):P:=h
theorem XR(h:P:=by go_wp2;go_ret2;exact⟨_,fW,by rw[HR.aa];exact HE.aa,F4⟩):P:=h
theorem agR(h:P:=by
 have e9:=aY.cell;try rw[iq]
 refine bodyPost_ret (v:=.tuple #[.agg mi,.int .i64 co]) (by simp[results,results62,go_sem,e9,bU]) rfl ?_;exact⟨_,_,_,rfl,azi _ _,k9⟩):P:=h
theorem ag0(h:P:=by simp only[cF,aO,aR,bW,bY,aJ]at hp;obtain⟨⟨J1,J2,e3,hF⟩,-⟩:=hp;show uQ _ _ _ (V 6) _;rw[e3];exact⟨rfl,hF⟩):P:=h
theorem ail(h:P:=by
 rcases List.mem_append.1 h with h|h
 ·exact .inl h
 ·simp at h;exact .inr ⟨x,aj,h⟩):P:=h
theorem agA(h:P:=by have HR:Hid (R=30/\F=[]):=ae ⟨HC.aa,HF.aa⟩;clear HK CS HC HF;go_wp2;go_ret2;exact⟨_,by rw[HR.aa.1];rfl,by rw[HR.aa.2];exact kU _ _ _ _,kk⟩):P:=h
theorem ah1(h:P:=by simp only[cF,aO,aR,bW,bY,aJ]at hp;simp[bR,aF,List.lookup,cW,execOp,aG,cT,go_sem];exact hp.1):P:=h
theorem ahc(h:P:=by have hz:cells.size=i.size:=aA;simp[execOp,aG,hs,hx,Instr.storeAt,Instr.sureAddr,storeVar,sizeOf,typeInfo,hq,Value.cells,hz];rw[<- hz,hst];simp[Result.andThen]):P:=h
theorem afJ(h:P:=by clear hR;generalize l.length=n at *;go_enter func226,ntmps226;go_wp2;go_step3;go_wp2;rw[iq];go_ret;exact⟨iK,cT _ _⟩):P:=h
theorem XH(h:P:=by go_wp2;go_ret3;exact⟨_,D3,WY,k1⟩):P:=h
theorem afG(h:P:=by
 unfold Instr.findAsking gu;rw[h1];by_cases hk:p.1=k
 ·simp_all
 ·have hk':¬k=p.1:=λe=>hk e.symm
  simp[Sem.run_bind,he,Result.andThen,hk,hk',ih r (i+1) h3]):P:=h
theorem XB(h:P:=by have h0:=Gw.st kA;exact⟨h0.1.below pV ez,h0.2.1.below pV af,h0.2.2⟩):P:=h
theorem afL(h:P:=by
 have hch:(mH vk vn vs != 0)=true:=by simp[mH,hv]
 go_wp2;rw[iq];go_ret;exact⟨by rw[rN.aa (by rw[hT.aa];simp[ll,hv])];rfl,AJ.aa _ oC⟩):P:=h
theorem Qs(h:P:=by rw[yF af];exact h.pre j hj WM):P:=h
theorem agf(h:P:=by
 clear hA qs hS hO hv hb hN JK hro;go_wp2;go_roundw
 case rel=>exact⟨j+1,af,bI,ae ⟨_,_,_,HS9.aa⟩,k9⟩
 case measure=>simp[intOf];omega):P:=h
theorem Ls(h:P:=by go_wp2;go_ret2;exact⟨nW,k1⟩):P:=h
theorem agW(h:P:=by simp only[cF,aO,aR,bW,bY,aJ]at hp;exact⟨rfl,ai7⟩):P:=h
theorem agX(h:P:=by simp only[cF,aO,aR,bW,bY,aJ]at hp;exact⟨rfl,ai8⟩):P:=h
theorem aiy(h:P:=by have g1:=cS (bf a.1) (gP _);have g2:=cS a.2.1 h.2.1;have g3:=cS a.2.2 h.2.2;unfold fC;simp only[dx];omega):P:=h
theorem aeV(h:P:=by refine⟨h.1,h.2.imp id ?_⟩;rintro ⟨g,cap,cur,h1,h2,h3,h4⟩;exact⟨g,cap,cur,h1,h2,(hb.block g (Array.getElem?_eq_some_iff.1 h3).1).trans h3,h4⟩):P:=h
theorem afP(h:P:=by
 have e3:((es.length:Int)==0)=false:=by rw[LY,GK]
 have HB:Hid (E=110):=ae (by rw[HE.aa,GK];rfl);go_wp2;go_ret;exact⟨FV,bD⟩):P:=h
theorem aff(h:P:=by
 have h':=h;rcases h.2 with ⟨rfl,h0⟩|⟨g,cap,cur,rfl,_,_,hn,hc,_⟩
 ·grind [List.eq_nil_of_length_eq_zero,Reads.yH]
 ·grind [Reads.yH]):P:=h
theorem afm(h:P:=by
 have HE:=ae (rN.aa (by
  rw[HT.aa,if_neg ba,if_neg ba];simp;omega))
 go_wp2;go_ret;exact⟨iK,hb0⟩):P:=h
theorem afv(h:P:=by obtain⟨HE,HL⟩:=RX.aa false IU;go_wp2;go_ret2;exact⟨_,iK,PW,Yn⟩):P:=h
theorem air(h:P:=by
 have fM:¬(k:Int)<l.length:=af;have HE:=ae (by
  have:=hall.aa;rw[gQ af]at this;exact this)
 exact Lu):P:=h
theorem afK(h:P:=by go_wp2;rw[iq];go_ret;exact⟨by rw[rN.aa (by rw[hT.aa];simp[ll,hn])];rfl,AJ.aa _ ((cT _ _).alloc (aD _) _)⟩):P:=h
theorem af8(h:P:=by
 refine ae λh x hx=>?_
 rw[gJ hlt]at hx;rcases List.mem_append.1 hx with hx|hx
 ·exact hall.aa x hx
 ·grind):P:=h
theorem ae7(h:P:=by have hn:Hid (tv s=false):=ae (by simp[tv];omega);go_enter func282,ntmps282;go_wp2;go_ret;exact⟨by rw[hn.aa];rfl,rfl⟩):P:=h
theorem afu(h:P:=by obtain⟨HE,HL⟩:=RX.aa false VZ;go_wp2;go_ret2;exact⟨_,iK,PW,hb⟩):P:=h
theorem afo(h:P:=by
 intro x hx;rw[gJ h]at hx;rcases List.mem_append.1 hx with hx|hx
 ·exact ha x hx
 ·simp at hx;rw[hx];exact hb):P:=h
theorem afO(h:P:=by have HE:Hid (E=110):=ae (by rw[<- oY];exact DH (by simp[bJ];omega));exact afN):P:=h
theorem afM(h:P:=by
 go_wp2;go_roundw
 case rel=>exact⟨k+1,af,bI,bI,hr,AJ.aa _ (below_drewN oC _)⟩
 case measure=>simp[intOf];omega):P:=h
theorem VT(h:P:=by unfold aH;rw[hg,if_pos (show bR V none=true from rfl),hx];exact h):P:=h
theorem Qc(h:P:=by rw[if_neg af];exact⟨rfl,cT _ _⟩):P:=h
theorem ahG(h:P:=by simp[bR,aF,List.lookup,hp,cW,execOp,aG,qx,qo,go_sem];apply bS (OX x _ W (HE.aa _ (k1.tr kW)) hs);exact ahi):P:=h
theorem ahR(h:P:=by
 go_wp2;go_roundw
 case rel=>exact⟨j+1,af,bI,QX,oF⟩
 case measure=>simp[intOf];omega):P:=h
theorem ahO(h:P:=by
 go_wp2;go_roundw
 case rel=>exact⟨j+1,af,bI,QX,gG⟩
 case measure=>simp[intOf];omega):P:=h
theorem ahP(h:P:=by
 go_wp2;go_roundw
 case rel=>exact⟨j+1,af,bI,QX,lM⟩
 case measure=>simp[intOf];omega):P:=h
theorem ahQ(h:P:=by
 go_wp2;go_roundw
 case rel=>exact⟨j+1,af,bI,QX,ni⟩
 case measure=>simp[intOf];omega):P:=h
theorem aiq(h:P:=by
 cases hx:q x
 ·exact ajs
 ·have HE:=ae (Kj.aa Xp);exact Wy):P:=h
theorem VX(h:P:=by have:=hcell 0 ax;rw[kr.cell af];simpa [cO]using this):P:=h
theorem agl(h:P:=by have z3:=Q3 e3;have HQ:Hid (iU m=130):=ae (by unfold iU;rw[show ed m=false from by simp[ed,rW,e3]];rfl);exact Qg):P:=h
theorem agm(h:P:=by have z4:=Q3 e4;have HQ:Hid (iU m=130):=ae (by unfold iU;rw[show ed m=false from by simp[ed,rW,e4]];rfl);exact Qg):P:=h
theorem aiI(h:P:=by simp[bR,aF,List.lookup,hp,cW,execOp,aG,aJ,q2,Ij,vL,go_sem];refine (C3.aa W kW).mono ?_;rintro e w4⟨rfl,k4⟩;grind):P:=h
theorem afF(h:P:=by simp[Builtin.delete_,hts,run_underlying hT,MapKept.run_getObj_map h1,KG.mH,hf,MapKept.run_setObj_map _ h1,Result.andThen,setBlock]):P:=h
theorem ahL(h:P:=by
 go_wp2;go_roundw
 case rel=>exact⟨j+1,af,bI,by rw[<- ic.aa,HP.aa];exact cK,lM⟩
 case measure=>simp[intOf];omega):P:=h
theorem afU(h:P:=by
 go_wp2_with fail
 apply aM hch.aa;intro w1 aN;go_wp2;go_ret2;exact⟨_,rfl,VW,aN⟩):P:=h
theorem Wx(h:P:=by clear hO;go_wp2;go_ret;exact⟨_,rfl,HO.aa,kr⟩):P:=h
theorem ahV(h:P:=by simp[bR,aF,List.lookup,hp,cW,execOp,aG,aJ,q2,sX,go_sem];refine (C4.aa W kW).mono ?_;rintro e w4⟨rfl,k4⟩;grind):P:=h
theorem QI(h:P:=by go_enter func369,ntmps369;exact DT):P:=h
theorem QJ(h:P:=by go_enter func370,ntmps370;exact DT):P:=h
theorem QK(h:P:=by go_enter func371,ntmps371;exact DT):P:=h
theorem QM(h:P:=by go_enter func372,ntmps372;exact DT):P:=h
theorem afw(h:P:=by obtain⟨HE,HL⟩:=RX.aa true IU;go_wp2;go_ret2;exact⟨_,iK,by rw[HL.aa];exact Q9,Yn⟩):P:=h
theorem QT(h:P:=by
 go_wp2_with fail
 apply aM C1.aa;exact ajq):P:=h
theorem agJ(h:P:=by
 unfold Az ij;split
 ·rename_i h;simp only[dC,decide_eq_true_eq]at h;rw[BU,xV];omega
 ·simp):P:=h
theorem W7(h:P:=by intro v9 w9 bq bC cY aY;have vF:=qj.trans aY;exact ahN):P:=h
theorem QW(h:P:=by exact⟨by rw[HR.aa],by rw[HR.aa];exact hF⟩):P:=h
theorem aha(h:P:=by
 go_wp2;go_roundw
 case rel=>exact⟨j+1,af,bI,by rw[HQ.aa];exact HO.aa,k5⟩
 case measure=>simp[intOf];omega):P:=h
theorem ahm(h:P:=by refine (C5.aa W kW).mono ?_;rintro e w4⟨v4,rfl,hO,k4⟩;exact aij):P:=h
theorem afk(h:P:=by rw[ih af];simp only;rw[hd,uy,eu,C.fwd _ hx,gJ hk']):P:=h
theorem ae1(h:P:=by
 go_wp2;all_goals
  go_ret
  refine⟨rfl,AJ _ _ _ af (λhpos=>?_) af af⟩
  first|rfl|omega):P:=h
theorem Wy(h:P:=by go_wp2;go_ret;exact⟨iK,kW⟩):P:=h
theorem ahJ(h:P:=by
 rcases cY with h|h
 ·exact .inl (h▸hk)
 ·rw[h]at hk;injection hk with hk;have:=kW.size;exact .inr af):P:=h
theorem QA(h:P:=by go_wp2;go_ret;exact⟨D3,kG⟩):P:=h
theorem XE(h:P:=by clear HO HJ fy HQ;go_wp2;go_ret;exact⟨_,rfl,HL.aa,Df,uj⟩):P:=h
theorem XF(h:P:=by
 go_wp2;go_meet
 case rel=>exact⟨_,_,_,_,_,_,_,_,_,_,D,HD⟩):P:=h
theorem agK(h:P:=by
 rw[HF.aa];split
 ·rename_i ho;have:=acq rs;rw[ac0 ho]at this;simp only;omega
 ·simp):P:=h
theorem ais(h:P:=by have HO:=ae hO;obtain⟨A2,c2,rfl⟩:=av hO.aq;clear hO;go_wp2;go_ret;exact⟨_,rfl,HO.aa,k2⟩):P:=h
theorem QV(h:P:=by exact absurd (h.blk.ie hb) ax):P:=h
theorem afl(h:P:=by rw[List.flatMap_append,uy,List.flatMap_nil,List.append_nil,eu,<- e1];exact e2):P:=h
theorem agT(h:P:=by
 rcases hx with hx|hx|hx
 ·omega
 ·have:=(xa.aa.blk k hx).1;have:=ZI.aa;right;omega
 ·exact .inl hx):P:=h
theorem aiB(h:P:=by
 split
 ·exact⟨⟨List.prefix_refl _,List.prefix_refl _,rfl⟩,⟨h.ab,h.prom⟩⟩
 ·grind [gh.rf]):P:=h
theorem agv(h:P:=by
 have:=i6 hown' (ag.bM (X:=λk=>k=B0) rfl 0 v') λb hb e=>Mk (by rw[hb,e])
 simpa using this):P:=h
theorem ah2(h:P:=by
 exact hr.less λk hk=>by
  rcases hk with hk|hk
  ·exact hk
  ·have:=RD k hk;exact .inr af):P:=h
theorem Qi(h:P:=by exact absurd (h1.ie hx2) ax):P:=h
theorem ah3(h:P:=by
 rcases Gg with e|e
 ·exact .inl (.inr (e▸h))
 ·rw[e]at h;injection h with h;simp at hk;omega):P:=h
theorem agu(h:P:=by obtain⟨cur,hb⟩:=mq Je ej;unfold ai at hb;rw[hb]at hj;injection hj with hj;rw[<- hj];rfl):P:=h
theorem Wu(h:P:=by exact⟨_,_,rfl,rfl,rfl,λV W _ _=>atW _ _ _⟩):P:=h
theorem afH(h:P:=by
 cases ak with
 | nil=>simp[Instr.findKey,run_underlying hu,Instr.findNow,gu]
 | cons p r=>simp at h):P:=h
theorem afV(h:P:=by
 go_wp2;go_roundw
 case rel=>exact⟨k+1,af,bI,eo,MJ⟩
 case measure=>simp[intOf];omega):P:=h
theorem Wd(h:P:=by clear q;go_wp2;go_ret;exact⟨fW,rm⟩):P:=h
theorem Qh(h:P:=by go_ret;exact⟨by rw[iQ.aa];rfl,k1⟩):P:=h
theorem ai3(h:P:=by simp[bR,execOp,aG,cW];exact⟨⟨_,rfl,kW.size,0,0,heap_alloc_new W _⟩,(K.rf W).al _⟩):P:=h
theorem aeU(h:P:=by refine⟨h.1,h.2.imp id ?_⟩;rintro ⟨g,cap,cur,h1,h2,h3⟩;exact⟨g,cap,cur,h1,af,h3⟩):P:=h
theorem ai1(h:P:=by
 go_wp2_with fail
 apply aM C1.aa;rintro w' rfl;go_wp2_with fail
 apply aM C2.aa;exact ajq):P:=h
theorem XX(h:P:=by clear HR;go_wp2;go_ret;exact⟨iK,k⟩):P:=h
theorem PU(h:P:=by go_ret;exact⟨iK,hb⟩):P:=h
theorem ahz(h:P:=by have:=hall.aa l[j] (List.mem_take_iff_getElem.2 ⟨j,af,rfl⟩);rw[h1]at this;cases this):P:=h
theorem aiC(h:P:=by have:=h.told;have:=h.calls;exact⟨h1,h.fit.same h2.1 ⟨h2.2.1,h2.2.2.1⟩,aA,af⟩):P:=h
theorem ai9(h:P:=by
 go_enter func25,ntmps25;go_wp2_with fail
 apply aM C1.aa;rintro w' rfl;exact LL):P:=h
theorem afd(h:P:=by rintro v w w'⟨A,c,rfl,hr⟩ hb;exact⟨A,c,rfl,(hr.below hb (aD _)).more hb.size⟩):P:=h
theorem afp(h:P:=by go_wp2;go_ret2;exact⟨_,iK,PW,dP⟩):P:=h
theorem VU(h:P:=by go_wp2;go_ret;exact⟨FV,bD.tr k3⟩):P:=h
theorem WW(h:P:=by have fM:¬(k:Int)<l.length:=af;exact ahM):P:=h
theorem Xy(h:P:=by clear hs HB;go_wp2;go_ret;exact⟨_,rfl,HS.aa,kr⟩):P:=h
theorem ajl(h:P:=by
 go_wp2;go_roundw
 case rel=>exact⟨j+1,af,bI,HE⟩
 case measure=>simp[intOf];omega):P:=h
theorem ajm(h:P:=by
 go_wp2;go_roundw
 case rel=>exact⟨t+1,af,bI,HS⟩
 case measure=>simp[intOf];omega):P:=h
theorem Wo(h:P:=by obtain⟨kM,ES,e,h1,h2⟩:=hrl W k;exact Qf):P:=h
theorem aiD(h:P:=by
 cases l with
 | nil=>exact .inl rfl
 | cons x l=>exact .inr ⟨.string x.1,aj,aj⟩):P:=h
theorem Ql(h:P:=by go_wp2;go_ret;exact⟨_,rfl,hO,kr⟩):P:=h
theorem aeW(h:P:=by exact⟨v',w',hrun,h2,h3,h5,(cT _ _).grown h3 hbase λk hk=>(hown.lt k hk).1⟩):P:=h
theorem VE(h:P:=by simp[Act.put,Array.getElem?_setIfInBounds_ne hne]):P:=h
theorem agk(h:P:=by go_enter func239,ntmps239;go_wp2;go_ret;exact⟨by rw[HR.aa];simp[h0,h1],k1⟩):P:=h
theorem Wt(h:P:=by exact⟨⟨kW.size,eC.new W⟩,(K.rf W).al _⟩):P:=h
theorem WR(h:P:=by go_enter func350,ntmps350;exact DX):P:=h
theorem WS(h:P:=by go_enter func351,ntmps351;exact DX):P:=h
theorem WT(h:P:=by go_enter func352,ntmps352;exact DX):P:=h
theorem ah7(h:P:=by
 rcases NT k hk with h|h
 ·exact Hw.aa k h
 ·have:=S9.aa.size;exact .inr af):P:=h
theorem Xo(h:P:=by go_enter func373,ntmps373;exact DT):P:=h
theorem aiv(h:P:=by
 rcases List.mem_append.1 hg with hg|hg
 ·exact Ti g hg
 ·simp at hg;subst hg;exact zh):P:=h
theorem aiz(h:P:=by have HS:=ae hs;clear hs ho qx;go_wp2;go_ret;exact⟨_,rfl,HS.aa,k1.tr (k2.tr k3)⟩):P:=h
theorem ajh(h:P:=by gi_wp2;exact⟨⟨HF.aa.1 _ (.inl hz2.symm),HF.aa.1 _ (.inr af)⟩,HF.aa.2⟩):P:=h
theorem QP(h:P:=by exact ho s (List.mem_filter.1 hs).1):P:=h
theorem QU(h:P:=by go_wp2;go_ret;exact⟨rfl,HF.aa⟩):P:=h
theorem agt(h:P:=by
 rcases hown'.2 with ⟨-,h0⟩|⟨g',cap',cur',e,-⟩
 ·omega
 ·exact⟨g',cap',e⟩):P:=h
theorem aio(h:P:=by go_enter func359,ntmps359;go_wp2;go_ret;exact⟨fW,K.rf w⟩):P:=h
theorem agS(h:P:=by intro b hb;obtain⟨r,hr,rfl⟩:=List.mem_map.1 hb;exact Vp (hG.eZ r hr).2.2):P:=h
theorem afD(h:P:=by obtain⟨vf,ve,rfl,h1,h2⟩:=h;exact⟨vf,ve,rfl,eO _ _ _ _ h1 k,bo h2 k⟩):P:=h
theorem aip(h:P:=by intro w2 k2 kF;clear C1 C2;go_wp2;go_ret;exact⟨by rw[HR.aa];first|done|rfl,kF⟩):P:=h
theorem ahj(h:P:=by rw[ux af]at hL;rw[yF af,ux af];exact h.al hL):P:=h
theorem ah8(h:P:=by
 rcases NT k h with h|h
 ·exact vH.aa k hk h
 ·have:=(ZH.aa k hk).2;omega):P:=h
theorem af5(h:P:=by
 split
 ·unfold fX;split
  ·exact hl
  ·exact hl.erase _
 ·exact hl):P:=h
theorem ahb(h:P:=by rw[gQ af]at hO;have HO:=ae hO;exact Wx):P:=h
theorem aik(h:P:=by
 split at h
 ·exact .inl h
 ·split at h
  ·exact .inl h
  ·exact ail):P:=h
theorem aeX(h:P:=by have HE:=ae e;clear e;go_enter func336,ntmps336;exact ajr):P:=h
theorem agw(h:P:=by obtain⟨cur,hb⟩:=mq hrow h2;unfold ai at hb;rw[e,hK]at hb;cases hb):P:=h
theorem agi(h:P:=by
 rcases hk with ⟨g,_⟩|⟨_,g,_⟩|⟨g,_⟩
 ·omega
 ·exact g
 ·omega):P:=h
theorem Wm(h:P:=by exact absurd (h1.ie h.blk) ax):P:=h
theorem af2(h:P:=by obtain⟨_,_,he,h1,_⟩:=Yx.aa _ (UX.tr u);simp at he;rw[he.1];exact h1):P:=h
theorem af3(h:P:=by obtain⟨_,_,he,_,h1⟩:=Yx.aa _ (UX.tr u);simp at he;rw[he.2];exact h1):P:=h
theorem ag1(h:P:=by have HW:=ae (aX.low (aX.floor hO nt) nt);clear hO;exact IZ):P:=h
theorem agd(h:P:=by go_wp2;go_ret;exact⟨nW,by rw[HQ.aa];exact HS.aa,pg⟩):P:=h
theorem ahB(h:P:=by exact ((dP.setCell aj _).setCell aj _).setCell aj _):P:=h
theorem Xh(h:P:=by exact⟨rfl,by rw[HF.aa];exact HN.aa⟩):P:=h
theorem ago(h:P:=by have HR:=ae (no.aa λh=>by have:=sA h;omega);exact yE):P:=h
theorem ahl(h:P:=by go_wp2;go_ret;exact⟨by rw[Z2.aa];rfl,by rw[Z2.aa];exact HF.aa⟩):P:=h
theorem aiN(h:P:=by go_wp2;go_ret;exact⟨by rw[Bh.aa];rfl,by rw[Bh.aa];exact HN.aa⟩):P:=h
theorem XV(h:P:=by clear hg;go_wp2;go_ret;exact⟨rfl,kA⟩):P:=h
theorem aic(h:P:=by have vF:=iz.trans aY;clear hr lC bq bC cY aY q9;exact Xb):P:=h
theorem aiY(h:P:=by have HR:=ae (show R=true by rw[HI.aa];simp[h0,h1]);exact LL):P:=h
theorem agb(h:P:=by have:=congrArg (List.drop 1) h.post;simpa [List.drop_drop]using this):P:=h
theorem agq(h:P:=by
 go_wp2;try rw[iq]
 go_ret;exact⟨fW,k1⟩):P:=h
theorem aiK(h:P:=by go_wp2;go_ret;exact⟨fW,by rw[HR.aa];exact HN.aa⟩):P:=h
theorem ajf(h:P:=by exact⟨v,_,rfl,.inl ⟨rfl,by grind [jO],h.azw hv h2 u⟩⟩):P:=h
theorem afW(h:P:=by have h4:=List.all_eq_true.1 h1.2 y (by simpa using hy);exact afa):P:=h
theorem aiZ(h:P:=by have HR:=ae (show R=false by rw[HI.aa];simp[h1]);exact LL):P:=h
theorem ai0(h:P:=by have HR:=ae (show R=false by rw[HI.aa];simp[h0]);exact LL):P:=h
theorem ai2(h:P:=by simp[bR,aF,List.lookup,e,cW,execOp,aG,cT,go_sem]):P:=h
theorem afQ(h:P:=by have HR:Hid (R=false):=ae (by rw[HO.aa,he];rfl);exact PZ):P:=h
theorem ahS(h:P:=by have vF:=iz.trans aY;clear hr lC bq bC cY aY;exact Xb):P:=h
theorem ah4(h:P:=by exact bz (Jt.aa.low k (.inl (.inl h))) uK.size):P:=h
theorem afC(h:P:=by simp at hu;rcases hu with rfl|rfl|rfl|rfl|rfl|rfl|rfl|rfl <;> rfl):P:=h
theorem aix(h:P:=by
 clear hr;go_wp2_with fail
 go_meet
 case rel=>exact⟨e.aa,rfl⟩):P:=h
theorem afy(h:P:=by obtain⟨css,h1,h2,h3⟩:=h;exact⟨css,mN hb h1,h2,h3⟩):P:=h
theorem afR(h:P:=by have HR:Hid (R=m):=ae (by rw[HO.aa,he];rfl);exact PZ):P:=h
theorem agH(h:P:=by go_ret;exact⟨_,fW,by rw[HR.aa];exact hV,hU⟩):P:=h
theorem ajk(h:P:=by go_enter func9,ntmps9;go_wp2;go_ret;exact⟨rfl,kk⟩):P:=h
theorem afr(h:P:=by rw[HF.aa];unfold fT;simpa [List.flatMap_append]using gg):P:=h
theorem ahF(h:P:=by simp only[binOp,Sem.run_bind,h,Result.andThen_ok,Sem.run_pure]):P:=h
theorem aht(h:P:=by go_wp2;go_ret;exact⟨_,rfl,by rw[lQ.aa];exact HO.aa,kF⟩):P:=h
theorem ahH(h:P:=by
 simp only[aF,List.lookup];exact h3.less λk hk=>by
  grind):P:=h
theorem aeY(h:P:=by clear e hm;go_enter func331,ntmps331;exact ajr):P:=h
theorem aij(h:P:=by exact⟨_,rfl,aX.low (aX.floor hO kW.size) kW.size,k4⟩):P:=h
theorem ae6(h:P:=by rw[gJ h,List.all_append];simp):P:=h
theorem agh(h:P:=by rw[gJ h,List.map_append];rfl):P:=h
theorem aiU(h:P:=by clear h8;go_wp2;go_ret;exact⟨by rw[h9.aa];rfl,H3.aa⟩):P:=h
theorem aeZ(h:P:=by have:=(List.getElem?_eq_some_iff.1 hu).1;simpa using this):P:=h
theorem afN(h:P:=by clear oY;go_wp2;go_ret;exact⟨iK,bD⟩):P:=h
theorem ah9(h:P:=by
 rcases hk with h|h
 ·exact .inl (.inl h)
 ·exact .inr h):P:=h
theorem aiA(h:P:=by rintro e w4⟨v4,rfl,hO,k4⟩;exact⟨_,rfl,hO.now,k4⟩):P:=h
end Go.Proofs.YtfndfpdhlbmboaaGreat
