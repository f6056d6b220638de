/-
  Scripts of tactics. Conditions: none.
-/
import Derived.WalkLawsBesides
import Derived.WalkSpells
import Derived.Deep.AppendLies
import Derived.Laws.CopyOwn
import Derived.Lib.Hide
import Derived.Lib.SmallJoins
import Derived.Deep.RegionHeld3
import Derived.Deep.DrawnRows
import Derived.Sort.MapsRangeIn
import Derived.Deep.CutBlock
import Derived.TacticsInMore
import Derived.LoopNIn
import Derived.LoopIn
import Derived.RangeFuncNested
import Derived.Lib.SlicesDelete
import Derived.Shelf.SlSortCmp.NoneTotal
import Derived.Conc.LoneSelect
namespace Go.Proofs.YtcjlnlcpodcldaaGreat
open Go Go.RowKit
open List renaming length→Q
open _root_.Array renaming size→Z
open Go.World renaming heap→D,alloc→aU,setCell→aV
open Go.Value renaming ownBlock→aW
open Go.Value renaming int→G,slice→F,pointer→aj,bool→ar,tuple→au,agg→av,string→aw
open Go.IntKind renaming i64→J,u64→E
open Option renaming none→U,some→I
open Go.Ending renaming returned→ak
open Go.Obj renaming cells→aq
open Go.World renaming setCell→ax,alloc→ay
open Bool renaming false→az,true→aA
open And renaming intro→aB
open List renaming lookup→aC,getElem?_eq_getElem→aE,getElem?_eq_some_iff→aF
open _root_.Array renaming getElem?_toList→aD,getElem?_eq_some_iff→aG
open Nat renaming le_succ→aH
open Or renaming inl→aI,inr→aJ
open Go renaming Calls→aK,execOp→aL,bodyPost_ret→aM,World→aP,Value→aQ
open Go.RowKit renaming Below→aN,intOf→aO
set_option linter.unusedVariables false
variable {P:Prop}
theorem bL:type_of% @Nat.le_refl:=@Nat.le_refl
theorem cQ:type_of% @Nat.lt_of_lt_of_le:=@Nat.lt_of_lt_of_le
theorem cI:type_of% @Nat.le_trans:=@Nat.le_trans
theorem ed:type_of% @Below.refl:=@Below.refl
theorem dG:type_of% @List.getElem_mem:=@List.getElem_mem
theorem ix:type_of% @List.take_succ_eq_append_getElem:=@List.take_succ_eq_append_getElem
theorem iw:type_of% @List.take_of_length_le:=@List.take_of_length_le
theorem dE:type_of% @List.forall_mem_cons:=@List.forall_mem_cons
theorem bZ:type_of% @List.cons_append:=@List.cons_append
theorem bU:type_of% @List.nil_append:=@List.nil_append
theorem ue:type_of% @List.setIfInBounds_toArray:=@List.setIfInBounds_toArray
theorem tB:type_of% @List.set_cons_zero:=@List.set_cons_zero
theorem tC:type_of% @List.set_cons_succ:=@List.set_cons_succ
theorem Tz:type_of% @List.take_succ_cons:=@List.take_succ_cons
theorem TG:type_of% @List.take_zero:=@List.take_zero
theorem fB:type_of% @Bool.and_eq_true:=@Bool.and_eq_true
theorem eU:type_of% @List.length_append:=@List.length_append
theorem fN:type_of% @List.append_assoc:=@List.append_assoc
theorem xW:type_of% @List.all_eq_true:=@List.all_eq_true
theorem De:type_of% @List.mem_append:=@List.mem_append
theorem fY:type_of% @List.length_cons:=@List.length_cons
theorem ni:type_of% @List.length_filter_le:=@List.length_filter_le
theorem lB:type_of% @List.mem_of_mem_take:=@List.mem_of_mem_take
theorem mr:type_of% @World.ownsRow_nil:=@World.ownsRow_nil
theorem jt:type_of% @Exit.noGoto_ret:=@Exit.noGoto_ret
theorem sK:type_of% @World.ownsRow.alloc:=@World.ownsRow.alloc
theorem lT:type_of% @List.map_cons:=@List.map_cons
theorem xV:type_of% @List.flatMap_cons:=@List.flatMap_cons
theorem qN:type_of% @List.length_take:=@List.length_take
theorem eO:type_of% @Nat.zero_le:=@Nat.zero_le
theorem ng:type_of% @Nat.zero_add:=@Nat.zero_add
theorem nN:type_of% @List.take_length:=@List.take_length
theorem bT:type_of% @if_pos:=@if_pos
theorem bO:type_of% @if_neg:=@if_neg
theorem aY(h:P):Hid P:=h
theorem _root_.Go.RowKit.Hid.aX(h:Hid P):P:=h
theorem dz(h:P:=by kernel_rfl):P:=h
theorem bq(h:P:=by simp):P:=h
theorem aZ(h:P:=by omega):P:=h
theorem bG(h:P:=by grind):P:=h
theorem ahT(h:P:=by simpa [ax]using h.size):P:=h
theorem cG(h:P:=by simp;omega):P:=h
theorem Hw(h:P:=by simpa using hR.len):P:=h
theorem Kf(h:P:=by simp_all):P:=h
theorem Eo(h:P:=by unfold maxLen;omega):P:=h
theorem yY(h:P:=by simp at h):P:=h
theorem vD(h:P:=by simpa using hk):P:=h
theorem RU(h:P:=by simp[setBlock]):P:=h
theorem Hy(h:P:=by rw[e]):P:=h
theorem XY(h:P:=by rw[hz2];omega):P:=h
theorem Ng(h:P:=by simpa using h0):P:=h
theorem Er(h:P:=by simpa using h):P:=h
theorem cU(h:P:=by go_num):P:=h
theorem bC(h:P:=by decide):P:=h
theorem cY(h:P:=by rfl):P:=h
theorem Nj(h:P:=by simpa using hx):P:=h
theorem Kg(h:P:=by simp[h]):P:=h
theorem Kh(h:P:=by simpa using h4):P:=h
theorem Yb(h:P:=by simp[results,results260,go_sem,e0,e1,e2]):P:=h
theorem Nl(h:P:=by simp at hi):P:=h
theorem RZ(h:P:=by rw[hc,Nat.succ_mul];omega):P:=h
theorem Nn(h:P:=by simpa using hi):P:=h
theorem Np(h:P:=by trivial):P:=h
theorem R3(h:P:=by simpa using hok):P:=h
theorem Ye(h:P:=by simpa [hlt]using uD):P:=h
theorem Es(h:P:=by simpa using hj):P:=h
theorem Yf(h:P:=by simpa using hj'):P:=h
theorem Yg(h:P:=by simp[Op.bytesLess]):P:=h
theorem aih(h:P:=by intro cs hcs;obtain⟨y,_,rfl⟩:=List.mem_map.1 hcs;rfl):P:=h
theorem Cx(h:P:=by simpa using h1):P:=h
theorem Yj(h:P:=by simp[ByteArray.size]):P:=h
theorem jD(h:P:=by rw[HE.aX];rfl):P:=h
theorem R7(h:P:=by rw[HC.aX,hv]):P:=h
theorem ain(h:P:=by rw[HE.aX,hv,hk];rfl):P:=h
theorem Nu(h:P:=by rw[HE.aX]):P:=h
theorem aiq(h:P:=by intro e;injection e with e;exact Uo e.symm):P:=h
theorem R8(h:P:=by rw[HL.aX];exact mr _ _ _ _):P:=h
theorem R9(h:P:=by simp[pA,hok]):P:=h
theorem Yl(h:P:=by have:=h.1;omega):P:=h
theorem Nw(h:P:=by simp[h.1]):P:=h
theorem Sa(h:P:=by simp only[qO];omega):P:=h
theorem Ki(h:P:=by simp[hx]):P:=h
theorem Yu(h:P:=by simp[ax]):P:=h
theorem aiC(h:P:=by simpa using congrArg Q h2):P:=h
theorem AQ(h:P:=by simpa using h2):P:=h
theorem ic(h:P:=by assumption):P:=h
theorem H5(h:P:=by rw[HB.aX];rfl):P:=h
theorem Yx(h:P:=by rw[HE.aX,hok];rfl):P:=h
theorem aiP(h:P:=by rw[HO.aX];simp[hn]):P:=h
theorem ib(h:P:=by rw[HR.aX];rfl):P:=h
theorem Nx(h:P:=by simpa using h5):P:=h
theorem Sc(h:P:=by simp[my,hok]):P:=h
theorem Ny(h:P:=by simpa using e):P:=h
theorem Nz(h:P:=by simpa using h3):P:=h
theorem Sd(h:P:=by cases hj):P:=h
theorem sH(h:P:=by cases h):P:=h
theorem aiU(h:P:=by obtain⟨-,v2,W2,e,h9⟩:=oo uC;cases e):P:=h
theorem aiV(h:P:=by obtain⟨-,h1,W2,e⟩:=Lm q hq e;cases e):P:=h
theorem Yy(h:P:=by rw[HR.aX];exact mr _ _ _ _):P:=h
theorem YA(h:P:=by have:=aT.o;omega):P:=h
theorem vE(h:P:=by rw[World.size_alloc];exact fO):P:=h
theorem Sh(h:P:=by rw[HD.aX,h];rfl):P:=h
theorem YB(h:P:=by rw[hd];rfl):P:=h
theorem Kj(h:P:=by rw[hd,hok];rfl):P:=h
theorem aiW(h:P:=by simp[results,results135,go_sem,e9]):P:=h
theorem Si(h:P:=by rw[HN.aX.1]):P:=h
theorem aiX(h:P:=by rw[HN.aX.2];exact λW' u'=>⟨_,_,rfl,DK.aX.1 _ (U9.tr (u'.more (by omega) (λ_ _ _=>by simp))),DK.aX.2 _ (U9.tr (u'.more (by omega) (λ_ _ _=>by simp)))⟩):P:=h
theorem YC(h:P:=by simp[wR,hok]):P:=h
theorem YD(h:P:=by simp[Cz,hok]):P:=h
theorem ai1(h:P:=by simp[results,results91,go_sem,e9]):P:=h
theorem aAZ(h:P:=by refine⟨by simp[x9,cV],hi.1,hc,hi.2.1,hi.2.2,by simp[x9],by simp[x9],by simp[x9]⟩):P:=h
theorem NA(h:P:=by simp[ax];omega):P:=h
theorem H8(h:P:=by simpa using cE.nil _ _ _ _ _):P:=h
theorem Ia(h:P:=by simp[Value.ownBlock]at h):P:=h
theorem ai4(h:P:=by rw[h]at hb;injection hb with hb;have:=hW.size;omega):P:=h
theorem Kk(h:P:=by rw[<- e]):P:=h
theorem ai5(h:P:=by rw[HB.aX,HT.aX];rfl):P:=h
theorem FO(h:P:=by simp[e]):P:=h
theorem YH(h:P:=by have:=h.sz;omega):P:=h
theorem aja(h:P:=by have:=HW.aX.low;have:=hW.size;simp;omega):P:=h
theorem aJb(h:P:=by simp[fR,h]):P:=h
theorem pM(h:P:=by rw[HQ.aX];rfl):P:=h
theorem ajc(h:P:=by rw[hbase];exact kW.size):P:=h
theorem YI(h:P:=by rw[hbase];exact kr.size):P:=h
theorem AR(h:P:=by simp[eP]):P:=h
theorem Kn(h:P:=by simp[hy]):P:=h
theorem tg(h:P:=by simp[cV]):P:=h
theorem YL(h:P:=by rw[HS.aX,hq];simp):P:=h
theorem YN(h:P:=by rw[HS.aX,hq,HT.aX];rfl):P:=h
theorem YR(h:P:=by rw[HC.aX];simp[h0,h1]):P:=h
theorem aA5(h:P:=by unfold uL iJ;simp only[fB,decide_eq_true_eq];rintro ⟨⟨h1,h2⟩,h3⟩;exact⟨h3,h1,h2⟩):P:=h
theorem ajo(h:P:=by rw[HC.aX,Lt,rh];rfl):P:=h
theorem aA6(h:P:=by unfold uL iJ;simp only[fB,decide_eq_true_eq];rintro ⟨⟨h1,h2⟩,h3⟩;omega):P:=h
theorem AU(h:P:=by cases e):P:=h
theorem YU(h:P:=by rw[beq_eq_false_iff_ne];omega):P:=h
theorem ajz(h:P:=by rcases hk with hk|hk;omega;have:=dt k hk;omega):P:=h
theorem ajA(h:P:=by have:=h.len;show Q s.list<=_;omega):P:=h
theorem ajC(h:P:=by rw[HA.aX,bT hfit]):P:=h
theorem ajD(h:P:=by unfold Own;rw[MJ,eU];exact gI):P:=h
theorem xP(h:P:=by rw[hk,e]):P:=h
theorem ajF(h:P:=by rw[HA.aX,bO hfit]):P:=h
theorem ND(h:P:=by rw[gZ.aX];rfl):P:=h
theorem ajI(h:P:=by rw[HF.aX,bO (by rw[hok];decide)]):P:=h
theorem ajJ(h:P:=by rw[HA.aX,bO (by rw[hok];decide)]):P:=h
theorem ajK(h:P:=by rw[HF.aX,bT hok]):P:=h
theorem ajL(h:P:=by rw[HA.aX,bT hok]):P:=h
theorem ajM(h:P:=by rw[HD.aX,bO hfit]):P:=h
theorem SA(h:P:=by rw[gZ.aX,B8.aX];rfl):P:=h
theorem ajN(h:P:=by rw[HD.aX,bT hfit]):P:=h
theorem SB(h:P:=by rw[hbase.aX];exact bL _):P:=h
theorem YY(h:P:=by rw[hbase.aX];exact cI kr.size kA.size):P:=h
theorem aBe(h:P:=by simp only[eU,M7,RG,XK,qN];omega):P:=h
theorem YZ(h:P:=by rw[ix hlt,List.map_append];rfl):P:=h
theorem ajR(h:P:=by simp[results,results127,go_sem,e9]):P:=h
theorem ajS(h:P:=by rw[<- HR.aX,ht];rfl):P:=h
theorem ajT(h:P:=by have:=ud ht;omega):P:=h
theorem Y4(h:P:=by rw[e7];rfl):P:=h
theorem ajW(h:P:=by simp[bP,aC,cK,aL,bR,go_sem]):P:=h
theorem aj0(h:P:=by rw[ku.aX,bO (by rw[hok];decide),bO h8,hb];rfl):P:=h
theorem Ic(h:P:=by rw[HQ.aX];exact HW.aX):P:=h
theorem Kq(h:P:=by simp[x9]):P:=h
theorem aBf(h:P:=by intro u hu;exact eC.one (x:=ya) (w:=w) ⟨_,_,rfl,⟨U,0,rfl,Reads.nil _ _ _ _⟩,gN _ _⟩ u hu):P:=h
theorem CY(h:P:=by rw[HI.aX,ho]):P:=h
theorem NI(h:P:=by rw[HC.aX,ho]):P:=h
theorem Y8(h:P:=by rw[HC.aX,ho];simp only[h1]):P:=h
theorem Eu(h:P:=by have:=hG.dk.len;omega):P:=h
theorem aj5(h:P:=by rw[HR.aX,bT h1]):P:=h
theorem aj6(h:P:=by rw[HR.aX,bO h1,bT h2]):P:=h
theorem aj7(h:P:=by rw[HR.aX,bO h1,bO h2]):P:=h
theorem Za(h:P:=by simpa using hl):P:=h
theorem Ev(h:P:=by simpa using hc):P:=h
theorem Zb(h:P:=by have:=Jj.aX;omega):P:=h
theorem Zc(h:P:=by simp[results,results96,go_sem,e9]):P:=h
theorem Ie(h:P:=by rw[HR.aX]):P:=h
theorem akc(h:P:=by simp[results,results94,go_sem,e9]):P:=h
theorem Ew(h:P:=by exact hrg):P:=h
theorem akd(h:P:=by rw[Ad.aX,abd];rfl):P:=h
theorem Ex(h:P:=by rw[e];rfl):P:=h
theorem akf(h:P:=by simp[bP,aC,cK,e0,e8,aL,bR,go_sem];exact⟨rfl,rfl⟩):P:=h
theorem SE(h:P:=by first|rfl|(simp[cK];done)):P:=h
theorem akg(h:P:=by simp[bP,aC,cK,e0,e9,aL,bR,go_sem];exact⟨rfl,rfl⟩):P:=h
theorem Ze(h:P:=by rw[<- hlo.aX];exact HO.aX):P:=h
theorem SF(h:P:=by have:=HX.aX _ hx;omega):P:=h
theorem Zf(h:P:=by rw[LR.aX];exact HF.aX):P:=h
theorem NJ(h:P:=by rw[ix hlt]):P:=h
theorem Zj(h:P:=by grind [wT]):P:=h
theorem pd(h:P:=by simp[EK]):P:=h
theorem akk(h:P:=by rw[HR.aX,oO];rfl):P:=h
theorem Zk(h:P:=by simp[bP,aC,cK,Jt,aL,bR,q8,z8,go_sem]):P:=h
theorem SH(h:P:=by simp[oJ,cV]):P:=h
theorem CZ(h:P:=by simp[oJ]):P:=h
theorem FP(h:P:=by simp[lE]):P:=h
theorem Kt(h:P:=by rw[HR.aX];exact HF.aX):P:=h
theorem akn(h:P:=by rw[hR'.1];exact Nat.mul_pos hp hs):P:=h
theorem ako(h:P:=by rw[<- hE.1];exact h1):P:=h
theorem Zl(h:P:=by rw[HT.aX,hq];simp):P:=h
theorem akq(h:P:=by rcases hk with hk|hk;exact aI hk;have:=dt k hk;exact aJ (by omega)):P:=h
theorem aBi(h:P:=by rw[gZ.aX];exact (dH.less λk hk=>cQ hk (cI qT k2.size)).low qT):P:=h
theorem Ig(h:P:=by simp[hk]):P:=h
theorem Zm(h:P:=by have:=nH.aX;omega):P:=h
theorem akw(h:P:=by rcases hk with hk|hk;exact hk.elim;have:=(aog k hk).1;omega):P:=h
theorem akx(h:P:=by rw[gZ.aX];simp only[eU]at Ck⊢;omega):P:=h
theorem akB(h:P:=by have:=aBj a b;rw[h1',h2]at this;simpa using this):P:=h
theorem NM(h:P:=by simp[h0]):P:=h
theorem Zn(h:P:=by simp[hf.aX.1 (by omega)]):P:=h
theorem akC(h:P:=by simp[hf.aX.2.1 (by omega)]):P:=h
theorem wQ(h:P:=by rw[HT.aX,hkk];rfl):P:=h
theorem akE(h:P:=by simp[results,results298,go_sem,g0,g1,g2]):P:=h
theorem akG(h:P:=by simp only[sI,hf]):P:=h
theorem Zq(h:P:=by rw[<- HR.aX];rfl):P:=h
theorem Zr(h:P:=by rw[HF.aX];exact cE.nil _ _ _ _ _):P:=h
theorem akM(h:P:=by obtain⟨A9,c9,rfl⟩:=cR.slice;rfl):P:=h
theorem SL(h:P:=by rw[hk];exact JA):P:=h
theorem Zt(h:P:=by subst e;have:=(cR.blk _ hk).1;omega):P:=h
theorem akO(h:P:=by simp[bP,aC,cK,aL,bR,q9,z9,go_sem]):P:=h
theorem Zu(h:P:=by rw[<- LY.aX];exact Cd.aX):P:=h
theorem aBk(h:P:=by rw[HF.aX];unfold nr;rw[bO (by omega),bT (by simp[hb0,cD,hb2,dy])]):P:=h
theorem aBl(h:P:=by rw[HF.aX];unfold nr;rw[bO (by omega),bO (by simp[hb0,cD,hb2,dy])]):P:=h
theorem Zw(h:P:=by rw[HE.aX,iw (by omega)]):P:=h
theorem NP(h:P:=by simp at hpl;omega):P:=h
theorem FQ(h:P:=by rw[HF.aX];rfl):P:=h
theorem aBn(h:P:=by rw[HF.aX];unfold lJ;unfold KF at hb0;rw[bT (by simp only[Bool.or_eq_true]at hb0⊢;exact aI (aI hb0))]):P:=h
theorem aBo(h:P:=by rw[HF.aX];unfold lJ;unfold KF at hb0;rw[bO (by simp only[Bool.or_eq_true,Bool.or_eq_false_iff]at hb0⊢;rw[hb0.1.1,hb0.1.2,hb0.2,hb2,dy];simp)]):P:=h
theorem akX(h:P:=by have:=hG.tx.zi;omega):P:=h
theorem akZ(h:P:=by rw[HE.aX,E7,abk];rfl):P:=h
theorem Zz(h:P:=by have:=HM.aX k h;omega):P:=h
theorem ak0(h:P:=by simp[Value.ownBlock]at hk):P:=h
theorem SQ(h:P:=by have:=HG.aX;omega):P:=h
theorem ZA(h:P:=by rw[F0.aX,h];simp):P:=h
theorem ZB(h:P:=by rw[F1.aX,h];simp):P:=h
theorem ZC(h:P:=by rw[F2.aX,h];simp):P:=h
theorem ak3(h:P:=by rw[HR.aX,anv];rfl):P:=h
theorem ZG(h:P:=by rw[Vu.aX];rfl):P:=h
theorem ZH(h:P:=by rw[<- jz.aX,HQ.aX];exact HH.aX.1):P:=h
theorem ak9(h:P:=by rw[<- jz.aX,HQ.aX];exact aoq.aX):P:=h
theorem SR(h:P:=by simp[xm,cV]):P:=h
theorem FR(h:P:=by simp[xm]):P:=h
theorem ale(h:P:=by rw[HF.aX];unfold yj;rw[ht];rfl):P:=h
theorem alg(h:P:=by simp at hpn;unfold pK;omega):P:=h
theorem ali(h:P:=by rw[aCK,Nat.mod_eq_of_lt (by omega)]):P:=h
theorem alj(h:P:=by rw[Qd,List.drop_eq_getElem_cons hlt];rfl):P:=h
theorem alk(h:P:=by rw[HOA.aX,hab];rfl):P:=h
theorem Kv(h:P:=by simp[hz]):P:=h
theorem SU(h:P:=by simp[CI]):P:=h
theorem SX(h:P:=by simpa using h6):P:=h
theorem ZJ(h:P:=by rw[HP.aX];rfl):P:=h
theorem alq(h:P:=by rw[HR.aX];simp[h1]):P:=h
theorem NR(h:P:=by subst h2;simp):P:=h
theorem ZK(h:P:=by subst h5;simp):P:=h
theorem ZL(h:P:=by subst h6;simp):P:=h
theorem SZ(h:P:=by simp[g1]):P:=h
theorem aBu(h:P:=by simp[bP,aC,cK,e0,e8,aL,bR,go_sem,axZ];exact⟨rfl,rfl⟩):P:=h
theorem S0(h:P:=by rw[HB.aX,hall.aX,hx];rfl):P:=h
theorem alw(h:P:=by rw[HS.aX,bO];rw[HN.aX,GD.aX];simp):P:=h
theorem alx(h:P:=by rcases hk with hk|hk;exact cQ hk qA;exact (dt k hk).2):P:=h
theorem ZM(h:P:=by rw[HB.aX,hx];simp):P:=h
theorem ZN(h:P:=by rw[Bool.eq_iff_iff];simp):P:=h
theorem NS(h:P:=by rw[nH.aX];exact bL _):P:=h
theorem alz(h:P:=by simp[results,results235,go_sem,e9]):P:=h
theorem EA(h:P:=by rw[IntKind.wrap_i64];omega):P:=h
theorem S5(h:P:=by subst e;omega):P:=h
theorem ZO(h:P:=by rw[HNM.aX];omega):P:=h
theorem ZP(h:P:=by show (Q l:Int)%2^64=_;omega):P:=h
theorem ZQ(h:P:=by simpa using zS.aX):P:=h
theorem ZR(h:P:=by rw[ix hlt,List.flatMap_append];simp only[xV,List.flatMap_nil,List.append_nil,fN]):P:=h
theorem alK(h:P:=by exact hg _ _ hc0 (Below.drew (ed _ _))):P:=h
theorem ZV(h:P:=by simp only[iY];rw[HJ.aX]):P:=h
theorem ZW(h:P:=by have:=DJ.aX;rw[this]):P:=h
theorem NT(h:P:=by have:=kA.size;omega):P:=h
theorem alM(h:P:=by rintro (e|e) <;> omega):P:=h
theorem alN(h:P:=by simp[results,results170,go_sem,e9]):P:=h
theorem alQ(h:P:=by rw[HE.aX,O2];rfl):P:=h
theorem alS(h:P:=by rw[ku.aX,HMM.aX,hc1];rfl):P:=h
theorem alT(h:P:=by rw[HQ.aX,jC];rfl):P:=h
theorem y4(h:P:=by simp[wZ]):P:=h
theorem Z6(h:P:=by have:=hr.calls;omega):P:=h
theorem NW(h:P:=by simp[lZ]):P:=h
theorem alV(h:P:=by simp[go_sem,aL,scase,Act.eval]):P:=h
theorem alW(h:P:=by simp[results,f167,Frame.at]):P:=h
theorem alX(h:P:=by simp[go_sem,aL,rcase,Act.eval]):P:=h
theorem alY(h:P:=by simp[results,f168,Frame.at]):P:=h
theorem Da(h:P:=by grind [eA]):P:=h
theorem NX(h:P:=by simpa using q3):P:=h
theorem Z8(h:P:=by simp[jV]):P:=h
theorem S6(h:P:=by simp at hj;omega):P:=h
theorem al1(h:P:=by rw[h.len];exact g2):P:=h
theorem Ih(h:P:=by unfold kP;rw[bO (by omega)]):P:=h
theorem aab(h:P:=by have:=h1.lo k e;omega):P:=h
theorem al3(h:P:=by have:=RQ h.lo ⟨hk.1,aI hk.2⟩;exact⟨this.1,this.2.1⟩):P:=h
theorem aac(h:P:=by have:=h.lo k e;omega):P:=h
theorem S8(h:P:=by injection e with e;exact e.symm):P:=h
theorem S9(h:P:=by simpa using hD):P:=h
theorem al9(h:P:=by rintro k (h|rfl) <;> omega):P:=h
theorem ama(h:P:=by constructor <;> omega):P:=h
theorem amb(h:P:=by rw[hX];exact aJ rfl):P:=h
theorem aag(h:P:=by unfold Bi;omega):P:=h
theorem amc(h:P:=by simp[bP,aC,hp];exact LA.aX W kW):P:=h
theorem amd(h:P:=by simp[bP,aC,hp];exact Ce.aX W kW):P:=h
theorem aBJ(h:P:=by obtain⟨H,own,a,b,c,d,e,f⟩:=HE.aX;exact⟨H,own,a,b,c,d,e,by first|exact f|exact aJ trivial⟩):P:=h
theorem aah(h:P:=by have:=hs.lc;omega):P:=h
theorem amf(h:P:=by simp[results,results58,go_sem,e9]):P:=h
theorem amg(h:P:=by simp[results,results23,go_sem,e9]):P:=h
theorem amh(h:P:=by simp[results,results59,go_sem,e9]):P:=h
theorem amj(h:P:=by have:=HVB.aX.1 v hvs k e;have:=GG.aX;omega):P:=h
theorem aml(h:P:=by simp[results,results19,go_sem,e9]):P:=h
theorem amm(h:P:=by rw[qN];omega):P:=h
theorem NZ(h:P:=by simp[aO];omega):P:=h
theorem amo(h:P:=by rw[<- HS.aX];exact List.take_prefix _ _):P:=h
theorem aBO(h:P:=by rw[<- e];rw[show k+49*Q (pre++[(j:Int)])=k+49*Q pre+49 by simp;omega];exact hI9):P:=h
theorem amp(h:P:=by have:=HKK.aX;omega):P:=h
theorem aai(h:P:=by have:=(h.1.up hu).2.1.calls;omega):P:=h
theorem aaj(h:P:=by have:=D2 _ e;omega):P:=h
theorem aak(h:P:=by simp[dX,cV]):P:=h
theorem aam(h:P:=by simp[bP,aC,cK,hA,aL,bR,go_sem];first|rfl|exact⟨rfl,rfl⟩):P:=h
theorem ams(h:P:=by simp[results,results77,go_sem,e9]):P:=h
theorem amt(h:P:=by rw[hn];simp[IntKind.wrap_u64];omega):P:=h
theorem amu(h:P:=by simp[results,results78,go_sem,e9]):P:=h
theorem amv(h:P:=by simp[results,results124,go_sem,e9]):P:=h
theorem Tf(h:P:=by rw[hR.aX];rfl):P:=h
theorem amw(h:P:=by simp[results,results79,go_sem,e9,gS]):P:=h
theorem N0(h:P:=by simp[bP,aC,cK,hA,aL,bR,go_sem]):P:=h
theorem amx(h:P:=by simp[results,results80,go_sem,e9,gS]):P:=h
theorem amy(h:P:=by simp[results,results81,go_sem,e9,gS]):P:=h
theorem amE(h:P:=by rw[<- h1];exact Eg C css λcs hcs=>(h2 cs hcs).1):P:=h
theorem amH(h:P:=by have:=HQ.aX;simpa using this):P:=h
theorem Th(h:P:=by simpa using hs):P:=h
theorem amP(h:P:=by obtain⟨_,_,e,-,h⟩:=mH;injection e with _ _ e;omega):P:=h
theorem Ik(h:P:=by simp[yp]):P:=h
theorem Il(h:P:=by simp[Dv]):P:=h
theorem Tj(h:P:=by cases args;simp_all):P:=h
theorem aao(h:P:=by obtain⟨m,hm⟩:=h0;exact DataW.trod_lt m _ _ _ hm):P:=h
theorem aap(h:P:=by obtain⟨m,hm⟩:=h1;exact DataW.trod_lt m _ _ _ hm):P:=h
theorem aaq(h:P:=by obtain⟨m,hm⟩:=h2;exact DataW.trod_lt m _ _ _ hm):P:=h
theorem amU(h:P:=by obtain⟨m,hm⟩:=h3;exact DataW.trod_lt m _ _ _ hm):P:=h
theorem amV(h:P:=by obtain⟨m,hm⟩:=h4;exact DataW.trod_lt m _ _ _ hm):P:=h
theorem aJc(h:P:=by rw[Oc];kernel_rfl):P:=h
theorem aJd(h:P:=by rw[Od];kernel_rfl):P:=h
theorem Tm(h:P:=by unfold Func.isWrapper;first|(rw[bT (by decide +kernel)];kernel_rfl)|(rw[bO (by decide +kernel)];exact⟨rfl,rfl⟩)):P:=h
theorem amW(h:P:=by rw[hlo.aX];exact (k1.tr kW).size):P:=h
theorem Tn(h:P:=by rw[<- jz.aX,HP.aX];exact tX.aX):P:=h
theorem NC(h:P:=by
 obtain⟨j,hj,rfl,hO,kr⟩:=hrel;have s6:=k3.tr kr;by_cases hlt:j<Q es
 ·exact aB3
 ·exact aB4):P:=h
theorem aB4(h:P:=by have cd:¬(j:Int)<Q es:=aZ;rw[iw aZ]at hO;have hxr:=iH.bF kr;have rA:=fP.bF kr;have BI:iF wr (Z (D w1)) (F A1 (Q f) c1) f:=sG iB kr;obtain⟨Ao,co,rfl,-⟩:=hO.slice;have q:=hxr.cell;have z:=hxr.frozen;go_upto_region 9 with fail;have gh:bn (aV wr ⟨Z (D w),7,U⟩ (F Ao (Q es) co)) (Z (D w)) 128 #[G J k,G J b,G E l,G E s,G J cl,G E u,F A1 (Q f) c1,F Ao (Q es) co]:=hxr.cz 7 _;have j0:=rA.far (p:=⟨Z (D w),7,U⟩) bq (F Ao (Q es) co);have k5:K w (aV wr ⟨Z (D w),7,U⟩ (F Ao (Q es) co)):=K.set s6 (bL _) 7 _;have sZ:=iF.up BI (w':=wr.setCell ⟨Z (D w),7,U⟩ (F Ao (Q es) co)) (bV.set aZ 7 _);have fu:=hO.up (w':=wr.setCell ⟨Z (D w),7,U⟩ (F Ao (Q es) co)) (bL _) (bV.set aZ 7 _);generalize wr.setCell _ _=w5 at *;have q:=gh.cell;have y:=j0.cell;have z:=j0.frozen;go_wp2;have eV:bn (ax w5 _ _) (Z (D w)+1) 128 #[G J k,G J 0,G E 0,G E 0,G J 0,G E 0,F U 0 0,F U 0 0]:=(j0).cz 0 (G J k);have eV:bn (ax (ax w5 _ _) _ _) (Z (D w)+1) 128 #[G J k,G J b,G E 0,G E 0,G J 0,G E 0,F U 0 0,F U 0 0]:=(eV).cz 1 (G J b);have eV:bn (ax (ax (ax w5 _ _) _ _) _ _) (Z (D w)+1) 128 #[G J k,G J b,G E l,G E 0,G J 0,G E 0,F U 0 0,F U 0 0]:=(eV).cz 2 (G E l);have eV:bn (ax (ax (ax (ax w5 _ _) _ _) _ _) _ _) (Z (D w)+1) 128 #[G J k,G J b,G E l,G E s,G J 0,G E 0,F U 0 0,F U 0 0]:=(eV).cz 3 (G E s);have eV:bn (ax (ax (ax (ax (ax w5 _ _) _ _) _ _) _ _) _ _) (Z (D w)+1) 128 #[G J k,G J b,G E l,G E s,G J cl,G E 0,F U 0 0,F U 0 0]:=(eV).cz 4 (G J cl);have eV:bn (ax (ax (ax (ax (ax (ax w5 _ _) _ _) _ _) _ _) _ _) _ _) (Z (D w)+1) 128 #[G J k,G J b,G E l,G E s,G J cl,G E u,F U 0 0,F U 0 0]:=(eV).cz 5 (G E u);have eV:bn (ax (ax (ax (ax (ax (ax (ax w5 _ _) _ _) _ _) _ _) _ _) _ _) _ _) (Z (D w)+1) 128 #[G J k,G J b,G E l,G E s,G J cl,G E u,F A1 (Q f) c1,F U 0 0]:=(eV).cz 6 (F A1 (Q f) c1);have eV:bn (ax (ax (ax (ax (ax (ax (ax (ax w5 _ _) _ _) _ _) _ _) _ _) _ _) _ _) _ _) (Z (D w)+1) 128 #[G J k,G J b,G E l,G E s,G J cl,G E u,F A1 (Q f) c1,F Ao (Q es) co]:=(eV).cz 7 (F Ao (Q es) co);have U9:=((((((((bV.rf (Z (D w)+1+1) U w5).tr (bV.set (b:=Z (D w)+1) aZ 0 (G J k))).tr (bV.set (b:=Z (D w)+1) aZ 1 (G J b))).tr (bV.set (b:=Z (D w)+1) aZ 2 (G E l))).tr (bV.set (b:=Z (D w)+1) aZ 3 (G E s))).tr (bV.set (b:=Z (D w)+1) aZ 4 (G J cl))).tr (bV.set (b:=Z (D w)+1) aZ 5 (G E u))).tr (bV.set (b:=Z (D w)+1) aZ 6 (F A1 (Q f) c1))).tr (bV.set (b:=Z (D w)+1) aZ 7 (F Ao (Q es) co));have K9:=(K.set (K.set (K.set (K.set (K.set (K.set (K.set (K.set k5 (r:=Z (D w)+1) aZ 0 (G J k)) (r:=Z (D w)+1) aZ 1 (G J b)) (r:=Z (D w)+1) aZ 2 (G E l)) (r:=Z (D w)+1) aZ 3 (G E s)) (r:=Z (D w)+1) aZ 4 (G J cl)) (r:=Z (D w)+1) aZ 5 (G E u)) (r:=Z (D w)+1) aZ 6 (F A1 (Q f) c1)) (r:=Z (D w)+1) aZ 7 (F Ao (Q es) co));generalize (ax (ax (ax (ax (ax (ax (ax (ax w5 _ _) _ _) _ _) _ _) _ _) _ _) _ _) _ _)=W9 at *;have e9:=eV.cell;refine aM (v:=av #[G J k,G J b,G E l,G E s,G J cl,G E u,F A1 (Q f) c1,F Ao (Q es) co]) (by simp[results,zR.aX,go_sem,e9]) rfl ?_;exact⟨_,rfl,⟨_,_,rfl,oy aZ (iF.up sZ (U9.more aZ (λ_ _ _=>bq))),(cE.low (cE.floor (fu.up (bL _) (U9.more aZ (λ_ _ _=>bq))) aZ) aZ)⟩,K9⟩):P:=h
theorem aB3(h:P:=by
 have cd:(j:Int)<Q es:=aZ;obtain⟨b1,off,cs,rfl,cD,hcl,⟨ve,rfl,mE⟩,hcell⟩:=KB he j hlt bC;have d0:wr.cell? ⟨b1,off+j,U⟩=I ve:=by have:=hcell 0 bC;rw[s6.cell aZ];simpa [dS]using this
 have HT:Hid (es.take (j+1)=es.take j++[es[j]]):=aY bq;have hej:=I9.aX _ (dG hlt);have ID:=nL _ _ _ _ mE s6;generalize es[j]=ej at *;obtain⟨Ae,ce,rfl,hRe⟩:=ID;have iO:Q (es.take j)<=1000000:=cG;have Mm:=kr.size;go_wp2_with (at_builtin;refine j9 rfl _ _ 35 rfl (Z (D wr)) 88 _ 4 48 TE _ 0 [] rfl (mr _ _ _ _) _ Ae (Q ej) ce (ej.flatMap lV) rfl hRe (XG ej) ?p1 (bL _) ?_)
 case p1=>omega
 intro v2 w4 gI _ _ hb2;have UB:=aY (sO.rel (show sO w4 (Z (D wr)) v2 ej from gI));obtain⟨A2,c2,rfl,-⟩:=(show sO w4 (Z (D wr)) v2 ej from gI).slice;have oQ:=hO.blk;have fq:=hO.st hb2;have jo:=kr.tr hb2;obtain⟨css,hown,hcl,oR⟩:=fq;have lq:=hb2.size;have kA:=K.new w4 (aq #[F A2 (Q ej) c2] 35);have hbase:Z (D w3)<=Z (D (aU w4 (aq #[F A2 (Q ej) c2] 35))):=NT;go_wp2_with (at_builtin;refine j9 rfl _ _ 43 rfl (Z (D w3)) 35 _ 1 24 Ln _ _ _ rfl (sK hown _) (Z (D w4)+1) _ 1 1 [F A2 (Q ej) c2] rfl ?c1 ?c2 ?c3 hbase ?_)
 case c1=>exact Reads.new w4 [F A2 (Q ej) c2] 35 1 1 rfl
 case c2=>intro u hu;simp at hu;subst hu;rfl
 case c3=>omega
 intro v9 w9 jc dF fO cN;have k9:=(jo.tr kA).trans cN;have cR:cE (Z (D w3)) (Z (D w3)) 35 dS (es.take (j+1)) v9 w9:=by exact amX
 exact YW):P:=h
theorem ald(h:P:=by
 cases L2
 ·exact aB5
 ·exact aB6):P:=h
theorem ah3(h:P:=by
 apply bN (Q0 k N ⟨s.toArray⟩ _);intro W5 lQ;have gF:=gF.below lQ (by have:=fP.lt;simp;omega);have dV:=dV.bF lQ;have hgr:=qJ hgr (Ef lQ _);have Mu:=(bn.new W3 83 #[G J k,G J N,aw { data:=s.toArray }]).below lQ bq;have lh:=lQ.size;simp only[World.size_alloc]at lh;clear lQ;by_cases hok:km (k:Int) N ⟨s.toArray⟩=aA
 ·exact aB7
 ·have hok:km (k:Int) N ⟨s.toArray⟩=false:=R3;have hch:(nX (k:Int) N ⟨s.toArray⟩ != 0)=true:=by simp[nX,hok]
  have G6:=Mu.cell 0;have zG:=Mu.cell 1;have hv2:=Mu.cell 2;simp at G6 zG hv2;go_wp2;have Lc:(if (decide (3<k)||false||!(km (k:Int) N ⟨s.toArray⟩))=aA then (((0,0,[]),l3,aA):(Int×Int×List UInt8)×List UInt8×Bool)else (((k:Int),N,s),l3,az))=((0,0,[]),l3,aA):=by simp[hok]
  exact amY):P:=h
theorem aB5(h:P:=by
 have hLB:=uQ.aX rfl;have HQ:Hid (P'=(Bj,lj++[x])):=aY ZG;rw[hLB]at BG;have Eb:=aY u3;have OK:=rE.cA Eb.aX (λh=>by have:=HBr.aX.low ga (aJ h);have:=nH.aX;omega);have Mc:=OK.cell;have HFa:=aY (Vs.aX.to ((bf.bS xB _).tr Eb.aX) (X:=cO p2) (λk hk=>(JF.aX k hk).imp aJ id) λk _ hk=>hk);have kA:=K.new Az (aq (bQ x (F Af (Q x.f) cf) (F Ae (Q x.es) ce)) 128);have GV:=pX.st kA;have Ub:=pX.blk;have hr:=fL.new (S:=cF) (e:=128) (v:=av (bQ x (F Af (Q x.f) cf) (F Ae (Q x.es) ce))) HFa.aX 0 (eO _);have OL:=BG.st kA;have abo:=uR.size;have Co:=aY (aB BG (aB uR (aB Gl (aB Gm (aB Gc pX)))));have K1:=aY OL;have aEw:Q lj<=1000000:=by simp at Vm;omega
 clear BG uR Gl Gm Gc pX OL xy q8;clear sf u3 kj P4;go_wp2_with (at_builtin;refine kI rfl _ _ 59 rfl _ 8 96 rz rfl rfl GV _ rfl x ?p1 ?p2 ?p3 ?_)
 case p1 => exact ak5
 case p2=>omega
 case p3=>exact cI abo kA.size
 intro v11 Vw Ds zj Iw K2;have aoq:=aY Ds;have hBw:cS (λk=>((M k∨cO p' k)∨aW v11=I k)∨cO p3 k) p3 Bj Vw:=K1.aX.far (X:=λk=>aW (F Ao (Q lj) co)=I k) (bf.gy zj λk e=>e) (λk hk=>aI (aJ hk)) (λk hk=>Co.aX.2.2.2.2.1 k hk) (λk hk h=>by
  rcases h with (h|h)|h
  ·exact aI (aI h)
  ·exact ak6
  ·exact aJ h) (λk hk=>aJ hk) (λk hk=>by
   rcases hk with (h|h)|h
   ·exact ak7
   ·exact (Ds.blk k h).2
   ·exact cQ (K1.aX.low k (aJ h)) zj.size)
 have Oj:∀k,aW v11=I k->¬cO p3 k:=λk hk h=>by exact ak8
 have u11:=(Co.aX.2.1.tr (bf.bS kA _)).iA (bf.gy (X:=λk=>aW (F Ao (Q lj) co)=I k) zj λk e=>e) λk hk h=>by have:=(Ub k h).1;omega
 have HH:=aY (aB hBw (aB u11 (aB Co.aX.2.2.1 (aB Co.aX.2.2.2.1 Oj))));clear hBw u11 Oj hr GV Ds zj Iw K2 Mc OK;go_wp2;go_roundw
 case rel=>exact⟨j+1,p3,aZ,cU,ZH,HH.aX.2.1,HH.aX.2.2.1,HH.aX.2.2.2.1,HH.aX.2.2.2.2,ak9⟩
 case measure=>simp[aO];omega):P:=h
theorem amY(h:P:=by go_step3;refine⟨rfl,?_⟩;have hy0:=dV.cell 0;have EZ:=dV.cell 1;have hy2:=dV.cell 2;have hz0:=dV.frozen 0;have hz1:=dV.frozen 1;have hz2:=dV.frozen 2;simp at hy0 EZ hy2;obtain⟨A4,c4,hb4,_⟩:=id gF;have gX:=hb4.cell 1;have vT:=hb4.frozen 1;simp at gX;go_wp2;have gh:=(((dV.far (p:=⟨g,1,U⟩) cG (ar aA)).cz 0 (G J 0)).cz 1 (G J 0)).cz 2 (aw { data:=#[] });have e0:=gh.cell 0;have e1:=gh.cell 1;have e2:=gh.cell 2;simp at e0 e1 e2;have hw:=gF.Ya;rw[jt];refine aM (v:=vd (0,0,[])) Yb rfl ?_;rw[HN.aX,Lc];exact ah2):P:=h
theorem Tk(h:P:=by unfold joinedFacts;simp only[fB];exact⟨⟨⟨⟨⟨⟨⟨⟨⟨⟨⟨⟨⟨⟨⟨⟨⟨⟨⟨⟨⟨⟨⟨⟨⟨⟨⟨⟨⟨⟨⟨dz,Ty⟩,aC1⟩,dz⟩,dz⟩,dz⟩,dz⟩,dz⟩,dz⟩,Wf⟩,Wg⟩,Wh⟩,Wk⟩,dz⟩,dz⟩,dz⟩,dz⟩,dz⟩,dz⟩,dz⟩,dz⟩,dz⟩,dz⟩,dz⟩,dz⟩,aCh⟩,Wl⟩,Wm⟩,dz⟩,dz⟩,dz⟩,dz⟩):P:=h
theorem ajk(h:P:=by
 go_wp2_with fail
 apply dP (CV.aX w1 k1) k1;intro w2 j2 k2;replace kk:=kk.tr j2;cases h2:mA vP m.dU
 ·have HQ:Hid (jY m=130):=aY (by unfold jY;rw[show fI m=az from by simp[fI,h2]];rfl);go_wp2;go_ret;exact⟨pM,k2⟩
 go_wp2_with fail
 apply dP (CA.aX w2 k2) k2;intro w3 j3 k3;replace kk:=kk.tr j3;cases h3:mA dm m.asks
 ·have HQ:Hid (jY m=130):=aY (by unfold jY;rw[show fI m=az from by simp[fI,h3]];rfl);go_wp2;go_ret;exact⟨pM,k3⟩
 go_wp2_with fail
 apply dP (CE.aX w3 k3) k3;intro w4 j4 k4;replace kk:=kk.tr j4;cases h4:mA dm m.entries
 ·have HQ:Hid (jY m=130):=aY (by unfold jY;rw[show fI m=az from by simp[fI,h4]];rfl);go_wp2;go_ret;exact⟨pM,k4⟩
 go_wp2_with fail
 apply dP (CP.aX w4 k4) k4;intro w5 j5 k5;replace kk:=kk.tr j5;cases h5:mA dm m.gu
 ·have HQ:Hid (jY m=130):=aY (by unfold jY;rw[show fI m=az from by simp[fI,h5]];rfl);go_wp2;go_ret;exact⟨pM,k5⟩
 go_wp2_with fail
 apply dP (CB.aX w5 k5) k5;intro w6 j6 k6;replace kk:=kk.tr j6;cases h6:mA qP m.fA
 ·have HQ:Hid (jY m=130):=aY (by unfold jY;rw[show fI m=az from by simp[fI,h6]];rfl);go_wp2;go_ret;exact⟨pM,k6⟩
 go_wp2_with fail
 apply dP (CD.aX w6 k6) k6;intro w7 j7 k7;replace kk:=kk.tr j7;cases h7:mA qP m.ends
 ·have HQ:Hid (jY m=130):=aY (by unfold jY;rw[show fI m=az from by simp[fI,h7]];rfl);go_wp2;go_ret;exact⟨pM,k7⟩
 have HQ:Hid (jY m=0):=aY (by unfold jY;rw[show fI m=aA from by simp[fI,hK,h2,h3,h4,h5,h6,h7]];rfl);go_wp2;go_ret;exact⟨pM,k7⟩):P:=h
theorem amX(h:P:=by
 rw[HT.aX];exact cE.snoc hcl (λw' u=>oR w' (bV.tr (bV.bS kA _ _) u)) (by rw[List.length_take_of_le (show j<=Q es by omega)];exact jc) dF vE
  (λw' u=>UB.aX w' ((bV.tr (bV.bS kA _ _) u).more aZ (λk hk _ e=>bG)))):P:=h
theorem ah0(h:P:=by
 rw[FI k,HKN.aX];apply dD (yU A m c l KN sW _ B (hR.below anI hB) cG aZ);rintro v1 w1⟨jf,cD⟩;have hx1:=(bn.new w 83 #[G J k,G J n,aw s]).below cD bq;have jC:=hx1.cell 2;simp at jC;obtain⟨A1,c1,rfl,mG⟩:=jf.slice;have ll:Q (l++bI KN)<=m+9:=by have:=Hml.aX;simp;omega
 generalize oM:Q (l++bI KN)=m1 at *;clear oM jf;have hz1:=cD.size;simp only[World.size_alloc]at hz1;go_wp2_with fail
 apply dD (yU A1 m1 c1 _ NV hnl w1 (Z (D w1)) mG (bL _) aZ);rintro v2 w2⟨gI,hb2⟩;have hx2:=hx1.below hb2 aZ;have qE:=hx2.cell 2;simp at qE;clear jC hx1 mG;obtain⟨A2,c2,rfl,zq⟩:=gI.slice;have gj:Q (l++bI KN++bI NV)<=m+18:=by have:=Hml.aX;simp;omega
 generalize hm2:Q (l++bI KN++bI NV)=m2 at *;clear hm2 gI;have hz2:=hb2.size;go_wp2_with fail
 have hcb:aN (Z (D w2)) w2 (w2.drew.alloc (aq (bytesRow s (grownCap w2 s.size 0 5)) 5 ((bytesRow s (grownCap w2 s.size 0 5)).size,(bytesRow s (grownCap w2 s.size 0 5)).size+1))):=((ed _ w2).drew).alloc (bL _) _;apply dD (QZ A2 _ m2 c2 s.size _ _ (fW s) _ (Z (D w2)+1) ((zq.below hcb (bL _)).more aZ) (Reads.conv w2.drew s _ _ _) bq aZ aZ);rintro v3 w3⟨iB,dy⟩;go_wp2;go_ret;refine⟨_,rfl,?_,?_⟩
 ·unfold pP;rw[HKN.aX,HNV.aX];refine wK ?_ iB;simp;omega
 ·exact ((anI.trans (cD.mono bq)).trans (hb2.mono aZ)).trans ((hcb.mono aZ).trans (dy.mono cG))):P:=h
theorem Sg(h:P:=by have q:=aT.rv.cell;have z:=aT.rv.frozen;go_wp2;clear q z;have P9:=aT.put zEL rfl;simp only[dL,zEL,Nat.reduceAdd,ng]at P9;generalize ax _ _ _=W9 at *;have e9:=P9.1.cell;refine aM (v:=au #[av gE,G J 110]) aiW rfl ?_;exact⟨av gE,Si,by rw[HN.aX.2];exact λ_ _=>ay8 _,P9.2.1⟩):P:=h
theorem aB7(h:P:=by
 have hch:(nX (k:Int) N ⟨s.toArray⟩ != 0)=false:=by simp[nX,hok]
 have hy0:=dV.cell 0;have EZ:=dV.cell 1;have hy2:=dV.cell 2;have hz0:=dV.frozen 0;have hz1:=dV.frozen 1;have hz2:=dV.frozen 2;have G6:=Mu.cell 0;have zG:=Mu.cell 1;have hv2:=Mu.cell 2;simp at hy0 EZ hy2 G6 zG hv2;go_wp2;have gh:=((dV.cz 0 (G J k)).cz 1 (G J N)).cz 2 (aw { data:=s.toArray });have e0:=gh.cell 0;have e1:=gh.cell 1;have e2:=gh.cell 2;simp at e0 e1 e2;simp only[Exit.jump];refine aM (v:=vd (k,N,s)) Yb rfl ?_;have Lc:(if (decide (3<k)||false||!(km (k:Int) N ⟨s.toArray⟩))=aA then (((0,0,[]),l3,aA):(Int×Int×List UInt8)×List UInt8×Bool)else (((k:Int),N,s),l3,az))=(((k:Int),N,s),l3,az):=by simp[h3,hok]
 rw[HN.aX,Lc];refine⟨rfl,?_,?_⟩
 ·exact Rd.below (B:=Z (D w)) gF ((((ed _ _).setCell bq _).setCell bq _).setCell bq _) hg
 ·exact AO (AO (AO hgr bq _) bq _) bq _):P:=h
theorem YE(h:P:=by go_wp2;clear q z;have P9:=aT.put zRL rfl;simp only[dL,zRL,Nat.reduceAdd,ng]at P9;generalize ax _ _ _=W9 at *;have e9:=P9.1.cell;refine aM (v:=au #[av tL,G J 110]) ai1 rfl ?_;exact⟨av tL,Si,by rw[HN.aX.2];exact λ_ _=>azh _,P9.2.1⟩):P:=h
theorem RX(h:P:=by
 go_in;go_wp2;refine My 0 rfl ?_;go_wp2_with fail
 apply bN HN.aX;rintro w2⟨rm,hgr⟩;obtain⟨h9,nD⟩:=hfin w2 rm hgr;obtain⟨A,c,hb,hr,hc1,jC⟩:=rm;have fG:=hb.cell 0;have hx1:=hb.cell 1;have vT:=hb.frozen 1;simp at fG hx1;go_wp2;go_step3;refine⟨rfl,?_⟩;go_wp2;rw[jt];go_ret;exact⟨_,rfl,h9,nD⟩):P:=h
theorem Z4(h:P:=by
 have q:=aT.rv.cell;have z:=aT.rv.frozen;have anH:Hid (rX b=U):=aY (by rw[HD.aX];simp);obtain rfl:CK=130:=by rw[Qi.aX,anH.aX];rfl
 obtain rfl:MX=yg:=by rw[HMX.aX,anH.aX];rfl
 go_wp2;have P9:=aT.put zML rfl;simp only[dL,zML,Nat.reduceAdd,ng]at P9;clear q z;generalize ax _ _ _=W9 at *;have e9:=P9.1.cell;refine aM (v:=au #[av K5,G J 130]) alN rfl ?_;exact⟨av K5,rfl,λ_ _=>az9 _,P9.2.1⟩):P:=h
theorem Kr(h:P:=by simp only[dE,bU,bZ,dA,dB,bM]at hp;obtain⟨⟨v',e,hO⟩,-⟩:=hp;simp[dC,bP,aC,e,eH,aL,bR,ed,go_sem];exact hO):P:=h
theorem Ks(h:P:=by simp only[dE,bU,bZ,dA,dB,bM]at hp;obtain⟨⟨v',e,hO⟩,-⟩:=hp;exact amz):P:=h
theorem ZE(h:P:=by
 have Mn:bf (λk=>k=g∨k=g+1∨k=g+2) w6 w9:=⟨sE.os.trans u8.os,sE.tape.trans u8.tape,sE.output.trans u8.output,cI u8.size sE.size,λk h1 h2=>(sE.block k (cQ h1 u8.size) bG).trans (u8.block k h1 h2)⟩;clear CC hB T8 Vn Vo Vp q8 ql aEr aEs aEt;have HD:=aY Vq;have u9:=Mn;clear Vq;go_wp2;go_roundw
 case rel=>exact⟨j+1,aZ,cU,HD.aX,u9⟩
 case measure=>simp[aO];omega):P:=h
theorem Kl(h:P:=by
 go_wp2;go_roundw
 case rel=>exact⟨k+1,aZ,cU,rA,kW⟩
 case measure=>simp[aO];omega):P:=h
theorem tj(h:P:=by go_wp2;go_ret;exact⟨jD,rfl⟩):P:=h
theorem pc(h:P:=by go_wp2;go_ret;exact⟨ib,k1⟩):P:=h
theorem Sy(h:P:=by
 obtain⟨rfl,rfl⟩:xs=[]/\n=0:=by exact aB8
 go_wp2;go_ret;exact⟨_,rfl,mr _ _ _ _,kk⟩):P:=h
theorem akh(h:P:=by
 rintro v2 w2⟨ho,k2⟩;obtain⟨qC,qD,rfl,hF⟩:=Et ho;have dt:=hO.blk;have hz:=kV.size;replace hO:=hO.st k2;have pI:=kV.tr k2;have hr:=fL.new (S:=cF) (e:=128) (v:=av (bQ x qC qD)) hF 0 (eO _);have dH:=hO.st ((K.rf w2).al (aq (bQ x qC qD) 128));have eD:=pI.tr ((K.rf w2).al (aq (bQ x qC qD) 128));go_wp2_with (at_builtin;refine kI rfl _ _ 59 rfl _ 8 96 rz rfl rfl dH _ rfl x ?p1 ?p2 ?p3 ?_)
 case p1=>exact hr.less λk hk=>ajz
 case p2=>simp;omega
 case p3=>exact eD.size
 intro v9 w9 cR dF _ cN;rw[<- HT.aX]at cR;have kp:=eD.trans cN;exact Zy):P:=h
theorem amZ(h:P:=by
 have yO:=kp.trans cN;go_wp2;go_roundw
 case rel=>exact⟨j+1,aZ,cU,by rw[<- jz.aX,HP.aX];exact aoQ,yO⟩
 case measure=>simp[aO];omega):P:=h
theorem ajp(h:P:=by
 rintro s A B row⟨v,hv,hrow,hB,hz⟩ hg hr;have hne:∀g t cs,bn A g t cs->I g≠row:=λg t cs hb e=>by obtain⟨h1,o,h2,h3⟩:=hr g e.symm;unfold bn at hb;rw[hb]at h2;injection h2 with h2;rw[<- h2]at h3;cases h3
 refine⟨v,hv.kept hg (hne _ _ _ hv),Hr hrow λg _ h1 h2=>hg.block g h1 ?_,⟨hg.os.trans hB.os,hg.tape.trans hB.tape,hg.output.trans hB.output,cI hB.size hg.size,λk hk=>(hg.block k (cQ hk hB.size) λe=>?_).trans (hB.block k hk)⟩,cI hz hg.size⟩
 ·obtain⟨cur,hb⟩:=nK hrow h2;exact hne _ _ _ hb
 ·obtain⟨h1,-⟩:=hr k e.symm;have:=k2.size;omega):P:=h
theorem YW(h:P:=by
 go_wp2;go_roundw
 case rel=>exact⟨j+1,aZ,cU,cR,k9⟩
 case measure=>simp[aO];omega):P:=h
theorem Km(h:P:=by simp only[dE,bU,bZ,dA,dB,bM]at hp;exact⟨hp.1,hp.2.1.less λ_ h=>h⟩):P:=h
theorem ajy(h:P:=by
 have hb:=bn.new w 5 #[];have k1:=hb.cC;have ho:(aU w (aq #[] 5)).ownsRow (Z (D w)) 5 1 (F (I ⟨Z (D w),0,U⟩) 0 0) 0 [] :=
  ⟨rfl,aJ ⟨Z (D w),0,_,rfl,bL _,hb,bL _,Eo,bq,bq⟩⟩
 have mG:=(hR.below k1 (bL _)).more k1.size;go_wp2_with (at_builtin;refine j9 rfl _ _ 118 rfl (Z (D w)) 5 _ 1 1 TB _ 0 [] rfl ho _ (I ad) n c xs rfl mG h1 ?p1 k1.size ?_)
 case p1=>omega
 exact YT):P:=h
theorem aku(h:P:=by
 have HR:Hid (kM a b=if a<b then -1 else if b<a then 1 else 0):=aY rfl;generalize kM a b=R at *;go_in;go_wp2_with fail
 apply bN (C1.aX a w);intro w2 k2;go_wp2_with fail
 apply dP (C1.aX b w2) k2;intro w3 k3 k;by_cases h1:a<b
 ·have HE:Hid (R=-1):=aY aj5;exact aar
 by_cases h2:b<a
 ·have HE:Hid (R=1):=aY aj6;exact aar
 have HE:Hid (R=0):=aY aj7;exact aar):P:=h
theorem Tg(h:P:=by simp only[dE,bU,bZ,dA,dB,bM]at hp;obtain⟨⟨A,cc,e⟩,-⟩:=hp;exact aae):P:=h
theorem Ko(h:P:=by
 go_wp2;try rw[jt]
 exact am0):P:=h
theorem amD(h:P:=by
 intro k;induction k with
 | zero=>intro _;exact⟨[],rfl,bq,bq⟩
 | succ k ih => exact aB9):P:=h
theorem ak8(h:P:=by
 rcases Iw with e|e
 ·exact Co.aX.2.2.2.2.1 k (e▸hk) h
 ·exact aCa):P:=h
theorem Ni(h:P:=by go_in;go_wp2;refine My 0 rfl ?_;go_wp2;go_step3;refine⟨rfl,?_⟩;go_wp2;rw[jt];go_ret;exact⟨rfl,Dm _ rfl⟩):P:=h
theorem NK(h:P:=by have cd:¬(j:Int)<Q l:=aZ;obtain rfl:j=Q l:=aZ;rw[nN]at hO;exact Sz):P:=h
theorem NN(h:P:=by
 go_wp2;go_roundw
 case rel=>exact⟨j+1,aZ,cU,by rw[<- jz.aX,HP.aX];exact fq,jo⟩
 case measure=>simp[aO];omega):P:=h
theorem am0(h:P:=by go_ret2;exact⟨_,pM,Ic,cT⟩):P:=h
theorem SD(h:P:=by
 rcases hx with hx|hx|hx
 ·have:=HZ1.aX;have:=zT.aX;have:=Pr.aX;omega
 ·have:=(zP.aX.blk gp hx).1;have:=Pr.aX;omega
 ·have:=LA.aX gp hx;have:=zT.aX;omega):P:=h
theorem alH(h:P:=by
 by_cases hw:dC V o.guard=aA
 ·rw[bT hw]at ob⊢;generalize (aL (bP x.2 a0 V) (bR o.op o.type)).run P w=q at *;cases q with
  | ok n w' =>
   cases n <;> simp only[eH]at ob <;> simp only[lO]
   case value v=>exact next _ _ ob.1 ob.2
   case skip=>exact next _ _ ob.1 ob.2
   case enter f args =>
    apply dD ob
    rintro v w''⟨hv,hb⟩
    grind
  | halt x w'=>simp only[eH]at ob
 ·rw[bO hw]at ob⊢;exact next _ _ ob (ed _ _)):P:=h
theorem CJ(h:P:=by go_wp2;go_ret;exact⟨ib,kk⟩):P:=h
theorem Y5(h:P:=by simp only[dE,bU,bZ,dA,dB,bM]at hp;obtain⟨⟨LJ,LK,e3,hF⟩,h5,-⟩:=hp;simp[e3,h5,dC,bP,aC,eH,aL,bR,ed,go_sem];exact⟨_,_,rfl,Gk.tx hF⟩):P:=h
theorem aCb(h:P:=by exact Rd.below (B:=Z (D w)) hw.1 ((((ed _ _).setCell bq _).setCell bq _).setCell bq _) hg):P:=h
theorem aB8(h:P:=by
 rcases Nat.eq_zero_or_pos (Q xs)with h|h
 ·refine⟨List.eq_nil_of_length_eq_zero h,?_⟩;have:=hR.1;omega
 ·obtain⟨b,off,e,-⟩:=hR.2 h;cases e):P:=h
theorem aB6(h:P:=by
 have HQ:Hid (P'=(L1,lj)):=aY ZG;have HH:=aY (aB BG (aB uR (aB Gl (aB Gm (aB Gc pX)))));clear BG uR Gl Gm Gc pX sf u3 kj P4 xy;go_wp2;go_roundw
 case rel=>exact⟨j+1,p3,aZ,cU,ZH,HH.aX.2.1,HH.aX.2.2.1,HH.aX.2.2.2.1,HH.aX.2.2.2.2.1,by rw[<- jz.aX,HQ.aX];exact HH.aX.2.2.2.2.2⟩
 case measure=>simp[aO];omega):P:=h
theorem aky(h:P:=by
 have aFb:=lr.blk;have C3:=aY (afO _ _ R v8 w8 lr hRl hRs);obtain⟨A8,c8,rfl⟩:=lr.slice;go_wp2_with fail
 apply bN C3.aX;rintro w9⟨cR,u9⟩;have s8:=Vh.size;have kF:=u9.k yK λk hk=>by have:=(aFb k hk).1;have:=nH.aX;omega
 have HO:Hid (bK (λk=>k<lo) lo 260 jM R (F A8 (Q R) c8) w9):=aY ((cR.less λk hk=>aZ).low aZ);exact akv):P:=h
theorem aB9(h:P:=by
 intro hk;obtain⟨css,h1,h2,h3⟩:=ih aZ;obtain⟨cs,h4,h5,h6⟩:=hex k aZ;refine⟨css++[cs],by simp[h1],?_,λi j hik hj=>?_⟩
 ·intro x hx;rcases List.mem_append.1 hx with hx|hx
  ·exact h2 x hx
  ·simp at hx;subst hx;exact⟨h4,h5⟩
 ·by_cases aFc:i<k
  ·rw[h3 i j aFc hj,List.getElem?_append_left aZ]
  ·obtain rfl:i=k:=aZ;rw[h6 j hj,List.getElem?_append_right aZ,h1];simp):P:=h
theorem akQ(h:P:=by
 have HE:=aY (by
  have:=hall.aX;rw[iw aZ]at this;exact this)
 go_wp2;go_ret;exact⟨_,rfl,kr,by rw[HE.aX];simp⟩):P:=h
theorem aae(h:P:=by simp[dC,bP,aC,e,eH,aL,bR,ed,go_sem]):P:=h
theorem SC(h:P:=by
 clear jc dF fO cN hown oR Bd kA q5;go_wp2;go_roundw
 case rel=>exact⟨j+1,aZ,cU,DV,k9⟩
 case measure=>simp[aO];omega):P:=h
theorem amB(h:P:=by
 go_wp2_with (at_builtin;refine kI rfl _ _ 28 rfl _ 9 88 TAn rfl rfl jh _ rfl x ?p1 ?p2 ?p3 ?_)
 case p1=>exact hr
 case p2=>omega
 case p3=>exact eO _
 intro v9 w9 cR dF fO cN;have HF9:=aY (HJ.aX _ _ _ kA cR dF vE);clear mo q6 kA jh hr cR dF fO cN HS HJ;go_wp2;go_roundw
 case rel=>exact⟨j+1,aZ,cU,HF9⟩
 case measure=>simp[aO];omega):P:=h
theorem ZT(h:P:=by
 rintro v4 w4⟨hs4,k4⟩;rw[<- HS.aX]at hs4;have zU:=aY (oy xw.size hs4);have uK:=xw.tr k4;go_wp2;go_roundw
 case rel=>exact⟨j+1,aZ,cU,zU,uK⟩
 case measure=>simp[aO];omega):P:=h
theorem ZY(h:P:=by have u0:=(uj.tr u4).tr (bf.bS kA _);exact⟨r7.os.trans u0.os,r7.tape.trans u0.tape,r7.output.trans u0.output,cI u0.size r7.size,λk hk hx=>(r7.block k hk).trans (u0.block k hk hx)⟩):P:=h
theorem YQ(h:P:=by
 have cd:¬(j:Int)<Q l:=aZ;have HR:Hid (R=aA):=aY (by
  have h1:=HT.aX;rw[iw aZ]at h1;rw[HI.aX,h1];simp[jx])
 go_wp2;go_ret;exact⟨ib,kr⟩):P:=h
theorem SP(h:P:=by
 go_wp2;go_roundw
 case rel=>exact⟨j+1,_,aZ,cU,mL,by rw[<- jz.aX,HQ.aX];exact zX,hat,uW⟩
 case measure=>simp[aO];omega):P:=h
theorem Zd(h:P:=by refine (C1.aX W (k1.tr kW)).mono ?_;rintro e w4⟨v4,rfl,hO,k4⟩;exact⟨_,rfl,⟨_,rfl,cE.low (cE.floor hO amW) amW⟩,k4⟩):P:=h
theorem aCa(h:P:=by rw[e]at hk;injection hk with hk;have:=Co.aX.1.low k (aJ h);have h9:Z (D Az)<Z (D (aU Az (aq (bQ x (F Af (Q x.f) cf) (F Ae (Q x.es) ce)) 128))):=bq;omega):P:=h
theorem am1(h:P:=by rintro w' rfl;exact alR):P:=h
theorem RV(h:P:=by go_in;go_wp2;go_ret;refine⟨?_,rfl⟩;rw[HE.aX];show ak (G _ _)=ak (G _ _);congr 2;all_goals omega):P:=h
theorem Zv(h:P:=by
 go_wp2;go_roundw
 case rel=>exact⟨j+1,aZ,cU,by rw[<- jz.aX,HP.aX];exact cR,yO⟩
 case measure=>simp[aO];omega):P:=h
theorem aks(h:P:=by
 have ID:=nL _ _ _ _ mE kr;generalize es[j]=ej at *;obtain⟨Ae,ce,rfl,hRe⟩:=ID;have iO:Q (es.take j)<=1000000:=cG;have Mm:=kr.size;go_wp2_with (at_builtin;refine j9 rfl _ _ 35 rfl (Z (D wr)) 88 _ 4 48 TE _ 0 [] rfl (mr _ _ _ _) _ Ae (Q ej) ce (ej.flatMap lV) rfl hRe (XG ej) ?p1 (bL _) ?_)
 case p1=>omega
 intro v2 w4 gI _ _ hb2;have UB:=aY (sO.rel (show sO w4 (Z (D wr)) v2 ej from gI));obtain⟨A2,c2,rfl,-⟩:=(show sO w4 (Z (D wr)) v2 ej from gI).slice;have oQ:=hO.blk;have fq:=hO.st hb2;have jo:=kr.tr hb2;obtain⟨css,hown,hcl,oR⟩:=fq;have lq:=hb2.size;have kA:=K.new w4 (aq #[F A2 (Q ej) c2] 35);have hbase:Z (D w)<=Z (D (aU w4 (aq #[F A2 (Q ej) c2] 35))):=NT;go_wp2_with (at_builtin;refine j9 rfl _ _ 43 rfl (Z (D w)) 35 _ 1 24 Ln _ _ _ rfl (sK hown _) (Z (D w4)+1) _ 1 1 [F A2 (Q ej) c2] rfl ?c1 ?c2 ?c3 hbase ?_)
 case c1=>exact Reads.new w4 [F A2 (Q ej) c2] 35 1 1 rfl
 case c2=>intro u hu;simp at hu;subst hu;rfl
 case c3=>omega
 intro v9 w9 jc dF fO cN;have k9:=(jo.tr kA).trans cN;have cR:cE (Z (D w)) (Z (D w)) 35 dS (es.take (j+1)) v9 w9:=by exact amX
 exact YW):P:=h
theorem Zo(h:P:=by
 go_wp2_with fail
 apply dP C1.aX kr;intro w2 k2 kW;cases hx:q t
 ·exact am2
 ·exact aCc):P:=h
theorem amJ(h:P:=by
 by_cases h1:xs.size<=100
 ·exact aCd
 ·have h1':(100:Int)<(xs.size:Int):=aZ;have HE:=aY (HF.aX aZ);exact tj):P:=h
theorem akW(h:P:=by
 have kp:=sD.tr kA;have qA:=cI k8.size kA.size;go_wp2_with (at_builtin;refine kI rfl _ _ 59 rfl _ 8 96 rz rfl rfl tX.a _ rfl x ?p1 ?p2 ?p3 ?_)
 case p1 =>
  exact hr.less λk hk=>by
   rcases hk with (hk|hk)|hk
   ·omega
   ·have:=gB k hk;omega
   ·have:=wy k hk;omega
 case p2=>omega
 case p3=>exact cI OH qA
 exact alf):P:=h
theorem SY(h:P:=by
 go_wp2_with (with_reducible refine afY rfl (.tmp 23) (.tmp 24) rfl a b rfl rfl ?_)
 exact Ez):P:=h
theorem Ii(h:P:=by exact⟨Ie,ib,by rw[HR.aX];exact hP,hU⟩):P:=h
theorem aCd(h:P:=by
 have h1':¬(100:Int)<(xs.size:Int):=aZ;by_cases h2:xt.size<=100
 ·exact aCe
 ·have IZ:(100:Int)<(xt.size:Int):=aZ;have HE:=aY (HF.aX aZ);exact tj):P:=h
theorem am2(h:P:=by have rA:Hid ((l.take (k+1)).any q=az):=aY S0;exact Kl):P:=h
theorem Zh(h:P:=by simp only[dE,bU,bZ,dA,dB,bM]at hp;obtain⟨⟨qC,qD,e6,hF⟩,-⟩:=hp;simp[bP,aC,e6];exact⟨rfl,hF⟩):P:=h
theorem Ku(h:P:=by rintro w' rfl;have LO:=sB;go_wp2;go_ret;exact⟨jD,LO⟩):P:=h
theorem ZZ(h:P:=by
 clear jc dF fO cN hown oR Fe IL;go_wp2;go_roundw
 case rel=>exact⟨j+1,aZ,cU,es++[x],lk,Fv,Fw,Gx,abB,DV,u9⟩
 case measure=>simp[aO];omega):P:=h
theorem aiQ(h:P:=by
 go_wp2_with fail
 apply dP (Mz x _ _ (Gw _ k1)) k1;intro w2 k2 cT;have e3:=azb x;cases he:dm x
 ·exact aiN
 ·exact aiO):P:=h
theorem Ez(h:P:=by go_ret;exact⟨FQ,kF⟩):P:=h
theorem Ey(h:P:=by go_wp2;go_ret;exact⟨jD,sB⟩):P:=h
theorem NY(h:P:=by go_wp2;go_ret;exact⟨ib,rfl⟩):P:=h
theorem aki(h:P:=by rintro v2 w4⟨ho,k4⟩;exact⟨_,rfl,by obtain⟨qC,qD,e,hF⟩:=Et ho;exact⟨qC,qD,e,hF.less λk hk=>cQ hk kW.size⟩,k4⟩):P:=h
theorem Sm(h:P:=by simp only[dE,bU,bZ,dA,dB,bM]at hp;exact hp.1):P:=h
theorem alL(h:P:=by go_wp2;have e9:=cN.cell;rw[LS]at e9 DP zK Mn;simp only[dL,Nat.reduceAdd,ng]at e9 DP zK Mn;refine aM (v:=av (bQ x (F A9 (Q x.f) c9) (F D9 (Q x.es) d9))) (by simp[results,results244,go_sem,e9]) rfl ?_;exact⟨_,rfl,DP,zK,Mn⟩):P:=h
theorem Zy(h:P:=by
 go_wp2;go_roundw
 case rel=>exact⟨j+1,aZ,cU,cR,kp⟩
 case measure=>simp[aO];omega):P:=h
theorem aad(h:P:=by simp only[dE,bU,bZ,dA,dB,bM]at hp;obtain⟨⟨p,code,e⟩,-⟩:=hp;exact aae):P:=h
theorem aal(h:P:=by simp only[dE,bU,bZ,dA,dB,bM]at hp;simp[bP,aC,hp,aL,bR,go_sem]):P:=h
theorem Sb(h:P:=by go_wp2;go_ret;exact⟨ib,cT⟩):P:=h
theorem Ti(h:P:=by
 go_wp2;go_roundw
 case rel=>exact⟨t+1,aZ,cU,kt⟩
 case measure=>simp[aO];omega):P:=h
theorem Yr(h:P:=by rintro ⟨g,cap,cur,g1,g2,g3,g4⟩;exact⟨g,cap,cur,g1,g2,(u.block g g2 (aG.1 g3).1 bq).trans g3,g4⟩):P:=h
theorem EC(h:P:=by exact absurd (hb2.js hb) bC):P:=h
theorem ah4(h:P:=by go_wp2;generalize W3.alloc _=W4 at *;have Lc:(if (decide (3<k)||true||!(km (k:Int) N ⟨s.toArray⟩))=aA then (((0,0,[]),l3,aA):(Int×Int×List UInt8)×List UInt8×Bool)else (((k:Int),N,s),l3,az))=((0,0,[]),l3,aA):=bq;exact amY):P:=h
theorem Sq(h:P:=by simp at e;obtain⟨rfl,rfl⟩:=e;exact⟨_,_,rfl,h1,h2⟩):P:=h
theorem NL(h:P:=by go_wp2;go_ret;exact⟨ib,Kt⟩):P:=h
theorem amO(h:P:=by have hne:(R1.2 != 0)=true:=R3;have e1:=HE.aX hok;have e2:=HE2.aX aZ;rw[e1]at nc;rw[e2]at uI;have zY:=La.1;obtain⟨A6,c6,rfl⟩:=bD uI;simp only[e1,zY,List.length_nil]at *;go_wp2;go_ret;exact⟨rfl,DH⟩):P:=h
theorem YT(h:P:=by intro v4 w4 ij _ _ hb4;have HO:=aY (by simpa using ij);have k4:=k1.trans hb4;go_wp2;go_ret;exact⟨_,rfl,HO.aX,k4⟩):P:=h
theorem ah9(h:P:=by
 cases y with
 | tmp t => simp only[beq_iff_eq]at h4;simp only[BJ,bP,h4]
 | const v=>rfl
 | global g=>rfl
 | func f=>rfl):P:=h
theorem aiY(h:P:=by have jg:=Ra mU;have HN:=aY (ae2 (HQ.aX.1 mU));rw[jg.1];clear mU jg;have q:=DE.rv.cell;have z:=DE.rv.frozen;go_upto_region 9 with fail;generalize wd.alloc _=we at *;clear aT;have aT:=DE;clear DE;exact YE):P:=h
theorem Hz(h:P:=by go_wp2;go_ret;exact⟨FQ,fw⟩):P:=h
theorem aan(h:P:=by have hs:(decide (Q par<=6)&&decide (Q bj<=8))=false:=Th;rw[hs];go_wp2;go_ret;exact⟨rfl,k1⟩):P:=h
theorem Zx(h:P:=by intro v9 w9 cR dF fO cN;have aoQ:=(tX.swap.push cR dF vE).swap;exact amZ):P:=h
theorem amF(h:P:=by
 intro q hq;have e:q=q/C*C+q%C:=by rw[Nat.mul_comm];exact (Nat.div_add_mod q C).symm
 have gX:=Nat.div_lt_of_lt_mul (by rwa [Nat.mul_comm]at hq);have om:q%C<C:=Nat.mod_lt _ hC0;rw[e,h3 _ _ gX om,hfg _ _ gX om]):P:=h
theorem YK(h:P:=by have Bn:(16:Int)<(Q l:Int):=aZ;have HR:Hid (R=az):=aY (by rw[HI.aX];simp[jx]);exact CJ):P:=h
theorem akp(h:P:=by
 have pG:Hid ((l.take (j+1)).filter q=(l.take j).filter q):=aY Zl;rw[<- pG.aX]at eE;go_wp2;go_roundw
 case rel=>exact⟨j+1,aZ,cU,eE,pI⟩
 case measure=>simp[aO];omega):P:=h
theorem ais(h:P:=by
 have qA:Z (D w1)<=Z (D w9):=by have:=cN.size;simp at this;omega
 clear jc dF fO cN;go_wp2;go_roundw
 case rel=>exact⟨k+1,aZ,cU,am5,eV,anL,qA⟩
 case measure=>simp[aO];omega):P:=h
theorem ake(h:P:=by simp[dC,bP,aC,hp,eH,aL,bR,q1,qa,go_sem];refine (C1.aX W (k1.tr kW)).mono ?_;rintro e w4⟨v4,rfl,hO,k4⟩;exact⟨_,rfl,⟨_,rfl,cE.low (cE.floor hO kW.size) kW.size⟩,k4⟩):P:=h
theorem ajw(h:P:=by
 have HB:Hid (Bu m=Gi (k'+1) s0):=aY (by rw[Gi,<- HM.aX]);clear hB ha h1;go_wp2;go_round
 case rel=>exact⟨k'+1,aZ,cU,Bu m,by rw[HX.aX],hl,HB⟩
 case measure=>simp[aO];omega):P:=h
theorem alv(h:P:=by apply dD (aez R _ w H2.aX HS.aX jy);rintro v2 w2⟨hO,k2⟩;clear H2 HS jy;have HO:=aY hO;obtain⟨A2,c2,rfl⟩:=bD hO.bw;clear hO;go_wp2;go_ret;exact⟨_,rfl,HO.aX,k2⟩):P:=h
theorem Kz(h:P:=by exact⟨Ie,by rw[HR.aX];exact hF⟩):P:=h
theorem ajg(h:P:=by rw[Bool.eq_false_iff];intro hh;obtain⟨y,hy,e⟩:=Hs.1 hh;simp only[List.map_append,lT]at h;exact (List.nodup_append.1 h).2.2 (bB y) (List.mem_map_of_mem hy) (bB x) bq e):P:=h
theorem aiy(h:P:=by
 intro l;induction l with
 | nil=>simp
 | cons y l ih =>
  intro hl
  have h1:=ih λt ht=>hl t bG
  obtain⟨g1,g2⟩:=hl y bq
  grind [lX,ay5,eU,fY]):P:=h
theorem aCc(h:P:=by have HE:=aY (HA.aX ZM);go_wp2;go_ret;exact⟨_,rfl,kW,by rw[HE.aX];simp⟩):P:=h
theorem ai8(h:P:=by rw[Tz,List.flatten_cons,List.flatten_cons,ih,List.take_append,iw (l:=c) RZ,hc,show (k+1)*n-n=k*n by rw[Nat.succ_mul];omega]):P:=h
theorem amC(h:P:=by intro i hil;obtain⟨cs',hc,ht⟩:=hi i aZ;rw[hC]at hc;obtain⟨_,hcl,hat⟩:=World.cells?_some hc;refine⟨cs',hcl,hE _ _ _ hcl ht,λj hj=>?_⟩;rw[<- Go.Deep.add_add];exact hat j hj):P:=h
theorem SI(h:P:=by
 go_wp2;try rw[jt]
 exact SJ):P:=h
theorem YF(h:P:=by
 go_wp2;go_roundw
 case rel=>exact⟨j+1,aZ,cU,pG,Ls⟩
 case measure=>simp[aO];omega):P:=h
theorem YP(h:P:=by
 go_wp2;go_roundw
 case rel=>exact⟨j+1,aZ,cU,pG,uK⟩
 case measure=>simp[aO];omega):P:=h
theorem St(h:P:=by go_wp2;go_ret;exact⟨pM,k1⟩):P:=h
theorem NH(h:P:=by go_wp2;go_ret;exact⟨jD,kr⟩):P:=h
theorem SJ(h:P:=by go_ret;exact⟨jD,hb2⟩):P:=h
theorem ajO(h:P:=by
 have e9:=cN.cell;try rw[jt]
 refine aM (v:=au #[av ot,G J co]) (by simp[results,results47,go_sem,e9,eP]) rfl ?_;exact⟨_,_,_,rfl,aDl _ _,k9⟩):P:=h
theorem ZS(h:P:=by simp only[eU,qN]at this⊢;have:min j (Q l)<=16:=aZ;omega):P:=h
theorem akA(h:P:=by
 by_cases h2:b<a
 ·have HE:Hid (kM a b=1):=aY (by simp[kM,h1,h2]);go_in;exact tj
 ·have HE:Hid (kM a b=0):=aY (by simp[kM,h1,h2]);go_in;exact tj):P:=h
theorem ajY(h:P:=by simp only[dE,bU,bZ,dA,dB,bM]at hp;obtain⟨⟨LJ,LK,e3,hF⟩,-⟩:=hp;show vX _ _ _ (V 6) _;rw[e3];exact⟨rfl,hF⟩):P:=h
theorem aCe(h:P:=by
 have IZ:¬(100:Int)<(xt.size:Int):=aZ;have hr:=aY (HT.aX ⟨h1,h2⟩);go_wp2;go_round
 case rel=>exact⟨k+1,aZ,cU,hr⟩
 case measure=>simp[aO];omega):P:=h
theorem alo(h:P:=by
 rcases List.mem_append.1 h with h|h
 ·exact aI h
 ·simp at h;exact aJ ⟨x,bq,h⟩):P:=h
theorem al0(h:P:=by
 rw[aay g1 g2];split
 ·next hj =>
  exact aCf
 ·rfl):P:=h
theorem aj3(h:P:=by intro V W kW hA;simp only[bU,bZ,dx,bM,Nat.reduceAdd]at hA;refine bJ.h ?_;have kF:=k2.tr kW;go_wp2;go_ret;exact⟨pM,kF⟩):P:=h
theorem ak4(h:P:=by simp only[dE,bU,bZ,dA,dB,bM]at hp;simp[dC,bP,aC,eH,aL,bR,ed,go_sem];exact hp.1):P:=h
theorem Kw(h:P:=by go_in;go_wp2;go_ret;exact⟨rfl,K.rf w⟩):P:=h
theorem akb(h:P:=by have hz:cells.size=i.size:=bG;simp[aL,bR,hs,hx,Instr.storeAt,Instr.sureAddr,storeVar,sizeOf,typeInfo,hq,Value.cells,hz];rw[<- hz,hst];simp[Result.andThen]):P:=h
theorem alG(h:P:=by
 unfold cK;by_cases hjk:j=k
 ·grind
 ·exact aCg):P:=h
theorem Z5(h:P:=by go_wp2;go_ret3;exact⟨_,FQ,Zr,k1⟩):P:=h
theorem aiE(h:P:=by
 unfold Instr.findAsking iG;rw[h1];by_cases hk:p.1=k
 ·simp_all
 ·have hk':¬k=p.1:=λe=>hk e.symm
  simp[Sem.run_bind,he,Result.andThen,hk,hk',ih r (i+1) h3]):P:=h
theorem alZ(h:P:=by
 have hu:=underlying155;have hg:(getObj c).run prog w=.ok (.chan 8 l.toArray az s r az) w:=by simp[getObj,Sem.run,hc]
 simp[Builtin.len_,hu,hg,go_sem]):P:=h
theorem ZX(h:P:=by have h0:=IL.st kA;exact⟨h0.1.below r7 gL,h0.2.1.below r7 aZ,h0.2.2⟩):P:=h
theorem aiJ(h:P:=by
 have hch:(nX vk vn vs != 0)=true:=by simp[nX,hv]
 go_wp2;rw[jt];go_ret;exact⟨by rw[tI.aX (by rw[hT.aX];simp[mF,hv])];rfl,Dm.aX _ sY⟩):P:=h
theorem SG(h:P:=by rw[AV aZ];exact h.pre j hj Zj):P:=h
theorem NF(h:P:=by go_wp2;go_ret2;exact⟨pM,k1⟩):P:=h
theorem akV(h:P:=by
 have tX:=aY Cm;go_wp2;go_roundw
 case rel=>exact⟨j+1,aZ,cU,Tn,ry⟩
 case measure=>simp[aO];omega):P:=h
theorem akS(h:P:=by
 have tX:=aY D6;go_wp2;go_roundw
 case rel=>exact⟨j+1,aZ,cU,Tn,jo⟩
 case measure=>simp[aO];omega):P:=h
theorem akT(h:P:=by
 have tX:=aY Fl;go_wp2;go_roundw
 case rel=>exact⟨j+1,aZ,cU,Tn,oq⟩
 case measure=>simp[aO];omega):P:=h
theorem akU(h:P:=by
 have tX:=aY xA;go_wp2;go_roundw
 case rel=>exact⟨j+1,aZ,cU,Tn,qh⟩
 case measure=>simp[aO];omega):P:=h
theorem ajU(h:P:=by simp only[dE,bU,bZ,dA,dB,bM]at hp;exact⟨rfl,amc⟩):P:=h
theorem ajV(h:P:=by simp only[dE,bU,bZ,dA,dB,bM]at hp;exact⟨rfl,amd⟩):P:=h
theorem alB(h:P:=by have g1:=eM (cL a.1) (jb _);have g2:=eM a.2.1 h.2.1;have g3:=eM a.2.2 h.2.2;unfold iy;simp only[eU];omega):P:=h
theorem ahX(h:P:=by refine⟨h.1,h.2.imp id ?_⟩;rintro ⟨g,cap,cur,h1,h2,h3,h4⟩;exact⟨g,cap,cur,h1,h2,(hb.block g (aG.1 h3).1).trans h3,h4⟩):P:=h
theorem aiM(h:P:=by
 have e3:((Q es:Int)==0)=false:=by rw[TD,O3]
 have HB:Hid (ai=110):=aY (by rw[HE.aX,O3];rfl);go_wp2;go_ret;exact⟨H5,cT⟩):P:=h
theorem ajx(h:P:=by have HR:Hid (R=30/\ag=[]):=aY ⟨HC.aX,HF.aX⟩;go_wp2;go_ret2;exact⟨_,by rw[HR.aX.1];rfl,by rw[HR.aX.2];exact mr _ _ _ _,kk⟩):P:=h
theorem als(h:P:=by
 intro w2 k2 kW;cases hx:q x
 ·exact am2
 ·have HE:=aY (Mh.aX ZM);exact Y7):P:=h
theorem aie(h:P:=by
 have h':=h;rcases h.2 with ⟨rfl,h0⟩|⟨g,cap,cur,rfl,_,_,hn,hc,_⟩
 ·grind [List.eq_nil_of_length_eq_zero,Reads.AW]
 ·grind [Reads.AW]):P:=h
theorem aim(h:P:=by
 have HE:=aY (tI.aX (by
  rw[HT.aX,bO cG,bO cG];simp;omega))
 go_wp2;go_ret;exact⟨jD,hb0⟩):P:=h
theorem aiu(h:P:=by obtain⟨HE,HL⟩:=Uq.aX az Kj;go_wp2;go_ret2;exact⟨_,jD,R8,aaS⟩):P:=h
theorem alu(h:P:=by
 have gJ:¬(k:Int)<Q l:=aZ;have HE:=aY (by
  have:=hall.aX;rw[iw aZ]at this;exact this)
 exact NH):P:=h
theorem aiI(h:P:=by go_wp2;rw[jt];go_ret;exact⟨by rw[tI.aX (by rw[hT.aX];simp[mF,hn])];rfl,Dm.aX _ ((ed _ _).alloc (bL _) _)⟩):P:=h
theorem ai6(h:P:=by
 refine aY λh x hx=>?_
 rw[ix hlt]at hx;rcases List.mem_append.1 hx with hx|hx
 ·exact hall.aX x hx
 ·grind):P:=h
theorem S7(h:P:=by
 go_in;go_wp2_with fail
 apply bN C1.aX;exact am1):P:=h
theorem ait(h:P:=by obtain⟨HE,HL⟩:=Uq.aX az YB;go_wp2;go_ret2;exact⟨_,jD,R8,hb⟩):P:=h
theorem aj9(h:P:=by
 have HO:=aY fu;go_wp2;go_roundw
 case rel=>exact⟨j+1,aZ,cU,by rw[HQ.aX];exact HO.aX,k5⟩
 case measure=>simp[aO];omega):P:=h
theorem aio(h:P:=by
 intro x hx;rw[ix h]at hx;rcases List.mem_append.1 hx with hx|hx
 ·exact ha x hx
 ·simp at hx;rw[hx];exact hb):P:=h
theorem amL(h:P:=by
 go_wp2;go_roundw
 case rel=>exact⟨j+1,aZ,cU,by rw[HF.aX];exact hO,kr,by rw[HF.aX];omega⟩
 case measure=>simp[aO];omega):P:=h
theorem aiK(h:P:=by
 go_wp2;go_roundw
 case rel=>exact⟨k+1,aZ,cU,cU,hr,Dm.aX _ (below_drewN sY _)⟩
 case measure=>simp[aO];omega):P:=h
theorem aiR(h:P:=by
 go_in;go_wp2_with fail
 apply bN hch.aX;intro w1 cD;go_wp2;go_ret2;exact⟨_,rfl,Yy,cD⟩):P:=h
theorem Yv(h:P:=by unfold bJ;rw[hg,bT (show dC V U=aA from rfl),hx];exact h):P:=h
theorem aiH(h:P:=by clear hR;generalize Q l=n at *;go_in;go_wp2;go_step3;go_wp2;rw[jt];exact Yk):P:=h
theorem Sl(h:P:=by rw[bO aZ];exact⟨rfl,ed _ _⟩):P:=h
theorem akK(h:P:=by simp[dC,bP,aC,hp,eH,aL,bR,qx,qo,go_sem];apply dD (QX x _ W (HE.aX _ (k1.tr kW)) hs);exact aki):P:=h
theorem Yz(h:P:=by have:=hcell 0 bC;rw[kr.cell aZ];simpa [dS]using this):P:=h
theorem aji(h:P:=by have z3:=Tt e3;have HQ:Hid (jY m=130):=aY (by unfold jY;rw[show fI m=az from by simp[fI,uC,e3]];rfl);exact St):P:=h
theorem ajj(h:P:=by have z4:=Tt e4;have HQ:Hid (jY m=130):=aY (by unfold jY;rw[show fI m=az from by simp[fI,uC,e4]];rfl);exact St):P:=h
theorem alO(h:P:=by simp[dC,bP,aC,hp,eH,aL,bR,bM,q2,VV,wI,go_sem];refine (C3.aX W kW).mono ?_;rintro e w4⟨rfl,k4⟩;grind):P:=h
theorem ah2(h:P:=by
 refine⟨rfl,?_,?_⟩
 ·exact aCb
 ·exact AO (AO (AO (qJ hgr hw.2) bq _) bq _) bq _):P:=h
theorem aiD(h:P:=by simp[Builtin.delete_,hts,run_underlying hT,MapKept.run_getObj_map h1,KG.nX,hf,MapKept.run_setObj_map _ h1,Result.andThen,setBlock]):P:=h
theorem akP(h:P:=by
 go_wp2;go_roundw
 case rel=>exact⟨j+1,aZ,cU,by rw[<- jz.aX,HP.aX];exact fu,oq⟩
 case measure=>simp[aO];omega):P:=h
theorem aiL(h:P:=by have HE:Hid (ai=110):=aY (by rw[<- zf];exact Hm (by simp[dm];omega));go_wp2;go_ret;exact⟨jD,cT⟩):P:=h
theorem aj2(h:P:=by rintro v3 w3⟨hO,k3⟩;have HW:=aY (cE.low (cE.floor hO cT.size) cT.size);replace cT:=cT.tr k3;go_wp2;exact am0):P:=h
theorem akY(h:P:=by simp[dC,bP,aC,hp,eH,aL,bR,bM,q2,Cf,go_sem];refine (C4.aX W kW).mono ?_;rintro e w4⟨rfl,k4⟩;grind):P:=h
theorem aiv(h:P:=by obtain⟨HE,HL⟩:=Uq.aX aA Kj;go_wp2;go_ret2;exact⟨_,jD,by rw[HL.aX];exact TC,aaS⟩):P:=h
theorem amQ(h:P:=by
 rw[hok,zY];go_wp2_with fail
 refine CS.aX.mono ?_;rintro e w6⟨rfl,k6⟩;have kF:=DH.tr k6;go_wp2;go_ret;exact⟨rfl,kF⟩):P:=h
theorem Nv(h:P:=by go_ret;exact⟨jD,hb⟩):P:=h
theorem ajG(h:P:=by
 unfold Db jw;split
 ·rename_i h;simp only[fB,decide_eq_true_eq]at h;rw[Ek,zI];omega
 ·simp):P:=h
theorem aCg(h:P:=by rw[bO hjk];exact WW (Le:=λw w'=>aN (Z (D w)) w w') st _ _ _ _ (hp j ((AK hj).resolve_left hjk)) hb):P:=h
theorem ajd(h:P:=by
 go_wp2;go_roundw
 case rel=>exact⟨j+1,aZ,cU,aY ⟨_,_,_,HS9.aX⟩,k9⟩
 case measure=>simp[aO];omega):P:=h
theorem aCf(h:P:=by have:=hU j i al1 h1 (((h.ls j _ g2).1.trans hj).trans h3.symm);subst this;exact Prod.ext rfl oh.symm):P:=h
theorem akm(h:P:=by refine (C5.aX W kW).mono ?_;rintro e w4⟨v4,rfl,hO,k4⟩;exact alm):P:=h
theorem amT(h:P:=by
 go_wp2;go_roundw
 case rel=>exact⟨j+1,aZ,cU,by rw[oX.aX];exact cR,kF⟩
 case measure=>simp[aO];omega):P:=h
theorem al7(h:P:=by
 rw[hu]at HR C2;go_in;go_wp2_with fail
 apply bN C1.aX;rintro w' rfl;go_wp2_with fail
 apply bN C2.aX;exact am1):P:=h
theorem aik(h:P:=by rw[ih aZ];simp only;rw[hd,xV,fN,C.fwd _ hx,ix hk']):P:=h
theorem ah1(h:P:=by
 go_wp2;all_goals
  go_ret
  refine⟨rfl,Dm _ _ _ aZ (λhpos=>?_) aZ aZ⟩
  first|rfl|omega):P:=h
theorem akN(h:P:=by
 rcases fO with h|h
 ·exact aI (h▸hk)
 ·rw[h]at hk;injection hk with hk;have:=kW.size;exact aJ aZ):P:=h
theorem SN(h:P:=by go_wp2;go_ret;exact⟨FQ,kG⟩):P:=h
theorem Z0(h:P:=by clear HO HJ gZ HQ;go_wp2;go_ret;exact⟨_,rfl,HL.aX,Fe,uj⟩):P:=h
theorem ami(h:P:=by go_wp2;go_ret2;exact⟨_,_,ib,by rw[HR.aX];exact λ_ _=>gN _ _,by rw[HR.aX];exact HF.aX.m⟩):P:=h
theorem ah6(h:P:=by have hn:Hid (vF s=az):=aY (by simp[vF];omega);go_in;go_wp2;go_ret;exact⟨by rw[hn.aX];rfl,rfl⟩):P:=h
theorem Z3(h:P:=by
 go_wp2;go_meet
 case rel=>exact⟨_,_,_,_,_,_,_,_,_,_,aT,HD⟩):P:=h
theorem Ta(h:P:=by simp[bP,aC,aL,bR,go_sem]):P:=h
theorem ajH(h:P:=by
 rw[HF.aX];split
 ·rename_i ho;have:=ae6 rs;rw[afI ho]at this;simp only;omega
 ·simp):P:=h
theorem Tc(h:P:=by exact absurd (h.blk.js hb) bC):P:=h
theorem ail(h:P:=by rw[List.flatMap_append,xV,List.flatMap_nil,List.append_nil,fN,<- e1];exact e2):P:=h
theorem alf(h:P:=by intro v9 w9 cR dF fO cN;have aoQ:=tX.push cR dF vE;exact amZ):P:=h
theorem ajQ(h:P:=by
 rcases hx with hx|hx|hx
 ·omega
 ·have:=(zP.aX.blk k hx).1;have:=HZ1.aX;right;omega
 ·exact aI hx):P:=h
theorem alE(h:P:=by
 split
 ·exact⟨⟨List.prefix_refl _,List.prefix_refl _,rfl⟩,⟨h.ab,h.prom⟩⟩
 ·grind [iL.rf]):P:=h
theorem ajs(h:P:=by
 have:=ke hown' (bf.dc (X:=λk=>k=B0) rfl 0 v') λb hb e=>Ox (by rw[hb,e])
 simpa using this):P:=h
theorem aka(h:P:=by rw[iw aZ]at hO;have HO:=aY hO;exact Y6):P:=h
theorem ak5(h:P:=by
 exact hr.less λk hk=>by
  rcases hk with hk|hk
  ·exact hk
  ·have:=Ub k hk;exact aJ aZ):P:=h
theorem Sv(h:P:=by exact absurd (h1.js hx2) bC):P:=h
theorem ak6(h:P:=by
 rcases Iw with e|e
 ·exact aI (aJ (e▸h))
 ·rw[e]at h;injection h with h;simp at hk;omega):P:=h
theorem amK(h:P:=by generalize (l.take j).filter pT=ag at *;go_wp2;go_ret;exact⟨_,rfl,by rw[hE.aX];exact HO.aX,kr⟩):P:=h
theorem ajr(h:P:=by obtain⟨cur,hb⟩:=nK KM ej;unfold bn at hb;rw[hb]at hj;injection hj with hj;rw[<- hj];rfl):P:=h
theorem Y2(h:P:=by exact⟨_,_,rfl,rfl,rfl,λV W _ _=>axz _ _ _⟩):P:=h
theorem amI(h:P:=by
 refine aY λh j hj hjk=>?_
 by_cases e:j=k
 ·subst e;exact h
 ·exact hall.aX j hj aZ):P:=h
theorem aiF(h:P:=by
 cases bu with
 | nil=>simp[Instr.findKey,run_underlying hu,Instr.findNow,iG]
 | cons p r=>simp at h):P:=h
theorem aiS(h:P:=by
 go_wp2;go_roundw
 case rel=>exact⟨k+1,aZ,cU,ij,OX⟩
 case measure=>simp[aO];omega):P:=h
theorem Su(h:P:=by go_ret;exact⟨by rw[ku.aX];rfl,k1⟩):P:=h
theorem al8(h:P:=by simp[dC,aL,bR,eH];exact⟨⟨_,rfl,kW.size,0,0,heap_alloc_new W _⟩,(K.rf W).al _⟩):P:=h
theorem amA(h:P:=by go_wp2;go_ret2;exact⟨_,Tf,by rw[hR.aX];exact gN _ _,by rw[hR.aX];simp,kk⟩):P:=h
theorem ahW(h:P:=by refine⟨h.1,h.2.imp id ?_⟩;rintro ⟨g,cap,cur,h1,h2,h3⟩;exact⟨g,cap,cur,h1,aZ,h3⟩):P:=h
theorem akD(h:P:=by have:=hall.aX l[j] (List.mem_take_iff_getElem.2 ⟨j,aZ,rfl⟩);rw[h1]at this;cases this):P:=h
theorem alF(h:P:=by have:=h.told;have:=h.calls;exact⟨h1,h.fit.same h2.1 ⟨h2.2.1,h2.2.2.1⟩,bG,aZ⟩):P:=h
theorem aic(h:P:=by rintro v w w'⟨A,c,rfl,hr⟩ hb;exact⟨A,c,rfl,(hr.below hb (bL _)).more hb.size⟩):P:=h
theorem aip(h:P:=by go_wp2;go_ret2;exact⟨_,jD,R8,fw⟩):P:=h
theorem Yw(h:P:=by go_wp2;go_ret;exact⟨H5,cT.tr k3⟩):P:=h
theorem Zp(h:P:=by have gJ:¬(k:Int)<Q l:=aZ;exact akQ):P:=h
theorem Yk(h:P:=by go_ret;exact⟨jD,ed _ _⟩):P:=h
theorem YX(h:P:=by obtain⟨mh,Gy,e,h1,h2⟩:=hrl W k;exact Sq):P:=h
theorem alI(h:P:=by
 cases l with
 | nil=>exact aI rfl
 | cons x l=>exact aJ ⟨aw x.1,bq,bq⟩):P:=h
theorem amS(h:P:=by
 cases hx:O.cur[c.toNat]? with
 | none=>rfl
 | some x=>exact h.cur x (List.mem_of_getElem? hx)):P:=h
theorem Sz(h:P:=by go_wp2;go_ret;exact⟨_,rfl,hO,kr⟩):P:=h
theorem ahY(h:P:=by exact⟨v',w',hrun,h2,h3,h5,(ed _ _).grown h3 hbase λk hk=>(hown.lt k hk).1⟩):P:=h
theorem Yd(h:P:=by simp[Act.put,Array.getElem?_setIfInBounds_ne hne]):P:=h
theorem Y0(h:P:=by exact⟨⟨kW.size,fC.new W⟩,(K.rf W).al _⟩):P:=h
theorem ala(h:P:=by
 rcases P4 k hk with h|h
 ·exact JF.aX k h
 ·have:=Vt.aX.size;exact aJ aZ):P:=h
theorem aly(h:P:=by
 rcases List.mem_append.1 hg with hg|hg
 ·exact VB g hg
 ·simp at hg;subst hg;exact E1):P:=h
theorem amq(h:P:=by gi_wp2;exact⟨⟨HF.aX.1 _ (aI hz2.symm),HF.aX.1 _ (aJ aZ)⟩,HF.aX.2⟩):P:=h
theorem S4(h:P:=by exact ho s (List.mem_filter.1 hs).1):P:=h
theorem Tb(h:P:=by go_wp2;go_ret;exact⟨rfl,HF.aX⟩):P:=h
theorem ajq(h:P:=by
 rcases hown'.2 with ⟨-,h0⟩|⟨g',cap',cur',e,-⟩
 ·omega
 ·exact⟨g',cap',e⟩):P:=h
theorem akr(h:P:=by intro v9 w9 cR dF _ cN;rw[<- pG.aX]at cR;have kp:=eD.trans cN;exact Zy):P:=h
theorem aaa(h:P:=by exact⟨this.1,this.2.up u λk e=>e▸hM⟩):P:=h
theorem ajP(h:P:=by intro b hb;obtain⟨r,hr,rfl⟩:=List.mem_map.1 hb;exact XM (hG.gQ r hr).2.2):P:=h
theorem Td(h:P:=by exact⟨rfl,bf.rf _ _,gm,bu,h⟩):P:=h
theorem aiB(h:P:=by obtain⟨vf,ve,rfl,h1,h2⟩:=h;exact⟨vf,ve,rfl,fJ _ _ _ _ h1 k,cH h2 k⟩):P:=h
theorem YM(h:P:=by go_wp2;go_ret;exact⟨ib,uK⟩):P:=h
theorem akj(h:P:=by rw[wT aZ]at hL;rw[AV aZ,wT aZ];exact h.al hL):P:=h
theorem Y7(h:P:=by go_wp2;go_ret;exact⟨jD,kW⟩):P:=h
theorem alb(h:P:=by
 rcases P4 k h with h|h
 ·exact Cn.aX k hk h
 ·have:=(HBL.aX k hk).2;omega):P:=h
theorem aar(h:P:=by go_wp2;go_ret;exact⟨jD,k⟩):P:=h
theorem ai2(h:P:=by
 split
 ·unfold iq;split
  ·exact hl
  ·exact hl.erase _
 ·exact hl):P:=h
theorem aln(h:P:=by
 split at h
 ·exact aI h
 ·split at h
  ·exact aI h
  ·exact alo):P:=h
theorem ajt(h:P:=by obtain⟨cur,hb⟩:=nK hrow h2;unfold bn at hb;rw[e,hK]at hb;cases hb):P:=h
theorem ajf(h:P:=by
 rcases hk with ⟨g,_⟩|⟨_,g,_⟩|⟨g,_⟩
 ·omega
 ·exact g
 ·omega):P:=h
theorem YV(h:P:=by exact absurd (h1.js h.blk) bC):P:=h
theorem aiZ(h:P:=by obtain⟨_,_,he,h1,_⟩:=aa1.aX _ (UX.tr u);simp at he;rw[he.1];exact h1):P:=h
theorem ai0(h:P:=by obtain⟨_,_,he,_,h1⟩:=aa1.aX _ (UX.tr u);simp at he;rw[he.2];exact h1):P:=h
theorem alC(h:P:=by have HS:=aY hs;go_wp2;go_ret;exact⟨_,rfl,HS.aX,k1.tr (k2.tr k3)⟩):P:=h
theorem ajb(h:P:=by go_wp2;go_ret;exact⟨pM,by rw[HQ.aX];exact HS.aX,rh⟩):P:=h
theorem akz(h:P:=by have HE:Hid (kM a b=-1):=aY (by simp[kM,h1]);go_in;exact tj):P:=h
theorem akF(h:P:=by exact ((fw.setCell bq _).setCell bq _).setCell bq _):P:=h
theorem ZF(h:P:=by exact⟨rfl,by rw[HF.aX];exact HN.aX⟩):P:=h
theorem ajl(h:P:=by have HR:=aY (no.aX λh=>by have:=ud h;omega);exact CJ):P:=h
theorem amz(h:P:=by simp[dC,bP,aC,e,eH,aL,bR,bM,ed,go_sem]):P:=h
theorem amN(h:P:=by have abI:(500:Int)<Q ops:=aZ;go_wp2;go_ret;exact⟨rfl,k1⟩):P:=h
theorem Y6(h:P:=by go_wp2;go_ret;exact⟨_,rfl,HO.aX,kr⟩):P:=h
theorem akl(h:P:=by go_wp2;go_ret;exact⟨by rw[HRF.aX];rfl,by rw[HRF.aX];exact HF.aX⟩):P:=h
theorem alr(h:P:=by intro w2 k2 kF;go_wp2;go_ret;exact⟨by rw[HR.aX];first|done|rfl,kF⟩):P:=h
theorem ZU(h:P:=by go_wp2;go_ret;exact⟨_,rfl,HS.aX,kr⟩):P:=h
theorem alU(h:P:=by go_wp2;go_ret;exact⟨by rw[HQ2.aX];rfl,by rw[HQ2.aX];exact HN.aX⟩):P:=h
theorem alP(h:P:=by
 refine bJ.e ?_;go_wp2_with fail
 go_meet
 case rel=>exact⟨rfl,kW⟩):P:=h
theorem al4(h:P:=by have HR:=aY (show R=aA by rw[HI.aX];simp[h0,h1]);exact NY):P:=h
theorem amM(h:P:=by have cd:¬(j:Int)<Q l:=aZ;go_wp2;go_ret;exact⟨rfl,kr⟩):P:=h
theorem ai3(h:P:=by simp at hu;rcases hu with rfl|rfl|rfl|rfl|rfl|rfl|rfl|rfl|rfl <;> rfl):P:=h
theorem ai9(h:P:=by have:=congrArg (List.drop 1) h.post;simpa [List.drop_drop]using this):P:=h
theorem ajm(h:P:=by have HR:Hid (R=az):=aY (by rw[HC.aX];simp[h0]);exact CJ):P:=h
theorem ajn(h:P:=by
 go_wp2;try rw[jt]
 go_ret;exact⟨ib,k1⟩):P:=h
theorem alR(h:P:=by go_wp2;go_ret;exact⟨ib,by rw[HR.aX];exact HN.aX⟩):P:=h
theorem amn(h:P:=by exact⟨v,_,rfl,aI ⟨rfl,by grind [nJ],h.TL hv h2 u⟩⟩):P:=h
theorem aiT(h:P:=by have h4:=List.all_eq_true.1 h1.2 y (by simpa using hy);exact ah9):P:=h
theorem al5(h:P:=by have HR:=aY (show R=az by rw[HI.aX];simp[h1]);exact NY):P:=h
theorem al6(h:P:=by have HR:=aY (show R=az by rw[HI.aX];simp[h0]);exact NY):P:=h
theorem ame(h:P:=by
 go_in;go_wp2_with fail
 apply bN C1.aX;rintro w' rfl;exact NY):P:=h
theorem XZ(h:P:=by go_in;go_wp2;go_ret;exact⟨rfl,rfl⟩):P:=h
theorem aiN(h:P:=by have HR:Hid (R=az):=aY (by rw[HO.aX,he];rfl);exact Sb):P:=h
theorem ak7(h:P:=by exact cQ (K1.aX.low k (aI (aI h))) zj.size):P:=h
theorem akR(h:P:=by intro v9 w9 cR dF fO cN;have yO:=sD.trans cN;exact Zv):P:=h
theorem aiA(h:P:=by simp at hu;rcases hu with rfl|rfl|rfl|rfl|rfl|rfl|rfl|rfl <;> rfl):P:=h
theorem ajZ(h:P:=by have HW:=aY (cE.low (cE.floor hO oV) oV);exact Ko):P:=h
theorem amG(h:P:=by have:=World.block_lt_of_cell? w _ BZ;simpa [Addr.add]using this):P:=h
theorem alA(h:P:=by
 clear hr;go_wp2_with fail
 go_meet
 case rel=>exact⟨e.aX,rfl⟩):P:=h
theorem aiw(h:P:=by obtain⟨css,h1,h2,h3⟩:=h;exact⟨css,oy hb h1,h2,h3⟩):P:=h
theorem aiO(h:P:=by have HR:Hid (R=m):=aY (by rw[HO.aX,he];rfl);exact Sb):P:=h
theorem ajE(h:P:=by go_ret;exact⟨_,ib,by rw[HR.aX];exact hV,hU⟩):P:=h
theorem amr(h:P:=by exact⟨Nc _ _ _,Nd hf (by simp at h0⊢;omega)⟩):P:=h
theorem air(h:P:=by rw[HF.aX];unfold iF;simpa [List.flatMap_append]using jc):P:=h
theorem akJ(h:P:=by simp only[binOp,Sem.run_bind,h,Result.andThen_ok,Sem.run_pure]):P:=h
theorem akv(h:P:=by go_wp2;go_ret;exact⟨_,rfl,by rw[nH.aX];exact HO.aX,kF⟩):P:=h
theorem akL(h:P:=by
 simp only[bP,aC];exact h3.less λk hk=>by
  grind):P:=h
theorem alm(h:P:=by exact⟨_,rfl,cE.low (cE.floor hO kW.size) kW.size,k4⟩):P:=h
theorem ah5(h:P:=by rw[ix h,List.all_append];simp):P:=h
theorem ajh(h:P:=by go_in;go_wp2;go_ret;exact⟨by rw[HR.aX];simp[h0,h1],k1⟩):P:=h
theorem aje(h:P:=by rw[ix h,List.map_append];rfl):P:=h
theorem ahZ(h:P:=by have:=(aF.1 hu).1;simpa using this):P:=h
theorem akt(h:P:=by have kk:=K.rf w;go_in;go_wp2;go_ret;exact⟨bq,kk⟩):P:=h
theorem alc(h:P:=by
 rcases hk with h|h
 ·exact aI (aI h)
 ·exact aJ h):P:=h
theorem alD(h:P:=by rintro e w4⟨v4,rfl,hO,k4⟩;exact⟨_,rfl,hO.now,k4⟩):P:=h
end Go.Proofs.YtcjlnlcpodcldaaGreat
