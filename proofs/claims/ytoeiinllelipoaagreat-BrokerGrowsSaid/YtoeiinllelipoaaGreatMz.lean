/-
  Scripts of tactics. Conditions: none.
-/
import Derived.ProofKit
import Derived.WalkKit
import Derived.WalkLawsBesides
import Derived.WalkSpells
import Derived.Deep.Draws
import Derived.Deep.AppendLies
import Derived.Maps.AppendAt
import Derived.Laws.CopyOwn
import Derived.Lib.Hide
import Derived.ScopeJumps
import Derived.Laws.IdiomStrings
import Derived.Laws.BytesArg
import Derived.WalkMore
import Derived.BigQuiet
import Derived.Deep.QuietTactic
import Derived.OpenShut
import Derived.ShutString
import Derived.ChangeOld
import Derived.Below
import Derived.Lib.SmallJoins
import Derived.Deep.Slices
import Derived.Deep.Fields
import Derived.Deep.CutRange
import Derived.Deep.LoopGhost
import Derived.Orders
import Derived.IntWalk
import Derived.Deep.RegionHeld3
import Derived.Deep.DrawnRows
import Derived.Deep.CutBlock
import Derived.Maps.OwnSet
import Derived.Carry
import Derived.Laws.BitsAllLaws
import Derived.RangeFuncKeeps
import Derived.RangeFuncLeaves
import Derived.RangeFuncFrom
import Derived.RangeFuncBox
import Derived.Shelf.Abstract
import Derived.OwnWalkIn
import Derived.TacticsInMore
import Derived.LoopNIn
import Derived.LoopIn
import Derived.Deep.RegionLaw
import Derived.Lib.SlicesDelete
import Derived.Sort.MapsRangeIn
import Derived.RangeFuncGives
import Derived.RangeFuncNested
import Derived.Shelf.SlSortCmp.WholeK
import Derived.Shelf.SlSortCmp.NoneTotal
import Derived.Shelf.Lay
import Derived.Ground.SlsfProg
namespace Go.Proofs.YtoeiinllelipoaaGreat
open Go Go.RowKit
set_option linter.unusedVariables false
variable {P:Prop}
theorem aG:type_of% @Nat.le_refl:=@Nat.le_refl
theorem bB:type_of% @Nat.lt_of_lt_of_le:=@Nat.lt_of_lt_of_le
theorem bq:type_of% @Nat.le_trans:=@Nat.le_trans
theorem aN:type_of% @Below.refl:=@Below.refl
theorem bW:type_of% @List.getElem_mem:=@List.getElem_mem
theorem gE:type_of% @List.take_succ_eq_append_getElem:=@List.take_succ_eq_append_getElem
theorem eT:type_of% @List.take_of_length_le:=@List.take_of_length_le
theorem aI:type_of% @List.forall_mem_cons:=@List.forall_mem_cons
theorem aM:type_of% @List.cons_append:=@List.cons_append
theorem aJ:type_of% @List.nil_append:=@List.nil_append
theorem cO:type_of% @List.setIfInBounds_toArray:=@List.setIfInBounds_toArray
theorem cL:type_of% @List.set_cons_zero:=@List.set_cons_zero
theorem cM:type_of% @List.set_cons_succ:=@List.set_cons_succ
theorem dR:type_of% @List.take_succ_cons:=@List.take_succ_cons
theorem ew:type_of% @List.drop_succ_cons:=@List.drop_succ_cons
theorem dN:type_of% @List.take_zero:=@List.take_zero
theorem dP:type_of% @List.drop_zero:=@List.drop_zero
theorem cz:type_of% @Bool.and_eq_true:=@Bool.and_eq_true
theorem cT:type_of% @List.length_append:=@List.length_append
theorem dG:type_of% @List.append_assoc:=@List.append_assoc
theorem pU:type_of% @List.all_eq_true:=@List.all_eq_true
theorem xG:type_of% @List.mem_append:=@List.mem_append
theorem iE:type_of% @List.length_cons:=@List.length_cons
theorem lV:type_of% @List.length_filter_le:=@List.length_filter_le
theorem lE:type_of% @List.mem_of_mem_take:=@List.mem_of_mem_take
theorem iF:type_of% @World.ownsRow_nil:=@World.ownsRow_nil
theorem gS:type_of% @Exit.noGoto_ret:=@Exit.noGoto_ret
theorem pg:type_of% @World.ownsRow.alloc:=@World.ownsRow.alloc
theorem j9:type_of% @List.map_cons:=@List.map_cons
theorem oc:type_of% @List.flatMap_cons:=@List.flatMap_cons
theorem od:type_of% @List.length_take:=@List.length_take
theorem fw:type_of% @Nat.zero_le:=@Nat.zero_le
theorem fP:type_of% @Nat.zero_add:=@Nat.zero_add
theorem mC:type_of% @List.take_length:=@List.take_length
theorem ae(h:P):Hid P:=h
theorem _root_.Go.RowKit.Hid.aa(h:Hid P):P:=h
theorem ak(h:P:=by kernel_rfl):P:=h
theorem vR(h:P:=by cases h):P:=h
theorem avq(h:P:=by unfold Func.isWrapper;first|(rw[if_pos (by decide +kernel)];kernel_rfl)|(rw[if_neg (by decide +kernel)];exact⟨rfl,rfl⟩)):P:=h
theorem aj(h:P:=by simp):P:=h
theorem af(h:P:=by omega):P:=h
theorem aU(h:P:=by simp;omega):P:=h
theorem adP(h:P:=by simpa [World.setCell]using h.size):P:=h
theorem adQ(h:P:=by intro e;injection e with e;omega):P:=h
theorem UH(h:P:=by simp[dy]):P:=h
theorem E4(h:P:=by simpa using hR.len):P:=h
theorem rT(h:P:=by simpa using h):P:=h
theorem Dp(h:P:=by unfold maxLen;omega):P:=h
theorem UJ(h:P:=by rw[hz2];omega):P:=h
theorem OJ(h:P:=by simpa using h0):P:=h
theorem bO(h:P:=by go_num):P:=h
theorem au(h:P:=by decide):P:=h
theorem UQ(h:P:=by unfold bf;omega):P:=h
theorem pc(h:P:=by simpa using hk):P:=h
theorem tQ(h:P:=by simp[h]):P:=h
theorem E5(h:P:=by simpa using h4):P:=h
theorem UM(h:P:=by simp[results,results251,go_sem,e0,e1,e2]):P:=h
theorem OL(h:P:=by rw[hc,Nat.succ_mul];omega):P:=h
theorem Bc(h:P:=by simpa using hi):P:=h
theorem ad5(h:P:=by rw[<- h1];exact AQ C css λcs hcs=>(h2 cs hcs).1):P:=h
theorem ad6(h:P:=by rw[Nat.mul_comm];exact (Nat.div_add_mod q C).symm):P:=h
theorem ad7(h:P:=by rwa [Nat.mul_comm]at hq):P:=h
theorem UN(h:P:=by show bU a;unfold bU;omega):P:=h
theorem Ko(h:P:=by simp[h2]):P:=h
theorem Kq(h:P:=by trivial):P:=h
theorem vT(h:P:=by simpa using hj):P:=h
theorem aee(h:P:=by simpa using List.all_eq_true.1 h1 j hj):P:=h
theorem US(h:P:=by simpa [hlt]using ru):P:=h
theorem yQ(h:P:=by simp at h):P:=h
theorem Kr(h:P:=by simpa using hy):P:=h
theorem UT(h:P:=by simp[Op.bytesLess]):P:=h
theorem OO(h:P:=by intro cs hcs;obtain⟨y,_,rfl⟩:=List.mem_map.1 hcs;rfl):P:=h
theorem UX(h:P:=by rw[List.getElem_cons_drop]):P:=h
theorem Ip(h:P:=by simpa using h1):P:=h
theorem Kx(h:P:=by simp[e8]):P:=h
theorem Ky(h:P:=by simp[e7]):P:=h
theorem OQ(h:P:=by simp[ByteArray.size]):P:=h
theorem fL(h:P:=by rw[HE.aa];rfl):P:=h
theorem OS(h:P:=by rw[HC.aa,hv]):P:=h
theorem aet(h:P:=by rw[HE.aa,hv,hk];rfl):P:=h
theorem Kz(h:P:=by rw[HE.aa]):P:=h
theorem aew(h:P:=by intro e;injection e with e;exact hgh e.symm):P:=h
theorem OV(h:P:=by rw[HL.aa];exact iF _ _ _ _):P:=h
theorem OW(h:P:=by simp[mc,hok]):P:=h
theorem UZ(h:P:=by have:=h.1;omega):P:=h
theorem Dr(h:P:=by simp[h.1]):P:=h
theorem U0(h:P:=by simp at hi;omega):P:=h
theorem U1(h:P:=by simp at hi';omega):P:=h
theorem KB(h:P:=by simpa using ho):P:=h
theorem aeG(h:P:=by rw[aeF];simp at fT;omega):P:=h
theorem Iq(h:P:=by simpa using e):P:=h
theorem OX(h:P:=by simp only[mW];omega):P:=h
theorem Ds(h:P:=by simp[hx]):P:=h
theorem Vh(h:P:=by simp[World.setCell]):P:=h
theorem E7(h:P:=by rw[HB.aa];rfl):P:=h
theorem Vj(h:P:=by rw[HE.aa,hok];rfl):P:=h
theorem aeW(h:P:=by rw[HO.aa];simp[hn]):P:=h
theorem fo(h:P:=by rw[HR.aa];rfl):P:=h
theorem KC(h:P:=by simpa using h5):P:=h
theorem O1(h:P:=by simp[jm,hok]):P:=h
theorem aeZ(h:P:=by rw[show (dh s).length=s.size from by simp,dG (aD l.length++T)]):P:=h
theorem Vk(h:P:=by rw[HR.aa];exact iF _ _ _ _):P:=h
theorem Vn(h:P:=by have:=D.o;omega):P:=h
theorem pO(h:P:=by rw[World.size_alloc];exact dc):P:=h
theorem Vo(h:P:=by have:=(ll k e.symm).2;omega):P:=h
theorem O3(h:P:=by rw[hd,hok];rfl):P:=h
theorem ae2(h:P:=by simp[results,results176,go_sem,e9]):P:=h
theorem av1(h:P:=by unfold bV;rw[if_neg (by omega),if_neg (by omega)];simp):P:=h
theorem E9(h:P:=by simp[rW,hok]):P:=h
theorem KD(h:P:=by simp[tR,hok]):P:=h
theorem ae5(h:P:=by simp;rintro rfl;exact hl rfl):P:=h
theorem tS(h:P:=by exact hg _ _ hc0 (Below.drew (aN _ _))):P:=h
theorem avN(h:P:=by rw[HI.aa,show decide (pD=sC)=false from by simp;exact λe=>hle (by rw[e])];simp):P:=h
theorem Vp(h:P:=by have:=Jc.aa;omega):P:=h
theorem Vq(h:P:=by simpa using aO):P:=h
theorem KF(h:P:=by rw[HS.aa,hq];simp):P:=h
theorem KH(h:P:=by rw[HS.aa,hq,HT.aa];rfl):P:=h
theorem avO(h:P:=by refine⟨by simp[uk,bU],hi.1,hc,hi.2.1,hi.2.2,by simp[uk],by simp[uk],by simp[uk]⟩):P:=h
theorem KJ(h:P:=by simp[World.setCell];omega):P:=h
theorem Fa(h:P:=by simpa using aX.nil _ _ _ _ _):P:=h
theorem Vs(h:P:=by have:=hr g' e.symm;omega):P:=h
theorem Vu(h:P:=by rw[<- e];exact hb):P:=h
theorem KP(h:P:=by rw[hb,e]):P:=h
theorem Ir(h:P:=by rw[<- e]):P:=h
theorem afn(h:P:=by rw[HB.aa,HT.aa];rfl):P:=h
theorem Fb(h:P:=by simp[e]):P:=h
theorem O6(h:P:=by rw[List.length_zip];omega):P:=h
theorem afu(h:P:=by rw[Lk _ (bW _)];exact aG 8):P:=h
theorem Vz(h:P:=by rintro rfl;exact hne rfl):P:=h
theorem jL(h:P:=by rw[HQ.aa];rfl):P:=h
theorem O7(h:P:=by rw[HQ.aa];exact HS.aa):P:=h
theorem O8(h:P:=by simpa using hD):P:=h
theorem afw(h:P:=by have:=ho (i+1);simpa [Nat.add_assoc,Nat.add_comm 1 i]using this):P:=h
theorem afx(h:P:=by have:=hq (i+1);simpa [Nat.add_assoc,Nat.add_comm 1 i]using this):P:=h
theorem KR(h:P:=by rw[hC];exact aH.rf _ _ _):P:=h
theorem Du(h:P:=by have:=hc.size;omega):P:=h
theorem VB(h:P:=by first|exact H1.aa.2|omega):P:=h
theorem Iw(h:P:=by rw[<- hA];exact h6):P:=h
theorem Fc(h:P:=by rw[<- hA];rfl):P:=h
theorem afz(h:P:=by rintro rfl;exact absurd (wQ.ja H1.aa.blk) (by decide)):P:=h
theorem Dv(h:P:=by rw[e]):P:=h
theorem aC0(h:P:=by simp[fh,h]):P:=h
theorem KU(h:P:=by simpa using hc):P:=h
theorem qN(h:P:=by simpa using h2):P:=h
theorem Dw(h:P:=by simp[Value.ownBlock]at h):P:=h
theorem Iy(h:P:=by simpa using hl):P:=h
theorem afD(h:P:=by rw[hbase];exact hc.size):P:=h
theorem afE(h:P:=by simp[Value.ownBlock]):P:=h
theorem afF(h:P:=by simp[Value.oneCell']):P:=h
theorem KV(h:P:=by injection e with e;exact e.symm):P:=h
theorem afG(h:P:=by simpa using Gi.aa):P:=h
theorem Fe(h:P:=by rw[gE hlt]):P:=h
theorem afI(h:P:=by first|exact HS.aa.2|omega):P:=h
theorem afK(h:P:=by have:=k0.size;omega):P:=h
theorem xx(h:P:=by simp[iL]):P:=h
theorem Bd(h:P:=by simp[hy]):P:=h
theorem pd(h:P:=by simp[bU]):P:=h
theorem Pg(h:P:=by simpa using h3):P:=h
theorem Ff(h:P:=by cases hj):P:=h
theorem afV(h:P:=by have:=hL m (by omega) (λh=>by have:=tv m h;omega);cases this):P:=h
theorem af1(h:P:=by have:=h1 i h2 h3;unfold dw at this;rwa [if_neg (by omega)]at this):P:=h
theorem KX(h:P:=by rw[IntKind.wrap_i64];omega):P:=h
theorem Be(h:P:=by rintro (e|e) <;> omega):P:=h
theorem VP(h:P:=by simpa using cU):P:=h
theorem Pm(h:P:=by simp[hb]):P:=h
theorem ago(h:P:=by rcases hk with hk|hk;omega;have:=bN k hk;omega):P:=h
theorem agq(h:P:=by have:=h.len;show s.list.length<=_;omega):P:=h
theorem ags(h:P:=by rw[HA.aa,if_pos hfit]):P:=h
theorem agt(h:P:=by unfold Own;rw[JY,cT];exact cX):P:=h
theorem xy(h:P:=by rw[hk,e]):P:=h
theorem agv(h:P:=by rw[HA.aa,if_neg hfit]):P:=h
theorem KY(h:P:=by rw[eB.aa];rfl):P:=h
theorem agy(h:P:=by rw[HF.aa,if_neg (by rw[hok];decide)]):P:=h
theorem agz(h:P:=by rw[HA.aa,if_neg (by rw[hok];decide)]):P:=h
theorem agA(h:P:=by rw[HF.aa,if_pos hok]):P:=h
theorem agB(h:P:=by rw[HA.aa,if_pos hok]):P:=h
theorem agC(h:P:=by rw[HD.aa,if_neg hfit]):P:=h
theorem Po(h:P:=by rw[eB.aa,yw.aa];rfl):P:=h
theorem agD(h:P:=by rw[HD.aa,if_pos hfit]):P:=h
theorem VT(h:P:=by simp[aw,List.lookup,bj,execOp,ay,q9,z9,go_sem]):P:=h
theorem Pp(h:P:=by rw[hbase.aa];exact aG _):P:=h
theorem VU(h:P:=by rw[hbase.aa];exact bq kr.size kA.size):P:=h
theorem av3(h:P:=by simp only[cT,Kf,OC,Us,od];omega):P:=h
theorem VV(h:P:=by rw[gE hlt,List.map_append];rfl):P:=h
theorem agF(h:P:=by simp[results,results32,go_sem,e9]):P:=h
theorem av4(h:P:=by rw[Array.toList_modify];exact aob (g:=λe:MapEntry=>e.born) (λe=>{ e with key:=enc k,val:=v }) (λ_=>rfl) _ _):P:=h
theorem agH(h:P:=by rw[hcs];exact J8 _ _):P:=h
theorem agK(h:P:=by rw[HC.aa];simp[h0]):P:=h
theorem VW(h:P:=by rw[HC.aa];simp[h0,h1]):P:=h
theorem av5(h:P:=by unfold rM jd;simp only[cz,decide_eq_true_eq];rintro ⟨⟨h1,h2⟩,h3⟩;exact⟨h3,h1,h2⟩):P:=h
theorem agM(h:P:=by rw[HC.aa,Js,lM];rfl):P:=h
theorem av6(h:P:=by unfold rM jd;simp only[cz,decide_eq_true_eq];rintro ⟨⟨h1,h2⟩,h3⟩;omega):P:=h
theorem agS(h:P:=by rw[<- HR.aa,ht];rfl):P:=h
theorem V1(h:P:=by have:=h3.size;omega):P:=h
theorem ag1(h:P:=by rw[ir.aa,if_neg (by rw[hok];decide),if_neg h8,hb];rfl):P:=h
theorem Fh(h:P:=by rw[HQ.aa];exact HW.aa):P:=h
theorem Iz(h:P:=by simp[uk]):P:=h
theorem av7(h:P:=by intro u hu;exact cJ.one (x:=wq) (w:=w) ⟨_,_,rfl,⟨none,0,rfl,Reads.nil _ _ _ _⟩,iu _ _⟩ u hu):P:=h
theorem av8(h:P:=by rw[od,show (Lib.lay cur (0+k*9) news).toList.length=cap*9 from lO];omega):P:=h
theorem V3(h:P:=by rw[od];omega):P:=h
theorem ag4(h:P:=by simp[Act.eval,Act.put]):P:=h
theorem yV(h:P:=by rw[HI.aa,ho]):P:=h
theorem K1(h:P:=by rw[HC.aa,ho]):P:=h
theorem V4(h:P:=by rw[HC.aa,ho];simp only[h1]):P:=h
theorem Bf(h:P:=by have:=hG.dk.len;omega):P:=h
theorem V6(h:P:=by have:=Cq.aa;omega):P:=h
theorem V7(h:P:=by simp[results,results33,go_sem,e9]):P:=h
theorem Bg(h:P:=by exact hrg):P:=h
theorem ag8(h:P:=by rintro b e;cases e;omega):P:=h
theorem awd(h:P:=by have h0:=XK;simp only[cT,iE,List.length_nil,fP,List.flatten_append,List.flatten_cons,List.flatten_nil,List.append_nil]at h0⊢;exact h0):P:=h
theorem ag9(h:P:=by rw[Aj.aa,Yf];rfl):P:=h
theorem ahb(h:P:=by simp[aw,List.lookup,bj,e0,e8,execOp,ay,go_sem];exact⟨rfl,rfl⟩):P:=h
theorem Pu(h:P:=by first|rfl|(simp[bj];done)):P:=h
theorem ahc(h:P:=by simp[aw,List.lookup,bj,e0,e9,execOp,ay,go_sem];exact⟨rfl,rfl⟩):P:=h
theorem nz(h:P:=by rfl):P:=h
theorem V8(h:P:=by have:=HX.aa _ hx;omega):P:=h
theorem Dz(h:P:=by simpa using hO):P:=h
theorem ahh(h:P:=by rw[ajF]at hx;cases hx):P:=h
theorem V9(h:P:=by rw[mA (by omega)];exact e5):P:=h
theorem K4(h:P:=by rwa [lD (by omega)]at hx):P:=h
theorem Px(h:P:=by rwa [lD (Ne.symm e)]at hx):P:=h
theorem ahm(h:P:=by rw[e]at h1;exact absurd h1.1.2 (by simp)):P:=h
theorem mQ(h:P:=by simp[za]):P:=h
theorem Wc(h:P:=by have:=Yi _ hx;omega):P:=h
theorem ahn(h:P:=by rw[HR.aa,lf];rfl):P:=h
theorem We(h:P:=by simp[aw,List.lookup,bj,Cx,execOp,ay,q8,z8,go_sem]):P:=h
theorem Py(h:P:=by simp[lI,bU]):P:=h
theorem yX(h:P:=by simp[lI]):P:=h
theorem yY(h:P:=by simp[jy]):P:=h
theorem ahp(h:P:=by rw[hR.1];exact Nat.mul_pos hp hs):P:=h
theorem ahq(h:P:=by rw[hR'.1];exact Nat.mul_pos hp hs):P:=h
theorem ahr(h:P:=by rw[<- hE.1];exact h1):P:=h
theorem Wf(h:P:=by rw[HT.aa,hq];simp):P:=h
theorem aht(h:P:=by rcases hk with hk|hk;exact .inl hk;have:=bN k hk;exact .inr (by omega)):P:=h
theorem K5(h:P:=by have:=kA.size;omega):P:=h
theorem awe(h:P:=by rw[eB.aa];exact (b5.less λk hk=>bB hk (bq om k2.size)).low om):P:=h
theorem Fj(h:P:=by simp[hk]):P:=h
theorem Bh(h:P:=by have:=lQ.aa;omega):P:=h
theorem ahx(h:P:=by rcases hk with hk|hk;exact hk.elim;have:=(Yl k hk).1;omega):P:=h
theorem ahz(h:P:=by rw[eB.aa];simp only[cT]at yF⊢;omega):P:=h
theorem PA(h:P:=by simp[gM,h1,h2]):P:=h
theorem ahB(h:P:=by have:=awf a b;rw[h1',h2]at this;simpa using this):P:=h
theorem Fk(h:P:=by simp[h0]):P:=h
theorem Wj(h:P:=by simp[hf.aa.1 (by omega)]):P:=h
theorem ahC(h:P:=by simp[hf.aa.2.1 (by omega)]):P:=h
theorem sX(h:P:=by rw[HT.aa,hkk];rfl):P:=h
theorem ahE(h:P:=by simp[results,results244,go_sem,g0,g1,g2]):P:=h
theorem ahG(h:P:=by simp only[rV,hf]):P:=h
theorem Wm(h:P:=by rw[<- HR.aa];rfl):P:=h
theorem Wn(h:P:=by rw[HF.aa];exact aX.nil _ _ _ _ _):P:=h
theorem ahM(h:P:=by simp[aw,List.lookup,e0]):P:=h
theorem Wo(h:P:=by intro e;have:=(bN ob e.symm).1;omega):P:=h
theorem ahO(h:P:=by obtain⟨A9,c9,rfl⟩:=bG.slice;rfl):P:=h
theorem PE(h:P:=by rw[hk];exact GS):P:=h
theorem PF(h:P:=by subst e;have:=(bG.blk _ hk).1;omega):P:=h
theorem Wp(h:P:=by rw[<- AE.aa];exact yy.aa):P:=h
theorem awg(h:P:=by rw[HF.aa];unfold kP;rw[if_neg (by omega),if_pos (by simp[hb0,aO,hb2,bD])]):P:=h
theorem awh(h:P:=by rw[HF.aa];unfold kP;rw[if_neg (by omega),if_neg (by simp[hb0,aO,hb2,bD])]):P:=h
theorem Wr(h:P:=by rw[HE.aa,eT (by omega)]):P:=h
theorem IC(h:P:=by simp at hpl;omega):P:=h
theorem Bk(h:P:=by rw[HF.aa];rfl):P:=h
theorem awj(h:P:=by rw[HF.aa];unfold iR;unfold IJ at hb0;rw[if_pos (by simp only[Bool.or_eq_true]at hb0⊢;exact .inl (.inl hb0))]):P:=h
theorem awk(h:P:=by rw[HF.aa];unfold iR;unfold IJ at hb0;rw[if_neg (by simp only[Bool.or_eq_true,Bool.or_eq_false_iff]at hb0⊢;rw[hb0.1.1,hb0.1.2,hb0.2,hb2,bD];simp)]):P:=h
theorem ahY(h:P:=by have:=hG.tx.BL;omega):P:=h
theorem ah0(h:P:=by rw[HE.aa,wN,Yn];rfl):P:=h
theorem Wt(h:P:=by rw[HP.aa];simp):P:=h
theorem ah4(h:P:=by rw[HP.aa];simp[QA]):P:=h
theorem Wv(h:P:=by have:=HM.aa k h;omega):P:=h
theorem Ww(h:P:=by simp[Value.ownBlock]at hk):P:=h
theorem PH(h:P:=by have:=HG.aa;omega):P:=h
theorem Wx(h:P:=by rw[F0.aa,h];simp):P:=h
theorem Wy(h:P:=by rw[F1.aa,h];simp):P:=h
theorem Wz(h:P:=by rw[F2.aa,h];simp):P:=h
theorem ah9(h:P:=by rintro (hk|hk);omega;have:=QE _ hk;omega):P:=h
theorem aia(h:P:=by rintro (hk|hk);omega;have:=QD _ hk;omega):P:=h
theorem aib(h:P:=by rintro (hk|hk);omega;have:=LS _ hk;omega):P:=h
theorem aid(h:P:=by rw[HR.aa,IQ];rfl):P:=h
theorem WE(h:P:=by rw[R9.aa];rfl):P:=h
theorem WG(h:P:=by rw[<- gD.aa,HQ.aa];exact HH.aa.1):P:=h
theorem aik(h:P:=by rw[<- gD.aa,HQ.aa];exact akY.aa):P:=h
theorem PI(h:P:=by simp[s8,bU]):P:=h
theorem DD(h:P:=by simp[s8]):P:=h
theorem aiq(h:P:=by rw[HF.aa];unfold rm;rw[ht];rfl):P:=h
theorem ais(h:P:=by simp at hpn;unfold nV;omega):P:=h
theorem PJ(h:P:=by cases e;rfl):P:=h
theorem WH(h:P:=by have:=Sg.aa;omega):P:=h
theorem aiu(h:P:=by rw[ajI,Nat.mod_eq_of_lt (by omega)]):P:=h
theorem WI(h:P:=by rw[yK,List.drop_length];rfl):P:=h
theorem aiv(h:P:=by rw[yK,List.drop_eq_getElem_cons hlt];rfl):P:=h
theorem aiw(h:P:=by rw[HOA.aa,hab];rfl):P:=h
theorem K7(h:P:=by simp[hz]):P:=h
theorem PL(h:P:=by simp[Dx]):P:=h
theorem WK(h:P:=by split <;> omega):P:=h
theorem vU(h:P:=by simp[tZ]):P:=h
theorem aiC(h:P:=by rw[hop];intro c hc';cases hc'):P:=h
theorem aiD(h:P:=by rw[HR.aa,if_pos h1]):P:=h
theorem aiE(h:P:=by rw[HR.aa,if_neg h1,if_pos h2]):P:=h
theorem aiF(h:P:=by rw[HR.aa,if_neg h1,if_neg h2]):P:=h
theorem PN(h:P:=by obtain⟨a,-,rfl⟩:=List.mem_map.1 h;rfl):P:=h
theorem PQ(h:P:=by simpa using h6):P:=h
theorem aiI(h:P:=by rw[HR.aa];simp[h1]):P:=h
theorem La(h:P:=by subst h2;simp):P:=h
theorem WQ(h:P:=by subst h5;simp):P:=h
theorem WR(h:P:=by subst h6;simp):P:=h
theorem aws(h:P:=by simp[aw,List.lookup,bj,e0,e8,execOp,ay,go_sem,atJ];exact⟨rfl,rfl⟩):P:=h
theorem PX(h:P:=by rw[HB.aa,hall.aa,hx];rfl):P:=h
theorem aiN(h:P:=by rw[HS.aa,if_neg];rw[HN.aa,Sq.aa];simp):P:=h
theorem aiO(h:P:=by rcases hk with hk|hk;exact bB hk nr;exact (bN k hk).2):P:=h
theorem WT(h:P:=by rw[HB.aa,hx];simp):P:=h
theorem PY(h:P:=by rw[Bool.eq_iff_iff];simp):P:=h
theorem Lb(h:P:=by rw[lQ.aa];exact aG _):P:=h
theorem aiQ(h:P:=by simp[results,results131,go_sem,e9]):P:=h
theorem P4(h:P:=by subst e;omega):P:=h
theorem WW(h:P:=by rw[HNM.aa];omega):P:=h
theorem aiU(h:P:=by simp only[cT];omega):P:=h
theorem WX(h:P:=by show (l.length:Int)%2^64=_;omega):P:=h
theorem WY(h:P:=by simpa using xc.aa):P:=h
theorem WZ(h:P:=by rw[gE hlt,List.flatMap_append];simp only[oc,List.flatMap_nil,List.append_nil,dG]):P:=h
theorem IE(h:P:=by rw[cT];omega):P:=h
theorem Xb(h:P:=by simpa [dw]using h):P:=h
theorem Xc(h:P:=by simp only[fO];rw[HJ.aa]):P:=h
theorem Xd(h:P:=by have:=zJ.aa;rw[this]):P:=h
theorem Xe(h:P:=by rcases hx with hx|hx <;> omega):P:=h
theorem ai1(h:P:=by simp[results,results56,go_sem,e9]):P:=h
theorem ai3(h:P:=by rw[HE.aa,F3];rfl):P:=h
theorem ai5(h:P:=by rw[ir.aa,HMM.aa,hc1];rfl):P:=h
theorem ai6(h:P:=by rw[HQ.aa,gq];rfl):P:=h
theorem ai9(h:P:=by obtain⟨y,e,o⟩:=Uk ht;exact⟨y,e,o⟩):P:=h
theorem ajb(h:P:=by rw[HQ.aa];first|rfl|(simp;omega)):P:=h
theorem ajd(h:P:=by simp[results,results44,go_sem,e9]):P:=h
theorem aC1(h:P:=by decide +kernel):P:=h
theorem ajg(h:P:=by rw[hk];exact⟨k6.size,hi.lt⟩):P:=h
theorem ajl(h:P:=by have:=hG.len;simp;omega):P:=h
theorem ajm(h:P:=by have:=HQ.aa;simpa using this):P:=h
theorem Xr(h:P:=by rintro rfl;contradiction):P:=h
theorem ajn(h:P:=by rw[hlo.aa];exact (k1.tr kW).size):P:=h
theorem P5(h:P:=by rw[<- gD.aa,HP.aa];exact lB.aa):P:=h
theorem KK(h:P:=by
 clear uI;obtain⟨j,hj,rfl,hO,kr⟩:=hrel;have pG:=k3.tr kr;by_cases hlt:j<es.length
 ·exact awI
 ·exact awJ):P:=h
theorem awJ(h:P:=by have ba:¬(j:Int)<(es.length:Int):=af;rw[eT af]at hO;have S0:=eI.below kr eI.lt;have pF:=dz.below kr dz.lt;have uv:fC wr w1.heap.size (.slice A1 f.length c1) f:=fZ eY kr;obtain⟨Ao,co,rfl,-⟩:=hO.slice;have q:=S0.cell;have z:=S0.frozen;go_upto_region 9 with (fail);have di:ai (wr.setCell ⟨w.heap.size,7,none⟩ (.slice Ao es.length co)) w.heap.size 102 #[.int .i64 k,.int .i64 b,.int .u64 (l:Int),.int .u64 (s:Int),.int .i64 cl,.int .u64 (u:Int),.slice A1 f.length c1,.slice Ao es.length co]:=S0.aR 7 _;have fq:=pF.far (p:=⟨w.heap.size,7,none⟩) aj (.slice Ao es.length co);have k5:K w (wr.setCell ⟨w.heap.size,7,none⟩ (.slice Ao es.length co)):=K.set pG (aG _) 7 _;have jq:=fC.up uv (w':=wr.setCell ⟨w.heap.size,7,none⟩ (.slice Ao es.length co)) (aH.set af 7 _);have b9:=hO.up (w':=wr.setCell ⟨w.heap.size,7,none⟩ (.slice Ao es.length co)) (aG _) (aH.set af 7 _);clear S0 pF uv hO q z;generalize wr.setCell _ _=w5 at *;have q:=di.cell;have y:=fq.cell;have z:=fq.frozen;go_wp2;have dQ:ai (World.setCell w5 _ _) (w.heap.size+1) 102 #[.int .i64 k,.int .i64 0,.int .u64 0,.int .u64 0,.int .i64 0,.int .u64 0,.slice none 0 0,.slice none 0 0]:=(fq).aR 0 (.int .i64 k);have dQ:ai (World.setCell (World.setCell w5 _ _) _ _) (w.heap.size+1) 102 #[.int .i64 k,.int .i64 b,.int .u64 0,.int .u64 0,.int .i64 0,.int .u64 0,.slice none 0 0,.slice none 0 0]:=(dQ).aR 1 (.int .i64 b);have dQ:ai (World.setCell (World.setCell (World.setCell w5 _ _) _ _) _ _) (w.heap.size+1) 102 #[.int .i64 k,.int .i64 b,.int .u64 (l:Int),.int .u64 0,.int .i64 0,.int .u64 0,.slice none 0 0,.slice none 0 0]:=(dQ).aR 2 (.int .u64 (l:Int));have dQ:ai (World.setCell (World.setCell (World.setCell (World.setCell w5 _ _) _ _) _ _) _ _) (w.heap.size+1) 102 #[.int .i64 k,.int .i64 b,.int .u64 (l:Int),.int .u64 (s:Int),.int .i64 0,.int .u64 0,.slice none 0 0,.slice none 0 0]:=(dQ).aR 3 (.int .u64 (s:Int));have dQ:ai (World.setCell (World.setCell (World.setCell (World.setCell (World.setCell w5 _ _) _ _) _ _) _ _) _ _) (w.heap.size+1) 102 #[.int .i64 k,.int .i64 b,.int .u64 (l:Int),.int .u64 (s:Int),.int .i64 cl,.int .u64 0,.slice none 0 0,.slice none 0 0]:=(dQ).aR 4 (.int .i64 cl);have dQ:ai (World.setCell (World.setCell (World.setCell (World.setCell (World.setCell (World.setCell w5 _ _) _ _) _ _) _ _) _ _) _ _) (w.heap.size+1) 102 #[.int .i64 k,.int .i64 b,.int .u64 (l:Int),.int .u64 (s:Int),.int .i64 cl,.int .u64 (u:Int),.slice none 0 0,.slice none 0 0]:=(dQ).aR 5 (.int .u64 (u:Int));have dQ:ai (World.setCell (World.setCell (World.setCell (World.setCell (World.setCell (World.setCell (World.setCell w5 _ _) _ _) _ _) _ _) _ _) _ _) _ _) (w.heap.size+1) 102 #[.int .i64 k,.int .i64 b,.int .u64 (l:Int),.int .u64 (s:Int),.int .i64 cl,.int .u64 (u:Int),.slice A1 f.length c1,.slice none 0 0]:=(dQ).aR 6 (.slice A1 f.length c1);have dQ:ai (World.setCell (World.setCell (World.setCell (World.setCell (World.setCell (World.setCell (World.setCell (World.setCell w5 _ _) _ _) _ _) _ _) _ _) _ _) _ _) _ _) (w.heap.size+1) 102 #[.int .i64 k,.int .i64 b,.int .u64 (l:Int),.int .u64 (s:Int),.int .i64 cl,.int .u64 (u:Int),.slice A1 f.length c1,.slice Ao es.length co]:=(dQ).aR 7 (.slice Ao es.length co);have U9:=((((((((aH.rf (w.heap.size+1+1) none w5).tr (aH.set (b:=w.heap.size+1) af 0 (.int .i64 k))).tr (aH.set (b:=w.heap.size+1) af 1 (.int .i64 b))).tr (aH.set (b:=w.heap.size+1) af 2 (.int .u64 (l:Int)))).tr (aH.set (b:=w.heap.size+1) af 3 (.int .u64 (s:Int)))).tr (aH.set (b:=w.heap.size+1) af 4 (.int .i64 cl))).tr (aH.set (b:=w.heap.size+1) af 5 (.int .u64 (u:Int)))).tr (aH.set (b:=w.heap.size+1) af 6 (.slice A1 f.length c1))).tr (aH.set (b:=w.heap.size+1) af 7 (.slice Ao es.length co));have K9:=(K.set (K.set (K.set (K.set (K.set (K.set (K.set (K.set k5 (r:=w.heap.size+1) af 0 (.int .i64 k)) (r:=w.heap.size+1) af 1 (.int .i64 b)) (r:=w.heap.size+1) af 2 (.int .u64 (l:Int))) (r:=w.heap.size+1) af 3 (.int .u64 (s:Int))) (r:=w.heap.size+1) af 4 (.int .i64 cl)) (r:=w.heap.size+1) af 5 (.int .u64 (u:Int))) (r:=w.heap.size+1) af 6 (.slice A1 f.length c1)) (r:=w.heap.size+1) af 7 (.slice Ao es.length co));clear q y z;generalize (World.setCell (World.setCell (World.setCell (World.setCell (World.setCell (World.setCell (World.setCell (World.setCell w5 _ _) _ _) _ _) _ _) _ _) _ _) _ _) _ _)=W9 at *;have e9:=dQ.cell;refine bodyPost_ret (v:=.agg #[.int .i64 k,.int .i64 b,.int .u64 (l:Int),.int .u64 (s:Int),.int .i64 cl,.int .u64 (u:Int),.slice A1 f.length c1,.slice Ao es.length co]) (by simp[results,zR.aa,go_sem,e9]) rfl ?_;exact⟨_,rfl,⟨_,_,rfl,my af (fC.up jq (U9.more af (λ_ _ _=>aj))),(aX.low (aX.floor (b9.up (aG _) (U9.more af (λ_ _ _=>aj))) af) af)⟩,K9⟩):P:=h
theorem awI(h:P:=by
 have ba:(j:Int)<(es.length:Int):=af;obtain⟨b1,off,cs,rfl,aO,hcl,⟨ve,rfl,jB⟩,hcell⟩:=DF he j hlt au;have d0:wr.cell? ⟨b1,off+j,none⟩=some ve:=by have:=hcell 0 au;rw[pG.cell Vq];simpa [dJ]using this
 have HT:Hid (es.take (j+1)=es.take j++[es[j]]):=ae Fe;have hej:=yi.aa _ (bW hlt);have zh:=mR _ _ _ _ jB pG;generalize es[j]=ej at *;obtain⟨Ae,ce,rfl,ZN⟩:=zh;have gA:(es.take j).length<=1000000:=aU;have ZO:=kr.size;clear hcell jB;go_wp2_with (at_builtin;refine iC rfl _ _ 34 rfl wr.heap.size 84 _ 4 48 TE _ 0 [] rfl (iF _ _ _ _) _ Ae ej.length ce (ej.flatMap jQ) rfl ZN (Um ej) ?p1 (aG _) ?_)
 case p1=>omega
 intro v2 w4 cX _ _ hb2;have Q7:=ae (po.rel (show po w4 wr.heap.size v2 ej from cX));obtain⟨A2,c2,rfl,-⟩:=(show po w4 wr.heap.size v2 ej from cX).slice;have ll:=hO.blk;have cE:=hO.st hb2;have gB:=kr.tr hb2;obtain⟨css,hown,hcl,ln⟩:=cE;have iX:=hb2.size;clear hO hb2 cX;have kA:K w4 (w4.alloc (.cells #[.slice A2 ej.length c2] 34)):=(K.rf w4).al _;have hbase:w3.heap.size<=(w4.alloc (.cells #[.slice A2 ej.length c2] 34)).heap.size:=K5;go_wp2_with (at_builtin;refine iC rfl _ _ 69 rfl w3.heap.size 34 _ 1 24 Ml _ _ _ rfl (pg hown _) (w4.heap.size+1) _ 1 1 [.slice A2 ej.length c2] rfl ?c1 ?c2 ?c3 hbase ?_)
 case c1=>exact Reads.new w4 [.slice A2 ej.length c2] 34 1 1 rfl
 case c2=>intro u hu;simp at hu;subst hu;rfl
 case c3=>omega
 intro v9 w9 eU bJ dc bo;have k9:=(gB.tr kA).trans bo;have bG:aX w3.heap.size w3.heap.size 34 dJ (es.take (j+1)) v9 w9:=by exact ahu
 clear eU bJ dc bo hown ln;exact VS):P:=h
theorem aio(h:P:=by
 cases L2
 ·exact awK
 ·exact awL):P:=h
theorem awK(h:P:=by
 have hLB:=nP.aa rfl;have HQ:Hid (P'=(Bj,lj++[x])):=ae WE;rw[hLB]at xV;have AL:=ae u3;have LU:ai iB ga 102 (aA x (.slice Af x.f.length cf) (.slice Ae x.es.length ce)):=mK.bT AL.aa (λh=>by have:=Z3.aa.low ga (.inr h);have:=lQ.aa;omega);have Nj:=LU.cell;have Z4:=ae (R7.aa.to ((ah.bg tI _).tr AL.aa) (X:=bn p2) (λk hk=>(G7.aa k hk).imp .inr id) λk _ hk=>hk);have kA:K iB (iB.alloc (.cells (aA x (.slice Af x.f.length cf) (.slice Ae x.es.length ce)) 102)):=(K.rf iB).al _;have EF:=nH.st kA;have QI:=nH.blk;have hr:=fE.new (S:=aQ) (e:=102) (v:=.agg (aA x (.slice Af x.f.length cf) (.slice Ae x.es.length ce))) Z4.aa 0 (fw _);have LV:=xV.st kA;have I2:=uR.size;have yI:=ae (And.intro xV (And.intro uR (And.intro Eb (And.intro Ec (And.intro DU nH)))));have I3:=ae LV;have azl:lj.length<=1000000:=by simp at RV;omega
 clear xV uR Eb Ec DU nH LV sI q8;clear oq u3 gW Nk;go_wp2_with (at_builtin;refine jK rfl _ _ 39 rfl _ 8 96 rG rfl rfl EF _ rfl x ?p1 ?p2 ?p3 ?_)
 case p1 => exact aif
 case p2=>omega
 case p3=>exact bq I2 kA.size
 intro v11 yJ sg wG FB zw;have akY:=ae sg;have hBw:bC (λk=>((M k∨bn p' k)∨v11.ownBlock=some k)∨bn p3 k) p3 Bj yJ:=I3.aa.far (X:=λk=>(Value.slice Ao lj.length co).ownBlock=some k) (ah.fM wG λk e=>e) (λk hk=>.inl (.inr hk)) (λk hk=>yI.aa.2.2.2.2.1 k hk) (λk hk h=>by
  rcases h with (h|h)|h
  ·exact .inl (.inl h)
  ·exact aih
  ·exact .inr h) (λk hk=>.inr hk) (λk hk=>by
   rcases hk with (h|h)|h
   ·exact aii
   ·exact (sg.blk k h).2
   ·exact bB (I3.aa.low k (.inr h)) wG.size)
 have Lu:∀k,v11.ownBlock=some k->¬bn p3 k:=λk hk h=>by exact aij
 have AJ:ah (bn p') w7 yJ:=(yI.aa.2.1.tr (ah.bg kA _)).iA (ah.fM (X:=λk=>(Value.slice Ao lj.length co).ownBlock=some k) wG λk e=>e) λk hk h=>by have:=(QI k h).1;omega
 have HH:=ae (And.intro hBw (And.intro AJ (And.intro yI.aa.2.2.1 (And.intro yI.aa.2.2.2.1 Lu))));clear hBw AJ Lu hr EF sg wG FB zw Nj LU;go_wp2;go_roundw
 case rel=>exact⟨j+1,p3,af,bO,WG,HH.aa.2.1,HH.aa.2.2.1,HH.aa.2.2.2.1,HH.aa.2.2.2.2,aik⟩
 case measure=>simp[intOf];omega):P:=h
theorem ad1(h:P:=by
 refine (N4 k N ⟨s.toArray⟩ _).mono ?_;rintro e W5⟨rfl,iy⟩;have dD:=dD.below iy (by have:=dz.lt;simp;omega);have bQ:=bQ.below iy bQ.lt;have hgr:=nU hgr (Ht iy _);have JQ:=(ai.new W3 79 #[.int .i64 (k:Int),.int .i64 N,.string { data:=s.toArray }]).below iy aj;have ix:=iy.size;simp only[World.size_alloc]at ix;clear iy;by_cases hok:iU (k:Int) N ⟨s.toArray⟩=true
 ·exact awM
 ·have hok:iU (k:Int) N ⟨s.toArray⟩=false:=by simpa using hok
  have hch:(mH (k:Int) N ⟨s.toArray⟩ != 0)=true:=by simp[mH,hok]
  have hv0:=JQ.cell 0;have rH:=JQ.cell 1;have JP:=JQ.cell 2;simp at hv0 rH JP;go_wp2;have I8:(if (decide (3<k)||false||!(iU (k:Int) N ⟨s.toArray⟩))=true then (((0,0,[]),l3,true):(Int×Int×List UInt8)×List UInt8×Bool)else (((k:Int),N,s),l3,false))=((0,0,[]),l3,true):=by simp[hok]
  exact ajo):P:=h
theorem ajo(h:P:=by go_step3;refine⟨rfl,?_⟩;have hy0:=bQ.cell 0;have zA:=bQ.cell 1;have hy2:=bQ.cell 2;have hz0:=bQ.frozen 0;have hz1:=bQ.frozen 1;have hz2:=bQ.frozen 2;simp at hy0 zA hy2;obtain⟨A4,c4,hb4,_⟩:=id dD;have ot:=hb4.cell 1;have jV:=hb4.frozen 1;simp at ot;go_wp2;have di:=(((bQ.far (p:=⟨g,1,none⟩) aU (.bool true)).aR 0 (.int .i64 0)).aR 1 (.int .i64 0)).aR 2 (.string { data:=#[] });have e0:=di.cell 0;have e1:=di.cell 1;have e2:=di.cell 2;simp at e0 e1 e2;have hw:=dD.UL;rw[gS];refine bodyPost_ret (v:=vd (0,0,[])) UM rfl ?_;rw[HN.aa,I8];exact ad0):P:=h
theorem Ld(h:P:=by
 go_wp2_with fail
 refine C5.aa.mono ?_;rintro e w8⟨v8,B',rfl,HI,pH,u8⟩;have k8:K w w8:=u8.k nS λb hb=>Nat.le_of_not_lt λhl=>hb (.inl (.inl hl))
 have fX:=ae (jh.ids u8 λb hb hn=>hn (.inl (.inr hb)));have HL:=ae (pH.less (X':=λk=>NM.ownBlock=some k) (Z':=λk=>k<w.heap.size∨NM.ownBlock=some k) (λ_ h=>.inr h) (λk hk=>.inl hk));clear C5 oF hi jh u8 nS q qi jc pH;go_wp2;go_roundw
 case rel=>exact⟨j+1,B',l,af,af,bO,HI,af,yd,HL.aa,fX.aa,k8⟩
 case measure=>simp[intOf];omega):P:=h
theorem afR(h:P:=by
 clear BS;go_wp2_with fail
 refine (CV.aa w1 k1).mono ?_;rintro e w2⟨rfl,j2⟩;have k2:=k1.tr j2;replace kk:=kk.tr j2;cases h2:ki sc m.bM
 ·have HQ:Hid (ig m=130):=ae (by unfold ig;rw[show ed m=false from by simp[ed,h2]];rfl);go_wp2;go_ret;exact⟨jL,k2⟩
 go_wp2_with fail
 refine (CA.aa w2 k2).mono ?_;rintro e w3⟨rfl,j3⟩;have k3:=k2.tr j3;replace kk:=kk.tr j3;cases h3:ki bP m.asks
 ·have HQ:Hid (ig m=130):=ae (by unfold ig;rw[show ed m=false from by simp[ed,h3]];rfl);go_wp2;go_ret;exact⟨jL,k3⟩
 go_wp2_with fail
 refine (CE.aa w3 k3).mono ?_;rintro e w4⟨rfl,j4⟩;have k4:=k3.tr j4;replace kk:=kk.tr j4;cases h4:ki bP m.entries
 ·have HQ:Hid (ig m=130):=ae (by unfold ig;rw[show ed m=false from by simp[ed,h4]];rfl);go_wp2;go_ret;exact⟨jL,k4⟩
 go_wp2_with fail
 refine (CP.aa w4 k4).mono ?_;rintro e w5⟨rfl,j5⟩;have k5:=k4.tr j5;replace kk:=kk.tr j5;cases h5:ki bP m.cH
 ·have HQ:Hid (ig m=130):=ae (by unfold ig;rw[show ed m=false from by simp[ed,h5]];rfl);go_wp2;go_ret;exact⟨jL,k5⟩
 go_wp2_with fail
 refine (CB.aa w5 k5).mono ?_;rintro e w6⟨rfl,j6⟩;have k6:=k5.tr j6;replace kk:=kk.tr j6;cases h6:ki oh m.bY
 ·have HQ:Hid (ig m=130):=ae (by unfold ig;rw[show ed m=false from by simp[ed,h6]];rfl);go_wp2;go_ret;exact⟨jL,k6⟩
 go_wp2_with fail
 refine (CD.aa w6 k6).mono ?_;rintro e w7⟨rfl,j7⟩;have k7:=k6.tr j7;replace kk:=kk.tr j7;cases h7:ki oh m.ends
 ·have HQ:Hid (ig m=130):=ae (by unfold ig;rw[show ed m=false from by simp[ed,h7]];rfl);go_wp2;go_ret;exact⟨jL,k7⟩
 have HQ:Hid (ig m=0):=ae (by unfold ig;rw[show ed m=true from by simp[ed,hK,h2,h3,h4,h5,h6,h7]];rfl);go_wp2;go_ret;exact⟨jL,k7⟩):P:=h
theorem adX(h:P:=by
 rw[AY k,HKN.aa];refine (vJ A m c l KN oU _ B (hR.below ake hB) aU af).mono ?_;rintro e w1⟨v1,rfl,dV,aO⟩;have hx1:=(ai.new w 79 #[.int .i64 k,.int .i64 n,.string s]).below aO aj;have gq:=hx1.cell 2;simp at gq;obtain⟨A1,c1,rfl,jE⟩:=dV.slice;have jD:(l++aD KN).length<=m+9:=by have:=Hml.aa;simp;omega
 generalize pB:(l++aD KN).length=m1 at *;clear pB dV;have hz1:=aO.size;simp only[World.size_alloc]at hz1;go_wp2_with fail
 refine (vJ A1 m1 c1 _ NV hnl w1 w1.heap.size jE (aG _) af).mono ?_;rintro e w2⟨v2,rfl,cX,hb2⟩;have hx2:=hx1.below hb2 af;have sK:=hx2.cell 2;simp at sK;clear gq hx1 jE;obtain⟨A2,c2,rfl,rD⟩:=cX.slice;have fg:(l++aD KN++aD NV).length<=m+18:=by have:=Hml.aa;simp;omega
 generalize hm2:(l++aD KN++aD NV).length=m2 at *;clear hm2 cX;have hz2:=hb2.size;go_wp2_with fail
 have hcb:Below w2.heap.size w2 (w2.drew.alloc (.cells (bytesRow s (grownCap w2 s.size 0 5)) 5 ((bytesRow s (grownCap w2 s.size 0 5)).size,(bytesRow s (grownCap w2 s.size 0 5)).size+1))):=((aN _ w2).drew).alloc (aG _) _;refine (N0 A2 _ m2 c2 s.size _ _ (dh s) _ (w2.heap.size+1) ((rD.below hcb (aG _)).more af) (Reads.conv w2.drew s _ _ _) aj af af).mono ?_;rintro e w3⟨v3,rfl,eY,bD⟩;go_wp2;go_ret;refine⟨_,rfl,?_,?_⟩
 ·unfold nC;rw[HKN.aa,YM.aa];refine rS ?_ eY;simp;omega
 ·exact ((ake.trans (aO.mono aj)).trans (hb2.mono af)).trans ((hcb.mono af).trans (bD.mono aU))):P:=h
theorem ahu(h:P:=by
 rw[HT.aa];exact aX.snoc hcl (λw' u=>ln w' (aH.tr (aH.bg kA _ _) u)) (by rw[List.length_take_of_le (show j<=es.length by omega)];exact eU) bJ pO
  (λw' u=>Q7.aa w' ((aH.tr (aH.bg kA _ _) u).more af (λk hk _ e=>Vo)))):P:=h
theorem ah7(h:P:=by
 intro V W kW;conv=>lhs;simp only[aJ,aM,eA,ag,Nat.reduceAdd]
 intro hA;refine bu.nil ?_;simp only[bF,Act.put,cO,cM,cL,Nat.reduceAdd,hA];have iP:=hb4.below kW hb4.lt;have yG:=cE.st kW;have uW:=u.tr (ah.bg (yz.tr kW) _);clear hA q qo qt qx hb4 cE C2 C3;go_wp2;go_roundw
 case rel=>exact⟨j+1,_,af,bO,iP,by rw[<- gD.aa,HQ.aa];exact yG,hat,uW⟩
 case measure=>simp[intOf];omega):P:=h
theorem agd(h:P:=by
 rw[hT k o x ho hx]at zW;have Ck:∀v,bj (vF fr cs V) k v=vF fr cs (bj V k v):=λv=>by
  funext j;unfold vF bj;by_cases hjk:j=k
  ·subst hjk;rw[if_pos rfl,if_neg zV,if_pos rfl]
  ·rw[if_neg hjk,if_neg hjk]
 have next:∀v w',T (k+1) (bj (vF fr cs V) k v) w'->I (dw L k) (bj V k v) w':=by exact awN
 by_cases zn:aL (vF fr cs V) o.guard=true
 ·rw[if_pos zn]at zW⊢;generalize (execOp (aw x.2 a0 (vF fr cs V)) (ay o.op o.type)).run P W=q at *;cases q with
  | ok nx w' =>
   cases nx <;> simp only[mm]at zW⊢
   case value v=>exact next _ _ zW
   case skip=>exact next _ _ zW
   case enter f args => refine zW.mono ?_;rintro e w''⟨v,rfl,hv⟩;exact⟨v,rfl,next _ _ hv⟩
  | halt x w'=>simp only[mm]at zW
 ·rw[if_neg zn]at zW⊢;exact next _ _ zW):P:=h
theorem ajh(h:P:=by
 obtain⟨hi9,rL,bG,k9⟩:=axz Hq rfl pH fX Cq.aa Gr.aa k8 a' rfl;clear q8 z8 Hq pH fX k8;generalize World.setCell (World.setCell (World.setCell w8 _ _) _ _) _ _=W9 at *;have qW:=hi9.cell;have hr:=fE.new (S:=bI) (e:=46) (x:=a') (v:=.agg (bZ a')) (w:=W9) (N:=λk=>True∨NM.ownBlock=some k) (λW u=>rfl) 0 (fw _);have kC:K W9 (W9.alloc (.cells (bZ a') 46)):=(K.rf W9).al _;have nH:=bG.st kC;have ali:=ae (rL.st kC);have oC:=k9.tr kC;have I2:=oC.size;clear rL bG kC hi9 k9;go_wp2_with (at_builtin;refine jK rfl _ _ 32 rfl _ 3 24 uJ rfl rfl nH _ rfl a' ?p1 ?p2 ?p3 ?_)
 case p1=>exact hr.less λk _=>.inl trivial
 case p2=>omega
 case p3=>simpa using I2
 intro v9 yJ sg hg hat hb;have QP:=ae (avp ali.aa hg (by simpa using hat) sg);have k11:=oC.trans hb;have sg:=ae sg;clear hr nH ali hg hat hb oC I2 qW;go_wp2;go_roundw
 case rel=>exact⟨j+1,B',l++[a'],af,af,bO,HI.aa,aU,by
  intro x hx;rcases List.mem_append.1 hx with h|h
  ·exact yd x h
  ·rw[List.mem_singleton.1 h];exact HA.aa,QP.aa,sg.aa,k11⟩
 case measure=>simp[intOf];omega):P:=h
theorem O2(h:P:=by have q:=D.rv.cell;have z:=D.rv.frozen;go_wp2;clear q z;have P9:=D.put zEL rfl;simp only[fN,zEL,Nat.reduceAdd,fP]at P9;generalize World.setCell _ _ _=W9 at *;have e9:=P9.1.cell;refine bodyPost_ret (v:=.tuple #[.agg ez,.int .i64 110]) ae2 rfl ?_;exact⟨.agg ez,by rw[HN.aa.1],by rw[HN.aa.2];exact λ_ _=>aun _,P9.2.1⟩):P:=h
theorem OK(h:P:=by
 go_enter func177,ntmps177;go_wp2;refine JT 0 rfl ?_;go_wp2_with fail
 refine HN.aa.mono ?_;rintro e w2⟨rfl,ng,hgr⟩;obtain⟨h9,nf⟩:=hfin w2 ng hgr;obtain⟨A,c,hb,hr,hc1,gq⟩:=ng;have dC:=hb.cell 0;have hx1:=hb.cell 1;have jV:=hb.frozen 1;simp at dC hx1;go_wp2;go_step3;refine⟨rfl,?_⟩;go_wp2;rw[gS];go_ret;exact⟨_,rfl,h9,nf⟩):P:=h
theorem awM(h:P:=by
 have hch:(mH (k:Int) N ⟨s.toArray⟩ != 0)=false:=by simp[mH,hok]
 have hy0:=bQ.cell 0;have zA:=bQ.cell 1;have hy2:=bQ.cell 2;have hz0:=bQ.frozen 0;have hz1:=bQ.frozen 1;have hz2:=bQ.frozen 2;have hv0:=JQ.cell 0;have rH:=JQ.cell 1;have JP:=JQ.cell 2;simp at hy0 zA hy2 hv0 rH JP;go_wp2;have di:=((bQ.aR 0 (.int .i64 (k:Int))).aR 1 (.int .i64 N)).aR 2 (.string { data:=s.toArray });have e0:=di.cell 0;have e1:=di.cell 1;have e2:=di.cell 2;simp at e0 e1 e2;simp only[Exit.jump];refine bodyPost_ret (v:=vd (k,N,s)) UM rfl ?_;have I8:(if (decide (3<k)||false||!(iU (k:Int) N ⟨s.toArray⟩))=true then (((0,0,[]),l3,true):(Int×Int×List UInt8)×List UInt8×Bool)else (((k:Int),N,s),l3,false))=(((k:Int),N,s),l3,false):=by simp[h3,hok]
 rw[HN.aa,I8];refine⟨rfl,?_,?_⟩
 ·exact Rd.below (B:=w.heap.size) dD ((((aN _ _).setCell aj _).setCell aj _).setCell aj _) hg
 ·exact xv (xv (xv hgr aj _) aj _) aj _):P:=h
theorem Xk(h:P:=by
 have q:=D.rv.cell;have z:=D.rv.frozen;have akd:Hid (sf b=none):=ae (by rw[HD.aa];simp);obtain rfl:CK=130:=by rw[Hi.aa,akd.aa];rfl
 obtain rfl:MX=xQ:=by rw[HMX.aa,akd.aa];rfl
 go_wp2;have P9:=D.put zML rfl;simp only[fN,zML,Nat.reduceAdd,fP]at P9;clear q z;generalize World.setCell _ _ _=W9 at *;have e9:=P9.1.cell;refine bodyPost_ret (v:=.tuple #[.agg FU,.int .i64 130]) ai1 rfl ?_;exact⟨.agg FU,rfl,λ_ _=>avk _,P9.2.1⟩):P:=h
theorem Pa(h:P:=by obtain⟨hp7,-⟩:=hp;obtain⟨vf7,ve7,e7⟩:=avS hp7;have hF7:=hp7.2.2;rw[e7]at hF7;simp[e7,aL,aw,List.lookup,aE,aF,aS,execOp,ay,undef,go_sem];exact⟨⟨w'.heap.size,_,rfl,Du,ai.new _ _ _,rfl,λW' u=>hF7 W' ((aH.bg ((K.rf w').al _) _ _).tr u)⟩,(K.rf w').al _⟩):P:=h
theorem Iu(h:P:=by
 go_wp2;go_roundw
 case rel=>exact⟨k+1,af,bO,pF,kW⟩
 case measure=>simp[intOf];omega):P:=h
theorem VA(h:P:=by
 intro j hjz hf v w w' ht hm;unfold tab at *;cases hj:l[j]? with
 | none=>simp[List.getD_eq_getElem?_getD,hj]
 | some f => exact awO):P:=h
theorem KT(h:P:=by
 have lM:=kb.trans hb;clear C2 q0 hlk;cases o
 ·exact ajp
 ·exact ajp):P:=h
theorem sW(h:P:=by rintro e w4⟨rfl,k4⟩;exact⟨_,rfl,rfl,k4⟩):P:=h
theorem ahe(h:P:=by
 rintro e w2⟨v2,rfl,ho,k2⟩;obtain⟨kH,kI,rfl,hF⟩:=Fi ho;have bN:=hO.blk;have hz:=j0.size;replace hO:=hO.st k2;have pK:=j0.tr k2;have hr:=fE.new (S:=aQ) (e:=102) (v:=.agg (aA x kH kI)) hF 0 (fw _);have b5:=hO.st ((K.rf w2).al (.cells (aA x kH kI) 102));have cS:=pK.tr ((K.rf w2).al (.cells (aA x kH kI) 102));clear hO hF ho q;go_wp2_with (at_builtin;refine jK rfl _ _ 39 rfl _ 8 96 rG rfl rfl b5 _ rfl x ?p1 ?p2 ?p3 ?_)
 case p1=>exact hr.less λk hk=>ago
 case p2=>simp;omega
 case p3=>exact cS.size
 intro v9 w9 bG bJ _ bo;rw[<- HT.aa]at bG;have il:=cS.trans bo;clear hr b5;exact Pz):P:=h
theorem sV(h:P:=by go_wp2;go_ret;exact⟨fL,rfl⟩):P:=h
theorem K2(h:P:=by simp only[aI,aJ,aM,aE,aF,ag]at hp;obtain⟨⟨v',e,hO⟩,-⟩:=hp;simp[aL,aw,List.lookup,e,aS,execOp,ay,aN,go_sem];exact hO):P:=h
theorem Dt(h:P:=by go_wp2;go_ret;exact⟨fo,k1⟩):P:=h
theorem K3(h:P:=by simp only[aI,aJ,aM,aE,aF,ag]at hp;obtain⟨⟨v',e,hO⟩,-⟩:=hp;simp[aL,aw,List.lookup,e,aS,execOp,ay,ag,aN,go_sem]):P:=h
theorem Pk(h:P:=by
 obtain⟨rfl,rfl⟩:xs=[]/\n=0:=by exact awP
 go_wp2;go_ret;exact⟨_,rfl,iF _ _ _ _,kk⟩):P:=h
theorem agn(h:P:=by
 have hb:=ai.new w 5 #[];have k1:K w (w.alloc (.cells #[] 5)):=(K.rf w).al _;have ho:(w.alloc (.cells #[] 5)).ownsRow w.heap.size 5 1 (.slice (some ⟨w.heap.size,0,none⟩) 0 0) 0 [] :=
  ⟨rfl,.inr ⟨w.heap.size,0,_,rfl,aG _,hb,aG _,Dp,aj,aj⟩⟩
 have jE:=(hR.below k1 (aG _)).more k1.size;go_wp2_with (at_builtin;refine iC rfl _ _ 42 rfl w.heap.size 5 _ 1 1 TB _ 0 [] rfl ho _ (some ad) n c xs rfl jE h1 ?p1 k1.size ?_)
 case p1=>omega
 intro v4 w4 cU _ _ hb4;have HO:Hid (w4.ownsRow w.heap.size 5 1 v4 n xs):=ae VP;exact VQ):P:=h
theorem ajj(h:P:=by
 simp only[aE,aF,ag]at h9;clear hp;simp only[bF,Act.put,cO,cM,cL,h9];have yj:=kr.tr kW;generalize hq:decide (x=y)=q at *;have HQ:=ae hq;clear hq h9 SX p1 SY p2;cases q
 ·have HR:Hid (R=false):=ae (by
   rw[HI.aa];simp only[decide_eq_false_iff_not];rintro rfl;exact of_decide_eq_false HQ.aa (HB.aa.1 rfl))
  go_wp2;go_ret;exact⟨fo,yj⟩
 ·have kJ:Hid (la.take (j+1)=lb.take (j+1)):=ae (HB.aa.2 (of_decide_eq_true HQ.aa));exact KE):P:=h
theorem agN(h:P:=by
 rintro s A B row⟨v,hv,hrow,hB,hz⟩ hg hr;have hne:∀g t cs,ai A g t cs->some g≠row:=λg t cs hb e=>by obtain⟨h1,o,h2,h3⟩:=hr g e.symm;unfold ai at hb;rw[hb]at h2;injection h2 with h2;rw[<- h2]at h3;cases h3
 refine⟨v,hv.kept hg (hne _ _ _ hv),Dm hrow λg _ h1 h2=>hg.block g h1 ?_,⟨hg.os.trans hB.os,hg.tape.trans hB.tape,hg.output.trans hB.output,bq hB.size hg.size,λk hk=>(hg.block k (bB hk hB.size) λe=>?_).trans (hB.block k hk)⟩,bq hz hg.size⟩
 ·obtain⟨cur,hb⟩:=gg hrow h2;exact hne _ _ _ hb
 ·obtain⟨h1,-⟩:=hr k e.symm;have:=k2.size;omega):P:=h
theorem Km(h:P:=by go_enter func103,ntmps103;go_wp2;refine JT 0 rfl ?_;go_wp2;go_step3;refine⟨rfl,?_⟩;go_wp2;rw[gS];go_ret;exact⟨rfl,ze _ rfl⟩):P:=h
theorem Ws(h:P:=by
 go_wp2;go_roundw
 case rel=>exact⟨j+1,af,bO,by rw[<- gD.aa,HP.aa];exact LQ,tF⟩
 case measure=>simp[intOf];omega):P:=h
theorem Pe(h:P:=by
 have ba:¬(j:Int)<(l.length:Int):=af;have HR:Hid (R=true):=ae (by
  have h1:=HT.aa;rw[eT af]at h1;rw[HI.aa,h1];simp[fT])
 go_wp2;go_ret;exact⟨fo,kr⟩):P:=h
theorem ae7(h:P:=by
 intro V W hc hp;have h8:=hp 8 aj;simp only[aE,aF,ag]at h8;rw[hC]at hc;clear hp hg hc0 hC;simp only[bF,Act.put,cO,cM,cL,h8];have iP:=hb.trans (hc.mono hz);clear hc hb Q8;cases q
 ·have HE:Hid (decide (la=lb)=false):=ae (HF.aa ajm);go_wp2;go_ret;exact⟨fL,iP⟩
 ·have hr:Hid (la.take (k+1)=lb.take (k+1)):=ae (hT.aa.2 ajm);go_wp2;go_roundw
  case rel=>exact⟨k+1,af,bO,hr,iP⟩
  case measure=>simp[intOf];omega):P:=h
theorem VM(h:P:=by
 intro i o ho;have h3:=List.all_eq_true.1 hpl (o,i) (List.mem_zipIdx_iff_getElem?.2 (by rw[Array.getElem?_toList];exact ho));cases hx:pl[i]? with
 | none=>simp only[hx]at h3;cases h3
 | some x => simp only[hx,cz]at h3;exact⟨x,rfl,λj hj=>by simpa using List.all_eq_true.1 h3.1.1 j hj⟩):P:=h
theorem ajp(h:P:=by go_wp2;go_ret;exact⟨jL,O7,lM⟩):P:=h
theorem afY(h:P:=by
 intro V' hV';have h1:=List.all_eq_true.1 hpl (o,k) (List.mem_zipIdx_iff_getElem?.2 (by rw[Array.getElem?_toList];exact ho));simp only[hx,cz]at h1;rw[<- Ts];refine execOp_congr o (λcs b e=>ahm) λy hy=>?_
 have h4:=List.all_eq_true.1 h1.2 y Kr;cases y with
 | tmp t =>
  simp only[beq_iff_eq]at h4
  simp only[tj,aw,h4]
  cases hl:x.2.lookup t with
  | none=>rfl
  | some j => rw[hl]at h4;simp only[hV' j (List.mem_of_find?_eq_some h4)]
 | const v=>rfl
 | global g=>rfl
 | func f=>rfl):P:=h
theorem ahv(h:P:=by
 go_wp2_with fail
 refine (C1.aa a w).mono ?_;rintro e w2⟨rfl,k2⟩;go_wp2_with fail
 refine (C1.aa b w2).mono ?_;rintro e w3⟨rfl,k3⟩;have k:=k2.tr k3;clear C1;by_cases h1:a<b
 ·have HE:Hid (R=-1):=ae aiD;exact Xt
 by_cases h2:b<a
 ·have HE:Hid (R=1):=ae aiE;exact Xt
 have HE:Hid (R=0):=ae aiF;exact Xt):P:=h
theorem Fg(h:P:=by
 go_wp2;try rw[gS]
 exact ajq):P:=h
theorem VS(h:P:=by
 go_wp2;go_roundw
 case rel=>exact⟨j+1,af,bO,bG,k9⟩
 case measure=>simp[intOf];omega):P:=h
theorem awO(h:P:=by
 simp only[List.getD_eq_getElem?_getD,hj,Option.getD_some]at ht⊢;rcases st2 (f,j) (List.mem_zipIdx_iff_getElem?.2 hj)with h1|h1
 ·simp only[Bool.or_eq_true,beq_iff_eq]at h1;rcases h1 with h2|h2
  ·exact absurd h2 hjz
  ·rw[h2]at hf;cases hf
 ·exact h1 v w w' ht hm):P:=h
theorem ad4(h:P:=by
 intro k;induction k with
 | zero=>intro _;exact⟨[],rfl,aj,aj⟩
 | succ k ih =>
  intro hk;obtain⟨css,h1,h2,h3⟩:=ih af;obtain⟨cs,h4,h5,h6⟩:=hex k af;refine⟨css++[cs],by simp[h1],?_,λi j hik hj=>?_⟩
  ·intro x hx;rcases List.mem_append.1 hx with hx|hx
   ·exact h2 x hx
   ·simp at hx;subst hx;exact⟨h4,h5⟩
  ·by_cases azI:i<k
   ·rw[h3 i j azI hj,List.getElem?_append_left af]
   ·obtain rfl:i=k:=af;rw[h6 j hj,List.getElem?_append_right af,h1];simp):P:=h
theorem afU(h:P:=by
 intro i o x ho hx V W;have hlt:i<ops.toList.length:=by simpa using (Array.getElem?_eq_some_iff.1 ho).1
 have hlx:i<pl.length:=(List.getElem?_eq_some_iff.1 hx).1;have e1:ops.toList.drop i=o :: ops.toList.drop (i+1):=by
  rw[<- List.getElem_cons_drop hlt];congr 1;have:ops.toList[i]?=some o:=by rw[Array.getElem?_toList];exact ho
  exact (List.getElem?_eq_some_iff.1 this).2
 have e2:pl.drop i=x :: pl.drop (i+1):=by rw[<- List.getElem_cons_drop hlx];congr 1;exact (List.getElem?_eq_some_iff.1 hx).2
 show bu P a0 _ i _ _ V W=_;rw[e1,e2];rfl):P:=h
theorem aij(h:P:=by
 rcases FB with e|e
 ·exact yI.aa.2.2.2.2.1 k (e▸hk) h
 ·rw[e]at hk;injection hk with hk;have:=yI.aa.1.low k (.inr h);have h9:iB.heap.size<(iB.alloc (.cells (aA x (.slice Af x.f.length cf) (.slice Ae x.es.length ce)) 102)).heap.size:=aj;omega):P:=h
theorem ag6(h:P:=by
 iterate 2 (apply aV.is;intro V W kW hp;(try simp only[aI,aJ,aM,aE,aF,ag]at hp);simp[aL,aw,List.lookup,hp,aS,execOp,ay,ag,aN,kW,q2,pJ,go_sem];rfl)
 intro V W kW hA;simp only[aJ,aM,eA,ag,Nat.reduceAdd]at hA;refine bu.nil ?_;simp only[bF,Act.put,cO,cM,cL,Nat.reduceAdd,hA];have kF:=k2.tr kW;clear hA q2 pJ;go_wp2;go_ret;exact⟨jL,kF⟩):P:=h
theorem aei(h:P:=by
 by_cases hw:aL V o.guard=true
 ·rw[if_pos hw]at ob⊢;generalize (execOp (aw x.2 a0 V) (ay o.op o.type)).run P w=q at *;cases q with
  | ok n w' =>
   cases n <;> simp only[aS]at ob <;> simp only[mm]
   case value v=>exact next _ _ ob.1 ob.2
   case skip=>exact next _ _ ob.1 ob.2
   case enter f args => refine ob.mono ?_;exact aga
  | halt x w'=>simp only[aS]at ob
 ·rw[if_neg hw]at ob⊢;exact next _ _ ob (aN _ _)):P:=h
theorem ahA(h:P:=by
 have alj:=fX.blk;have C3:=ae (ab3 _ _ R v8 w8 fX RQ ZQ);clear jh I0 uK akN mM ZQ;obtain⟨A8,c8,rfl⟩:=fX.slice;go_wp2_with fail
 refine C3.aa.mono ?_;rintro e w9⟨rfl,bG,u9⟩;have pI:=RP.size;have kF:K w w9:=u9.k rP λk hk=>by have:=(alj k hk).1;have:=lQ.aa;omega
 have HO:Hid (aT (λk=>k<lo) lo 206 gQ R (.slice A8 R.length c8) w9):=ae ((bG.less λk hk=>af).low af);clear C3 bG u9 alj fX;exact ahw):P:=h
theorem aje(h:P:=by
 go_enter func44,ntmps44;go_upto_region 1 with (fail);generalize w.alloc _=w1 at *;have q:=hr.cell;have z:=hr.frozen;have d0:=d0 w1 k1;have d:∀i,i<3->w1.cell? ⟨b,off+r*3+i,none⟩=(bZ a)[i]?:=λi hi=>(d w1 k1 i hi).trans Array.getElem?_toList
 obtain⟨h9,k9⟩:=HST.aa a w1 hr k1;clear HST;go_wp2;have e9:=h9.cell;refine bodyPost_ret (v:=cN a) ajd rfl ?_;obtain⟨a0,a1,a2⟩:=a;first|exact⟨(a0,a1,a2),rfl,HFA.aa,k9⟩|exact⟨a0,a1,a2,rfl,HFA.aa,k9⟩):P:=h
theorem awN(h:P:=by
 intro v w' hv;refine⟨λh1=>?_,λi h1 h2 h3 h4=>?_,Qo v⟩
 ·have:=h1 k af hlt;unfold dw at this;rw[if_pos rfl]at this;cases this
 ·have hi:i=k+1:=by
   rcases Nat.lt_trichotomy i (k+1)with h5|h5|h5
   ·have:=h4 k af hlt;unfold dw at this;rw[if_pos rfl]at this;cases this
   ·exact h5
   ·have:=h3 (k+1) h5 (λh=>by have:=tv _ h;omega);unfold dw at this;rw[if_neg af,kK (k+1) af af]at this;cases this
  rw[hi,<- Ck];exact hv):P:=h
theorem yU(h:P:=by go_wp2;go_ret;exact⟨fo,kk⟩):P:=h
theorem K6(h:P:=by
 go_wp2;go_roundw
 case rel=>exact⟨j+1,af,bO,by rw[<- gD.aa,HP.aa];exact cE,gB⟩
 case measure=>simp[intOf];omega):P:=h
theorem ajq(h:P:=by go_ret2;exact⟨_,jL,Fh,bw⟩):P:=h
theorem Pr(h:P:=by
 rcases hx with hx|hx|hx
 ·have:=Jo.aa;have:=uV.aa;have:=MM.aa;omega
 ·have:=(uU.aa.blk gp hx).1;have:=MM.aa;omega
 ·have:=MN.aa gp hx;have:=uV.aa;omega):P:=h
theorem KE(h:P:=by
 go_wp2;go_roundw
 case rel=>exact⟨j+1,af,bO,kJ,yj⟩
 case measure=>simp[intOf];omega):P:=h
theorem awQ(h:P:=by exact Rd.below (B:=w.heap.size) hw.1 ((((aN _ _).setCell aj _).setCell aj _).setCell aj _) hg):P:=h
theorem W7(h:P:=by
 rintro e w4⟨v4,rfl,hs4,k4⟩;rw[<- HS.aa]at hs4;have vu:=ae (my tu.size hs4);have qE:=tu.tr k4;clear q hs4 HB HS;go_wp2;go_roundw
 case rel=>exact⟨j+1,af,bO,vu,qE⟩
 case measure=>simp[intOf];omega):P:=h
theorem awP(h:P:=by
 rcases Nat.eq_zero_or_pos xs.length with h|h
 ·refine⟨List.eq_nil_of_length_eq_zero h,?_⟩;have:=hR.1;omega
 ·obtain⟨b,off,e,-⟩:=hR.2 h;cases e):P:=h
theorem awL(h:P:=by
 have HQ:Hid (P'=(L1,lj)):=ae WE;have HH:=ae (And.intro xV (And.intro uR (And.intro Eb (And.intro Ec (And.intro DU nH)))));clear xV uR Eb Ec DU nH oq u3 gW Nk sI;go_wp2;go_roundw
 case rel=>exact⟨j+1,p3,af,bO,WG,HH.aa.2.1,HH.aa.2.2.1,HH.aa.2.2.2.1,HH.aa.2.2.2.2.1,by rw[<- gD.aa,HQ.aa];exact HH.aa.2.2.2.2.2⟩
 case measure=>simp[intOf];omega):P:=h
theorem ah1(h:P:=by
 iterate 5 (apply aV.is;intro V W kW hp;(try simp only[aI,aJ,aM,aE,aF,ag]at hp);simp[aL,aw,List.lookup,hp,aS,execOp,ay,ag,aN,kW,q,qo,qt,qx,go_sem];rfl)
 (apply aV.is;intro V W kW hp;(try simp only[aI,aJ,aM,aE,aF,ag]at hp);simp[aL,aw,List.lookup,hp,aS,execOp,ay,ag,aN,kW,q,qo,qt,qx,go_sem];rfl)
 exact ah3):P:=h
theorem Wk(h:P:=by
 cases hx:q t
 ·exact ajr
 ·exact awR):P:=h
theorem ahR(h:P:=by
 clear hr fX bJ dc bo;go_wp2;go_roundw
 case rel=>exact⟨j+1,af,bO,by rw[<- gD.aa,HP.aa];exact bG,tF⟩
 case measure=>simp[intOf];omega):P:=h
theorem ahX(h:P:=by
 go_wp2_with (at_builtin;refine jK rfl _ _ 39 rfl _ 8 96 rG rfl rfl lB.a _ rfl x ?p1 ?p2 ?p3 ?_)
 case p1 =>
  exact hr.less λk hk=>by
   rcases hk with (hk|hk)|hk
   ·omega
   ·have:=dU k hk;omega
   ·have:=rQ k hk;omega
 case p2=>omega
 case p3=>exact bq LP nr
 intro v9 w9 bG bJ dc bo;have LQ:=lB.push bG bJ pO;exact ahW):P:=h
theorem Pq(h:P:=by
 clear eU bJ dc bo hown ln xB kA q5;go_wp2;go_roundw
 case rel=>exact⟨j+1,af,bO,zX,k9⟩
 case measure=>simp[intOf];omega):P:=h
theorem Wl(h:P:=by
 have eF:¬(k:Int)<(l.length:Int):=af;have HE:Hid (l.any q=false):=ae (by
  have:=hall.aa;rw[eT af]at this;exact this)
 exact WU):P:=h
theorem Xg(h:P:=by have u0:=(uj.tr u4).tr (ah.bg kA _);exact⟨oT.os.trans u0.os,oT.tape.trans u0.tape,oT.output.trans u0.output,bq u0.size oT.size,λk hk hx=>(oT.block k hk).trans (u0.block k hk hx)⟩):P:=h
theorem Pv(h:P:=by have ba:¬(j:Int)<(l.length:Int):=af;obtain rfl:j=l.length:=af;rw[mC]at hO;exact Pn):P:=h
theorem afT(h:P:=by
 intro b;induction b with
 | zero=>intro j hj;omega
 | succ b ih => exact awS):P:=h
theorem IA(h:P:=by rintro e w'⟨rfl,rfl⟩;have ZS:=mM;go_wp2;go_ret;exact⟨fL,ZS⟩):P:=h
theorem afJ(h:P:=by
 intro V W mJ;rw[hF]at mJ;obtain⟨qD,Ca,Cb⟩:=mJ;have qD:=ae qD;clear hC hg hc0 hF hrow;simp only[bF,Act.put,cO,cM,cL];go_wp2;go_roundw
 case rel=>exact⟨j+1,af,bO,ae (by rw[HT.aa];have:=qD.aa;rw[hsj]at this;exact this),kr.trans (Ca.mono af)⟩
 case measure=>simp[intOf];omega):P:=h
theorem aeX(h:P:=by
 go_wp2_with fail
 refine (JU x _ _ (zE _ k1)).mono ?_;rintro e w2⟨rfl,k2⟩;have bw:=k1.tr k2;have e3:=auo x;cases he:bP x
 ·exact aeU
 ·exact aeV):P:=h
theorem WA(h:P:=by
 clear CC hB T8 RX RZ R3 q8 ql QD QE LS;have HD:=ae R4;have u9:=EG;clear R4;go_wp2;go_roundw
 case rel=>exact⟨j+1,af,bO,HD.aa,u9⟩
 case measure=>simp[intOf];omega):P:=h
theorem PW(h:P:=by
 go_wp2_with (with_reducible refine aci rfl (.tmp 23) (.tmp 24) rfl a b rfl rfl ?_)
 exact DC):P:=h
theorem ajs(h:P:=by go_wp2;go_ret;refine⟨?_,rfl⟩;rw[HE.aa];show Ending.returned (.int _ _)=Ending.returned (.int _ _);congr 2;all_goals omega):P:=h
theorem VE(h:P:=by
 have hz:cells.size=i.size:=by simp[hq]at hi;omega
 simp[execOp,ay,hs,hx,Instr.storeAt,Instr.sureAddr,storeVar,sizeOf,typeInfo,hq,Value.cells,hz];rw[<- hz,hst];simp[Result.andThen]):P:=h
theorem ajr(h:P:=by have pF:Hid ((l.take (k+1)).any q=false):=ae PX;exact Iu):P:=h
theorem KW(h:P:=by obtain⟨iO,Ce,e,h1,h2⟩:=hrl W k;exact VF):P:=h
theorem O0(h:P:=by clear HO;go_wp2;go_ret;exact⟨fo,bw⟩):P:=h
theorem Xh(h:P:=by
 clear eU bJ dc bo hown ln Cm FT;go_wp2;go_roundw
 case rel=>exact⟨j+1,af,bO,es++[x],lk,Db,Dc,Mp,YD,zX,u9⟩
 case measure=>simp[intOf];omega):P:=h
theorem afH(h:P:=by simp only[if_pos (show aL V none=true from rfl)];simp[aw,List.lookup,hp,aE,aF,aS,execOp,ay,go_sem];refine (Tt x _ w' (Mz.aa w' (hc.Ei (λk hk=>hk.elim (λh=>af) (λh=>h.symm)))) hxs).mono ?_;exact VC):P:=h
theorem awS(h:P:=by intro j hj Jh W kW;obtain⟨o,x,ho,hx,hg,hal,hrun⟩:=iM j Jh;have h1:=hq j o x (by rw[List.getElem?_take_of_lt (tv j Jh),Array.getElem?_toList];exact ho) hx cs W kW (λi hi=>ih i (by have:=(hal i hi).2;omega) (hal i hi).1 W kW);rw[hg,if_pos (show aL cs none=true from rfl),hrun cs W (λ_ _=>rfl)]at h1;exact h1.1):P:=h
theorem Vx(h:P:=by
 refine ae λh x hx=>?_
 rw[gE hlt]at hx;rcases List.mem_append.1 hx with hx|hx
 ·exact hall.aa x hx
 ·simp at hx;rw[hx];exact h):P:=h
theorem ID(h:P:=by go_enter func288,ntmps288;go_wp2;go_ret;exact⟨rfl,K.rf w⟩):P:=h
theorem Pt(h:P:=by rintro e w4⟨v4,rfl,hO,k4⟩;exact⟨_,rfl,(hO.less λk hk=>bB hk kW.size).low kW.size,k4⟩):P:=h
theorem Vm(h:P:=by refine (tM (bf k) (ajy W) (fI k) aj).mono ?_;rintro e w''⟨v',rfl,ho,hb⟩;rw[aJ]at ho;exact⟨v',rfl,eN ho,hb⟩):P:=h
theorem Bi(h:P:=by go_wp2;go_ret;exact⟨fL,mM⟩):P:=h
theorem DC(h:P:=by go_ret;exact⟨Bk,kF⟩):P:=h
theorem VF(h:P:=by simp at e;obtain⟨rfl,rfl⟩:=e;exact⟨_,_,rfl,h1,h2⟩):P:=h
theorem agh(h:P:=by
 have:=hI.2.1 ops.size tz (aG _) (λj hj _=>vT) (λj h1 h2=>af);have e:T ops.size (vF fr cs V) W=Q .normal (bF (vF fr cs V) ops.toList 0 a0) W:=by show bu P a0 _ _ _ _ _ W=_;rw[List.drop_eq_nil_of_le aj];rfl
 rw[e,ajY]at this;exact this):P:=h
theorem agZ(h:P:=by obtain⟨⟨Cs,Ct,e3,hF⟩,-⟩:=hp;have hA:=hF _ (aH.rf _ _ _);obtain⟨A3,c3,rfl⟩:=cB hA.1;obtain⟨D3,d3,rfl⟩:=az hA.2;simp[e3,go_sem];exact⟨⟨w'.heap.size,_,_,rfl,af,ai.new _ _ _,λW' u=>hF W' ((aH.bg ((K.rf w').al _) _ _).tr u)⟩,(K.rf w').al _⟩):P:=h
theorem ahK(h:P:=by simp[aL,aw,List.lookup,hp,aS,execOp,ay,qx,qo,go_sem];refine (NY x _ W (HE.aa _ (k1.tr kW)) hs).mono ?_;rintro e w4⟨v2,rfl,ho,k4⟩;exact⟨_,rfl,by obtain⟨kH,kI,e,hF⟩:=Fi ho;exact⟨kH,kI,e,hF.less λk hk=>bB hk kW.size⟩,k4⟩):P:=h
theorem ai0(h:P:=by go_wp2;have e9:=bo.cell;rw[GI]at e9 Cu tA EG;simp only[fN,Nat.reduceAdd,fP]at e9 Cu tA EG;refine bodyPost_ret (v:=.agg (aA x (.slice A9 x.f.length c9) (.slice D9 x.es.length d9))) (by simp[results,results107,go_sem,e9]) rfl ?_;exact⟨_,rfl,Cu,tA,EG⟩):P:=h
theorem Pd(h:P:=by
 go_wp2;go_roundw
 case rel=>exact⟨j+1,af,bO,kJ,qE⟩
 case measure=>simp[intOf];omega):P:=h
theorem Pz(h:P:=by
 go_wp2;go_roundw
 case rel=>exact⟨j+1,af,bO,bG,il⟩
 case measure=>simp[intOf];omega):P:=h
theorem af3(h:P:=by
 show T i (vF fr cs (bj V k (cs k))) W;rw[Ck];refine hI.2.1 i h1 h2 (λj hj Jh=>?_) λj hj FY=>?_
 ·have:=h3 j hj Jh;unfold dw at this;rwa [if_neg Xr]at this
 ·have:=h4 j hj FY;unfold dw at this;rwa [if_neg af]at this):P:=h
theorem agb(h:P:=by
 intro i h1 h2;by_cases hik:i=k
 ·rw[hik];exact ni
 ·exact awT):P:=h
theorem ae8(h:P:=by
 have eF:¬(k:Int)<(la.length:Int):=af;have HE:Hid (decide (la=lb)=true):=by refine ae ?_;have h1:=hall.aa;have h2:=HL.aa;rw[eT af,eT af]at h1;simp[h1]
 go_wp2;exact KA):P:=h
theorem agU(h:P:=by
 intro V W kW;conv=>lhs;simp only[aJ,aM,eA,ag,Nat.reduceAdd]
 intro hA;refine bu.nil ?_;simp only[bF,Act.put,cO,cM,cL,Nat.reduceAdd,hA];go_wp2;go_ret;exact⟨fo,kW⟩):P:=h
theorem KS(h:P:=by rw[hrun];refine⟨h7,?_,trivial,h3⟩;rw[hC];exact hc.tr (aH.fM h3 0)):P:=h
theorem aiM(h:P:=by
 go_enter func130,ntmps130;go_wp2_with fail
 refine (aaX R _ w H2.aa HS.aa lh).mono ?_;rintro e w2⟨v2,rfl,hO,k2⟩;clear H2 HS lh;have HO:=ae hO;obtain⟨A2,c2,rfl⟩:=az hO.ar;clear hO;go_wp2;go_ret;exact⟨_,rfl,HO.aa,k2⟩):P:=h
theorem ajk(h:P:=by
 have ba:¬(j:Int)<(la.length:Int):=af;have HR:Hid (R=true):=ae (by
  have h1:=HT.aa;have h2:=Jc.aa;rw[eT af,eT af]at h1;rw[HI.aa,h1];simp)
 go_wp2;go_ret;exact⟨fo,kr⟩):P:=h
theorem aeI(h:P:=by
 intro l;induction l with
 | nil=>simp
 | cons y l ih =>
  intro hl;have h1:=ih λt ht=>hl t (by simp[ht])
  obtain⟨g1,g2⟩:=hl y aj;have h2:(jS y).length<=101:=auk g1 g2;exact Vb):P:=h
theorem Vf(h:P:=by rintro ⟨g,cap,cur,g1,g2,g3,g4⟩;exact⟨g,cap,cur,g1,g2,(u.block g g2 (Array.getElem?_eq_some_iff.1 g3).1 aj).trans g3,g4⟩):P:=h
theorem Vb(h:P:=by simp only[oc,cT,iE];omega):P:=h
theorem ad2(h:P:=by go_wp2;generalize W3.alloc _=W4 at *;have I8:(if (decide (3<k)||true||!(iU (k:Int) N ⟨s.toArray⟩))=true then (((0,0,[]),l3,true):(Int×Int×List UInt8)×List UInt8×Bool)else (((k:Int),N,s),l3,false))=((0,0,[]),l3,true):=aj;exact ajo):P:=h
theorem VC(h:P:=by rintro e w2⟨v,rfl,ho,hb⟩;exact⟨v,rfl,apR Du ho,hb⟩):P:=h
theorem O9(h:P:=by go_wp2;go_ret;exact⟨jL,by rw[HQ.aa];exact⟨_,_,_,_,_,H1.aa⟩,kb⟩):P:=h
theorem awR(h:P:=by have HE:Hid (l.any q=true):=ae (HA.aa WT);go_wp2;go_ret;exact⟨_,rfl,kW,by rw[HE.aa];simp⟩):P:=h
theorem E6(h:P:=by go_wp2;go_ret;exact⟨Bk,dI⟩):P:=h
theorem Wd(h:P:=by refine (C5.aa W kW).mono ?_;rintro e w4⟨v4,rfl,hO,k4⟩;exact⟨_,rfl,aX.low (aX.floor hO kW.size) kW.size,k4⟩):P:=h
theorem OZ(h:P:=by have:=hcell 0 au;rw[kr.cell Vq];simpa [dJ]using this):P:=h
theorem aen(h:P:=by
 have h':=h;rcases h.2 with ⟨rfl,h0⟩|⟨g,cap,cur,rfl,_,_,hn,hc,_⟩
 ·obtain rfl:l=[]:=List.eq_nil_of_length_eq_zero h0;exact⟨none,0,rfl,Reads.xz h',aj,aj⟩
 ·exact⟨_,_,rfl,Reads.xz h',hn,hc⟩):P:=h
theorem VJ(h:P:=by have ug:(16:Int)<(l.length:Int):=af;exact aja):P:=h
theorem af6(h:P:=by
 intro i h1 h2;cases Cw:L i with
 | false=>rfl
 | true => have NN:ops[i]?=some ops[i]:=Ko;have:=N7 hpl gA hcl h1 NN (λj hj=>hcl.1 i _ NN Cw j hj) k af zV;rw[ni]at this;cases this):P:=h
theorem ahs(h:P:=by
 have kJ:Hid ((l.take (j+1)).filter q=(l.take j).filter q):=ae Wf;rw[<- kJ.aa]at cD;go_wp2;go_roundw
 case rel=>exact⟨j+1,af,bO,cD,pK⟩
 case measure=>simp[intOf];omega):P:=h
theorem aey(h:P:=by
 have nr:w1.heap.size<=w9.heap.size:=by have:=bo.size;simp at this;omega
 clear eU bJ dc bo;go_wp2;go_roundw
 case rel=>exact⟨k+1,af,bO,ajv,dQ,akh,nr⟩
 case measure=>simp[intOf];omega):P:=h
theorem awT(h:P:=by
 cases Cw:L i with
 | false=>rfl
 | true => have NN:ops[i]?=some ops[i]:=Ko;have:=N7 hpl gA hcl af NN (λj hj=>hcl.1 i _ NN Cw j hj) k af zV;rw[ni]at this;cases this):P:=h
theorem IB(h:P:=by simp only[List.foldl_cons,iE];omega):P:=h
theorem aiL(h:P:=by
 have eF:¬(k:Int)<(l.length:Int):=af;have HE:Hid (l.any q=false):=ae (by
  have:=hall.aa;rw[eT af]at this;exact this)
 exact K0):P:=h
theorem ah3(h:P:=by
 iterate 6 (apply aV.is;intro V W kW hp;(try simp only[aI,aJ,aM,aE,aF,ag]at hp);simp[aL,aw,List.lookup,hp,aS,execOp,ay,ag,aN,kW,q,qo,qt,qx,go_sem];rfl)
 exact ah7):P:=h
theorem UY(h:P:=by rw[List.flatMap_append,oc,List.flatMap_nil,List.append_nil,dG,<- e1];exact e2):P:=h
theorem aha(h:P:=by simp[aL,aw,List.lookup,hp,aS,execOp,ay,q1,qa,go_sem];refine (C1.aa W (k1.tr kW)).mono ?_;rintro e w4⟨v4,rfl,hO,k4⟩;exact⟨_,rfl,⟨_,rfl,aX.low (aX.floor hO kW.size) kW.size⟩,k4⟩):P:=h
theorem Pw(h:P:=by rw[mA af];exact h.pre j hj (by rwa [lD (by omega)]at hL)):P:=h
theorem agl(h:P:=by
 have HB:Hid (xR m=D6 (k'+1) s0):=ae (by rw[D6,<- HM.aa]);clear hB ha h1;go_wp2;go_round
 case rel=>exact⟨k'+1,af,bO,xR m,by rw[HX.aa],hl,HB⟩
 case measure=>simp[intOf];omega):P:=h
theorem ahd(h:P:=by refine (C1.aa W (k1.tr kW)).mono ?_;rintro e w4⟨v4,rfl,hO,k4⟩;exact⟨_,rfl,⟨_,rfl,aX.low (aX.floor hO ajn) ajn⟩,k4⟩):P:=h
theorem afN(h:P:=by rw[Bool.eq_false_iff];intro hh;obtain⟨y,hy,e⟩:=E1.1 hh;simp only[List.map_append,j9]at h;exact (List.nodup_append.1 h).2.2 (ax y) (List.mem_map_of_mem hy) (ax x) aj e):P:=h
theorem V0(h:P:=by obtain⟨⟨Cs,Ct,e3,hF⟩,h5,-⟩:=hp;simp[e3,go_sem];exact⟨⟨Cs,Ct,rfl,hF⟩,aN _ _⟩):P:=h
theorem agc(h:P:=by
 have:=VK (V:=vF fr cs V) (w:=W) s [] (λj _ h2=>by
  simp at h2;unfold vF;split
  ·exact XH (j+1) j af ‹_› W hk
  ·exact hp j (hall j af ‹_›))
 simpa using this):P:=h
theorem aji(h:P:=by have HR:Hid (R=false):=ae (by rw[HI.aa];simp;exact λe=>hle (by rw[e]));have BB:((la.length:Int) != (lb.length:Int))=true:=aU;exact WO):P:=h
theorem ad3(h:P:=by intro i hil;obtain⟨cs',hc,ht⟩:=hi i af;rw[hC]at hc;obtain⟨_,hcl,hat⟩:=World.cells?_some hc;refine⟨cs',hcl,hE _ _ _ hcl ht,λj hj=>?_⟩;rw[<- Go.Deep.add_add];exact hat j hj):P:=h
theorem afr(h:P:=by rw[dR,List.flatten_cons,List.flatten_cons,ih,List.take_append,eT (l:=c) OL,hc,show (k+1)*n-n=k*n by rw[Nat.succ_mul];omega]):P:=h
theorem PB(h:P:=by
 go_wp2;try rw[gS]
 exact PC):P:=h
theorem Pf(h:P:=by go_wp2;go_ret;exact⟨jL,k1⟩):P:=h
theorem PC(h:P:=by go_ret;exact⟨fL,hb2⟩):P:=h
theorem af8(h:P:=by
 unfold bj;by_cases hjk:j=k
 ·subst hjk;simpa using hv
 ·rw[if_neg hjk];exact abL (Le:=λw w'=>Below w.heap.size w w') hst _ _ _ _ (hp j ((yO hj).resolve_left hjk)) hb):P:=h
theorem agf(h:P:=by
 intro V' l;induction l with
 | nil=>intro k a _;rfl
 | cons o r ih => intro k a h;simp only[bF,h k (aG _) aj];exact ih _ _ λj h1 h2=>h j af aU):P:=h
theorem W6(h:P:=by simp only[cT,od]at this⊢;have:min j l.length<=16:=af;omega):P:=h
theorem KQ(h:P:=by subst hC;intro W W' h hb;exact h.tr (aH.bg hb _ _)):P:=h
theorem aeh(h:P:=by
 unfold bj;by_cases hjk:j=k
 ·subst hjk;simpa using hv
 ·rw[if_neg hjk];exact abL (Le:=λw w'=>Below w.heap.size w w') st _ _ _ _ (hp j ((yO hj).resolve_left hjk)) hb):P:=h
theorem afX(h:P:=by have h5:=List.all_eq_true.1 hok (o,k) (List.mem_zipIdx_iff_getElem?.2 (by rw[Array.getElem?_toList];exact ho));simp only[cz,hg,List.contains_iff_mem]at h5;exact h5.1.2.1):P:=h
theorem afc(h:P:=by
 have xX:¬(100:Int)<(xt.size:Int):=af;have hr:=ae (HT.aa ⟨h1,h2⟩);go_wp2;go_round
 case rel=>exact⟨k+1,af,bO,hr⟩
 case measure=>simp[intOf];omega):P:=h
theorem ajt(h:P:=by rw[if_neg hjk];exact hI.2.2 j hj ((yO hL).resolve_left hjk)):P:=h
theorem aiy(h:P:=by
 rcases List.mem_append.1 h with h|h
 ·exact .inl h
 ·simp at h;exact .inr ⟨x,aj,h⟩):P:=h
theorem ahL(h:P:=by simp only[aI,aJ,aM,aE,aF,ag]at hp;obtain⟨⟨kH,kI,e6,hF⟩,-⟩:=hp;simp[aw,List.lookup,e6];exact⟨rfl,hF⟩):P:=h
theorem ahS(h:P:=by
 have lB:=ae sL;clear sL q8 hb0;go_wp2;go_roundw
 case rel=>exact⟨j+1,af,bO,P5,gB⟩
 case measure=>simp[intOf];omega):P:=h
theorem OT(h:P:=by go_ret;exact⟨fL,aN _ _⟩):P:=h
theorem ae4(h:P:=by
 rw[gE ha,gE hb,h];constructor
 ·intro e;have:=List.append_cancel_left e;simpa using this
 ·intro e;rw[e]):P:=h
theorem agm(h:P:=by have HR:Hid (R=30/\F=[]):=ae ⟨HC.aa,HF.aa⟩;clear HK CS HC HF;go_wp2;go_ret2;exact⟨_,by rw[HR.aa.1];rfl,by rw[HR.aa.2];exact iF _ _ _ _,kk⟩):P:=h
theorem aie(h:P:=by simp only[aI,aJ,aM,aE,aF,ag]at hp;simp[aL,aw,List.lookup,aS,execOp,ay,aN,go_sem];exact hp.1):P:=h
theorem Xl(h:P:=by go_wp2;go_ret3;exact⟨_,Bk,Wn,k1⟩):P:=h
theorem VD(h:P:=by simp at e;obtain⟨rfl,rfl,rfl⟩:=e;exact⟨az h1,az h2,az h3⟩):P:=h
theorem Xf(h:P:=by have h0:=FT.st kA;exact⟨h0.1.below oT eC,h0.2.1.below oT af,h0.2.2⟩):P:=h
theorem aeP(h:P:=by
 have hch:(mH vk vn vs != 0)=true:=by simp[mH,hv]
 go_wp2;rw[gS];go_ret;exact⟨by rw[pn.aa (by rw[hT.aa];simp[mo,hv])];rfl,ze.aa _ iz⟩):P:=h
theorem ag0(h:P:=by have ba:¬(j:Int)<(l.length:Int):=af;rw[eT af]at hO;have HO:=ae hO;clear hO;go_wp2;go_ret;exact⟨_,rfl,HO.aa,kr⟩):P:=h
theorem KZ(h:P:=by go_wp2;go_ret2;exact⟨jL,k1⟩):P:=h
theorem Ix(h:P:=by simp[zP,sF,execOp,ay,q,z,go_sem]):P:=h
theorem ag5(h:P:=by rintro e w3⟨v3,rfl,hO,k3⟩;have HW:=ae (aX.low (aX.floor hO bw.size) bw.size);replace bw:=bw.tr k3;clear hO C1 C2 C3;go_wp2;exact ajq):P:=h
theorem aiK(h:P:=by
 cases hx:q x
 ·exact ajr
 ·have HE:Hid (l.any q=true):=ae (JJ.aa WT);exact V2):P:=h
theorem aiT(h:P:=by have g1:=cG (bf a.1) (fI _);have g2:=cG a.2.1 h.2.1;have g3:=cG a.2.2 h.2.2;unfold eV;simp only[cT];omega):P:=h
theorem af2(h:P:=by
 unfold bj;by_cases hjk:j=k
 ·subst hjk;simpa using XH (j+1) j af zV W hk
 ·rw[if_neg hjk];exact hp j ((yO hj).resolve_left hjk)):P:=h
theorem K0(h:P:=by go_wp2;go_ret;exact⟨fL,kr⟩):P:=h
theorem adT(h:P:=by refine⟨h.1,h.2.imp id ?_⟩;rintro ⟨g,cap,cur,h1,h2,h3,h4⟩;exact⟨g,cap,cur,h1,h2,(hb.block g (Array.getElem?_eq_some_iff.1 h3).1).trans h3,h4⟩):P:=h
theorem aeT(h:P:=by
 have e3:((es.length:Int)==0)=false:=by rw[IL,F4]
 have HB:Hid (E=110):=ae (by rw[HE.aa,F4];rfl);go_wp2;go_ret;exact⟨E7,bw⟩):P:=h
theorem afi(h:P:=by obtain⟨e1,e2⟩:=h.el W (ah.rf _ _);exact⟨vl,vp,va,rfl,AU h.l e1,AU h.p e2,AU (by rw[Uq];exact h.a) (OB _ _)⟩):P:=h
theorem aes(h:P:=by
 have HE:=ae (pn.aa (by
  rw[HT.aa,if_neg aU,if_neg aU];simp;omega))
 go_wp2;go_ret;exact⟨fL,hb0⟩):P:=h
theorem aeA(h:P:=by obtain⟨HE,HL⟩:=QZ.aa false O3;go_wp2;go_ret2;exact⟨_,fL,OV,XT⟩):P:=h
theorem ahQ(h:P:=by
 clear q8 hb0 aO;go_wp2;go_roundw
 case rel=>exact⟨j+1,af,bO,by rw[<- gD.aa,HP.aa];exact b9,mq⟩
 case measure=>simp[intOf];omega):P:=h
theorem aeO(h:P:=by go_wp2;rw[gS];go_ret;exact⟨by rw[pn.aa (by rw[hT.aa];simp[mo,hn])];rfl,ze.aa _ ((aN _ _).alloc (aG _) _)⟩):P:=h
theorem aeY(h:P:=by
 go_wp2_with fail
 refine hch.aa.mono ?_;rintro e w1⟨rfl,aO⟩;go_wp2;go_ret2;exact⟨_,rfl,Vk,aO⟩):P:=h
theorem VQ(h:P:=by have k4:=k1.trans hb4;clear cU ho hb;go_wp2;go_ret;exact⟨_,rfl,HO.aa,k4⟩):P:=h
theorem afh(h:P:=by simp only[execOp,ay,resolve,invoke,builtin,Sem.run_bind,Sem.run_pure,Result.andThen_ok,List.map_toArray,j9,List.map_nil,hs,hx,hrun]):P:=h
theorem aec(h:P:=by have hn:Hid (rU s=false):=ae (by simp[rU];omega);go_enter func206,ntmps206;go_wp2;go_ret;exact⟨by rw[hn.aa];rfl,rfl⟩):P:=h
theorem aez(h:P:=by obtain⟨HE,HL⟩:=QZ.aa false (by rw[hd];rfl);go_wp2;go_ret2;exact⟨_,fL,OV,hb⟩):P:=h
theorem VX(h:P:=by rw[List.length_map];exact bq (lV _ _) aj):P:=h
theorem aeu(h:P:=by
 intro x hx;rw[gE h]at hx;rcases List.mem_append.1 hx with hx|hx
 ·exact ha x hx
 ·simp at hx;rw[hx];exact hb):P:=h
theorem aeS(h:P:=by have HE:Hid (E=110):=ae (by rw[<- xO];exact EX (by simp[bP];omega));exact aeR):P:=h
theorem Wu(h:P:=by refine (C3.aa W kW).mono ?_;exact sW):P:=h
theorem ag2(h:P:=by rintro e w''⟨v,rfl,ho,hb⟩;exact⟨v,rfl,as6 af ho,hb⟩):P:=h
theorem adY(h:P:=by refine⟨⟨A,c,hb.aR 1 _,?_,h1,h2⟩,E3 (Dl _ _) rfl _⟩;exact hr.keep λk hk=>Below.heap_setCell w _ _ k aU):P:=h
theorem aeQ(h:P:=by
 go_wp2;go_roundw
 case rel=>exact⟨k+1,af,bO,bO,hr,ze.aa _ (below_drewN iz _)⟩
 case measure=>simp[intOf];omega):P:=h
theorem O5(h:P:=by rw[if_neg af];exact⟨rfl,aN _ _⟩):P:=h
theorem VN(h:P:=by unfold bu;rw[hg,if_pos (show aL V none=true from rfl),hx];exact h):P:=h
theorem ahV(h:P:=by
 go_wp2;go_roundw
 case rel=>exact⟨j+1,af,bO,P5,ov⟩
 case measure=>simp[intOf];omega):P:=h
theorem ahT(h:P:=by
 go_wp2;go_roundw
 case rel=>exact⟨j+1,af,bO,P5,mq⟩
 case measure=>simp[intOf];omega):P:=h
theorem ahU(h:P:=by
 go_wp2;go_roundw
 case rel=>exact⟨j+1,af,bO,P5,nL⟩
 case measure=>simp[intOf];omega):P:=h
theorem afP(h:P:=by have z3:=P7 e3;have HQ:Hid (ig m=130):=ae (by unfold ig;rw[show ed m=false from by simp[ed,BS,e3]];rfl);exact Pf):P:=h
theorem afQ(h:P:=by have z4:=P7 e4;have HQ:Hid (ig m=130):=ae (by unfold ig;rw[show ed m=false from by simp[ed,BS,e4]];rfl);exact Pf):P:=h
theorem ad0(h:P:=by
 refine⟨rfl,?_,?_⟩
 ·exact awQ
 ·exact xv (xv (xv (nU hgr hw.2) aj _) aj _) aj _):P:=h
theorem Wb(h:P:=by go_wp2;go_ret;exact⟨fo,by rw[HR.aa];exact HF.aa⟩):P:=h
theorem PR(h:P:=by go_enter func296,ntmps296;exact Dt):P:=h
theorem PS(h:P:=by go_enter func297,ntmps297;exact Dt):P:=h
theorem PT(h:P:=by go_enter func298,ntmps298;exact Dt):P:=h
theorem PU(h:P:=by go_enter func299,ntmps299;exact Dt):P:=h
theorem aeB(h:P:=by obtain⟨HE,HL⟩:=QZ.aa true O3;go_wp2;go_ret2;exact⟨_,fL,by rw[HL.aa];exact Qc,XT⟩):P:=h
theorem aeN(h:P:=by clear hR;generalize l.length=n at *;go_enter func155,ntmps155;go_wp2;go_step3;go_wp2;rw[gS];exact OT):P:=h
theorem aeE(h:P:=by
 induction l with
 | nil=>simp
 | cons y l ih =>
  have h1:=ih λx hx=>hk x Ds
  have h2:=hk y aj;exact Vb):P:=h
theorem KA(h:P:=by go_ret;exact⟨fL,hb⟩):P:=h
theorem afy(h:P:=by
 by_cases hw:aL V o.guard=true
 ·rw[if_pos hw]at e⊢;exact mm.imp key e
 ·rw[if_neg hw]at e⊢;exact key _ _ e):P:=h
theorem afZ(h:P:=by
 intro V' hV';unfold wants aL;cases hg:o.guard with
 | none=>rfl
 | some y=>obtain⟨j,b⟩:=y;simp only[hV' j (hgd j b hg)]):P:=h
theorem agw(h:P:=by
 unfold yZ gV;split
 ·rename_i h;simp only[cz,decide_eq_true_eq]at h;rw[AX,wW];omega
 ·simp):P:=h
theorem agE(h:P:=by
 rcases hx with hx|hx|hx
 ·have:=Jo.aa;right;omega
 ·have:=(uU.aa.blk k hx).1;have:=Jo.aa;right;omega
 ·exact .inl hx):P:=h
theorem ahN(h:P:=by
 simp only[aw,List.lookup];exact h3.less λk hk=>by
  rcases hk with hk|hk
  ·have:=hY k hk;omega
  ·have:=bN k hk;omega):P:=h
theorem Wq(h:P:=by intro v9 w9 bG bJ dc bo;have tF:=oY.trans bo;exact ahR):P:=h
theorem ag7(h:P:=by
 go_wp2;go_roundw
 case rel=>exact⟨j+1,af,bO,by rw[HQ.aa];exact HO.aa,k5⟩
 case measure=>simp[intOf];omega):P:=h
theorem aeg(h:P:=by
 cases y with
 | tmp t => simp only[beq_iff_eq]at h4;simp only[tj,aw,h4]
 | const v=>rfl
 | global g=>rfl
 | func f=>rfl):P:=h
theorem agi(h:P:=by
 rcases h with h|h
 ·exact .inl h
 ·rcases h4 with h4|h4 <;> rw[h4]at h
  ·exact .inr h
  ·injection h with h;omega):P:=h
theorem ah5(h:P:=by simp[aL,aw,List.lookup,hp,aS,execOp,ay,ag,q,qo,qt,qx,BM,go_sem];refine (C2.aa W kW).mono ?_;exact sW):P:=h
theorem Pc(h:P:=by go_wp2;go_ret;exact⟨fo,qE⟩):P:=h
theorem aip(h:P:=by obtain⟨css,h1,h2,h3⟩:=h;exact⟨css,eE h1 u hN,h2,λw'' u'=>h3 w'' ((u.more λ_ _=>.inl trivial).tr u')⟩):P:=h
theorem Xn(h:P:=by go_wp2;go_ret;exact⟨ajb,k4⟩):P:=h
theorem aer(h:P:=by rw[ih af];simp only;rw[hd,oc,dG,C.fwd _ hx,gE hk']):P:=h
theorem adZ(h:P:=by
 go_wp2;all_goals
  go_ret
  refine⟨rfl,ze _ _ _ af (λhpos=>?_) af af⟩
  first|rfl|omega):P:=h
theorem ahP(h:P:=by
 rcases dc with h|h
 ·exact .inl (h▸hk)
 ·rw[h]at hk;injection hk with hk;have:=kW.size;exact .inr af):P:=h
theorem PG(h:P:=by go_wp2;go_ret;exact⟨Bk,kG⟩):P:=h
theorem Xi(h:P:=by clear HO HJ eB HQ;go_wp2;go_ret;exact⟨_,rfl,HL.aa,Cm,uj⟩):P:=h
theorem ah2(h:P:=by simp[aL,aw,List.lookup,hp,aS,execOp,ay,ag,q,qo,qt,qx,go_sem];refine (C2.aa W kW).mono ?_;exact sW):P:=h
theorem aiS(h:P:=by rintro e w4⟨v4,rfl,hO,k4⟩;exact⟨_,rfl,(hO.fx λ_ h=>h).less λk hk=>bB hk kW.size,k4⟩):P:=h
theorem aeH(h:P:=by
 rw[hfn];have:(jx []).length=1:=by simp[jx,aD,fJ,be]
 rw[this];unfold eO;rw[cT];omega):P:=h
theorem ahZ(h:P:=by simp[aL,aw,List.lookup,hp,aS,execOp,ay,ag,q2,pJ,go_sem];refine (C4.aa W kW).mono ?_;exact sW):P:=h
theorem aiA(h:P:=by
 split
 ·exact⟨⟨List.prefix_refl _,List.prefix_refl _,rfl⟩,⟨h.ab,h.prom⟩⟩
 ·exact⟨fe.rf _,h⟩):P:=h
theorem aiJ(h:P:=by rintro e w2⟨rfl,k2⟩;have kF:=k1.tr k2;clear C1 C2;go_wp2;go_ret;exact⟨by rw[HR.aa];first|done|rfl,kF⟩):P:=h
theorem Xj(h:P:=by
 go_wp2;go_meet
 case rel=>exact⟨_,_,_,_,_,_,_,_,_,_,D,HD⟩):P:=h
theorem agx(h:P:=by
 rw[HF.aa];split
 ·rename_i ho;have:=abn rs;rw[abX ho]at this;simp only;omega
 ·simp):P:=h
theorem UG(h:P:=by have:=(List.getElem?_eq_some_iff.1 hu).1;simp at this;omega):P:=h
theorem UK(h:P:=by have:=(List.getElem?_eq_some_iff.1 hu).1;simpa using this):P:=h
theorem WV(h:P:=by rintro e w4⟨v4,rfl,hO,k4⟩;exact⟨_,rfl,hO.ar,k4⟩):P:=h
theorem agQ(h:P:=by
 have:=eE hown' (ah.b6 (X:=λk=>k=B0) rfl 0 v') λb hb e=>aky KP
 simpa using this):P:=h
theorem aif(h:P:=by
 exact hr.less λk hk=>by
  rcases hk with hk|hk
  ·exact hk
  ·have:=QI k hk;exact .inr af):P:=h
theorem Ph(h:P:=by exact absurd (h1.ja hx2) au):P:=h
theorem aih(h:P:=by
 rcases FB with e|e
 ·exact .inl (.inr (e▸h))
 ·rw[e]at h;injection h with h;simp at hk;omega):P:=h
theorem afb(h:P:=by
 refine ae λh j hj hjk=>?_
 by_cases e:j=k
 ·subst e;exact h
 ·exact hall.aa j hj af):P:=h
theorem af9(h:P:=by have h4:=h3 m h1 (λh=>by have:=tv m h;omega);rw[aks m (aG _) af]at h4;cases h4):P:=h
theorem agP(h:P:=by obtain⟨cur,hb⟩:=gg IM ej;unfold ai at hb;rw[hb]at hj;injection hj with hj;rw[<- hj];rfl):P:=h
theorem ae0(h:P:=by
 go_wp2;go_roundw
 case rel=>exact⟨k+1,af,bO,cU,Mh⟩
 case measure=>simp[intOf];omega):P:=h
theorem aff(h:P:=by
 go_wp2;go_roundw
 case rel=>exact⟨j+1,af,bO,kJ,kr⟩
 case measure=>simp[intOf];omega):P:=h
theorem Ps(h:P:=by go_ret;exact⟨by rw[ir.aa];rfl,k1⟩):P:=h
theorem adS(h:P:=by refine⟨h.1,h.2.imp id ?_⟩;rintro ⟨g,cap,cur,h1,h2,h3⟩;exact⟨g,cap,cur,h1,af,h3⟩):P:=h
theorem Vt(h:P:=by rintro rfl;exact absurd (h1.ja h.blk) au):P:=h
theorem Xt(h:P:=by clear HR;go_wp2;go_ret;exact⟨fL,k⟩):P:=h
theorem ahD(h:P:=by have:=hall.aa l[j] (List.mem_take_iff_getElem.2 ⟨j,af,rfl⟩);rw[h1]at this;cases this):P:=h
theorem ael(h:P:=by rintro v w w'⟨A,c,rfl,hr⟩ hb;exact⟨A,c,rfl,(hr.below hb (aG _)).more hb.size⟩):P:=h
theorem aev(h:P:=by go_wp2;go_ret2;exact⟨_,fL,OV,dI⟩):P:=h
theorem Vi(h:P:=by go_wp2;go_ret;exact⟨E7,bw.tr k3⟩):P:=h
theorem afk(h:P:=by have:=eE ho us (λb hb e=>pE KP);simpa [show aQ.size=8 from rfl]using this):P:=h
theorem WU(h:P:=by go_wp2;go_ret;exact⟨_,rfl,kr,by rw[HE.aa];simp⟩):P:=h
theorem Xa(h:P:=by clear hs HB;go_wp2;go_ret;exact⟨_,rfl,HS.aa,kr⟩):P:=h
theorem Vr(h:P:=by go_wp2;go_ret;exact⟨fo,k1.tr kr⟩):P:=h
theorem afS(h:P:=by simp only[Fy,cz]at gA;intro j hj;simpa using List.all_eq_true.1 gA.1 j hj):P:=h
theorem ah6(h:P:=by simp[aL,aw,List.lookup,hp,aS,execOp,ay,ag,q,qo,qt,qx,BM,go_sem];exact Wu):P:=h
theorem afm(h:P:=by exact eE (eE h.a u1 λb hb=>(h.s7 hb).2.2.2.2) us λb hb=>(h.s7 hb).2.2.1):P:=h
theorem aiY(h:P:=by
 cases l with
 | nil=>exact .inl rfl
 | cons x l=>exact .inr ⟨.string x.1,aj,aj⟩):P:=h
theorem Pn(h:P:=by go_wp2;go_ret;exact⟨_,rfl,hO,kr⟩):P:=h
theorem adU(h:P:=by exact⟨v',w',hrun,h2,h3,h5,(aN _ _).grown h3 hbase λk hk=>(hown.lt k hk).1⟩):P:=h
theorem UR(h:P:=by simp[Act.put,Array.getElem?_setIfInBounds_ne hne]):P:=h
theorem agV(h:P:=by rintro v w w'⟨vf,ve,e,h⟩ k;exact⟨vf,ve,e,λW' u=>h W' ((aH.bg k _ _).tr u)⟩):P:=h
theorem Wg(h:P:=by go_enter func283,ntmps283;exact sV):P:=h
theorem Wh(h:P:=by go_enter func284,ntmps284;exact sV):P:=h
theorem Wi(h:P:=by go_enter func285,ntmps285;exact sV):P:=h
theorem ail(h:P:=by
 rcases Nk k hk with h|h
 ·exact G7.aa k h
 ·have:=R8.aa.size;exact .inr af):P:=h
theorem WO(h:P:=by go_wp2;go_ret;exact⟨fo,K.rf w⟩):P:=h
theorem WS(h:P:=by go_enter func300,ntmps300;exact Dt):P:=h
theorem aiP(h:P:=by
 rcases List.mem_append.1 hg with hg|hg
 ·exact Sn g hg
 ·simp at hg;subst hg;exact sq):P:=h
theorem aiV(h:P:=by have HS:=ae hs;clear hs ho qx;go_wp2;go_ret;exact⟨_,rfl,HS.aa,k1.tr (k2.tr k3)⟩):P:=h
theorem afv(h:P:=by go_wp2;go_ret;exact⟨jL,by rw[HQ.aa];exact⟨_,_,_,_,_,HW.aa⟩,kb⟩):P:=h
theorem afO(h:P:=by go_enter func89,ntmps89;go_wp2;go_ret;exact⟨by rw[HR.aa];simp[h0,h1],k1⟩):P:=h
theorem agX(h:P:=by rintro v w w'⟨vf,ve,e,h⟩ k;exact⟨vf,ve,e,λW' u=>h W' ((aH.row k hr).tr u)⟩):P:=h
theorem PZ(h:P:=by exact ho s (List.mem_filter.1 hs).1):P:=h
theorem ai2(h:P:=by simp[aL,aw,List.lookup,hp,aS,execOp,ay,ag,q2,Dd,yL,go_sem];exact Wu):P:=h
theorem agO(h:P:=by
 rcases hown'.2 with ⟨-,h0⟩|⟨g',cap',cur',e,-⟩
 ·omega
 ·exact⟨g',cap',e⟩):P:=h
theorem afl(h:P:=by exact eE (eE h.l u1 λb hb e=>h.ne b hb e) us λb hb=>(h.oO hb).2.2.1):P:=h
theorem agI(h:P:=by have HR:Hid (R=120):=ae (no.aa λh=>by have:=vO h;omega);exact yU):P:=h
theorem aeM(h:P:=by obtain⟨vf,ve,rfl,h1,h2⟩:=h;exact⟨vf,ve,rfl,dB _ _ _ _ h1 k,aW h2 k⟩):P:=h
theorem Xo(h:P:=by go_wp2;go_ret;exact⟨by rw[HS.aa];rfl,gP⟩):P:=h
theorem afj(h:P:=by intro e;obtain⟨IV,h2⟩:=gg h.a e;exact absurd (h1.ja h2) au):P:=h
theorem ahg(h:P:=by rw[lD af]at hL;rw[mA af,lD af];exact h.al hL):P:=h
theorem ajf(h:P:=by clear hI hL hO yd;go_wp2;go_ret3;exact .inr ⟨g,gd,B,_,_,rfl,hF.aa,HI.aa,kr⟩):P:=h
theorem VL(h:P:=by simpa [List.getD_eq_getElem?_getD]using this):P:=h
theorem V2(h:P:=by go_wp2;go_ret;exact⟨fL,kW⟩):P:=h
theorem ahy(h:P:=by
 rcases hx with hx|hx
 ·exact hx
 ·have:=(Yl k hx).2;have:=(akM k hk).1;omega):P:=h
theorem Xm(h:P:=by go_wp2;go_ret;exact⟨fo,k4⟩):P:=h
theorem ae9(h:P:=by right;rw[List.all_eq_false];exact⟨l[k],bW h,by simpa using hb⟩):P:=h
theorem af0(h:P:=by
 funext j;unfold vF bj;split
 ·rfl
 ·rw[if_neg Xr]):P:=h
theorem aim(h:P:=by
 rcases Nk k h with h|h
 ·exact yH.aa k hk h
 ·have:=(Zm.aa k hk).2;omega):P:=h
theorem Vd(h:P:=by obtain⟨A,c,rfl,_⟩:=h;exact⟨A,c,rfl⟩):P:=h
theorem afg(h:P:=by
 split
 ·unfold fc;split
  ·exact hl
  ·exact hl.erase _
 ·exact hl):P:=h
theorem aix(h:P:=by
 split at h
 ·exact .inl h
 ·split at h
  ·exact .inl h
  ·exact aiy):P:=h
theorem adV(h:P:=by have HE:=ae e;clear e;go_enter func250,ntmps250;exact ajs):P:=h
theorem agR(h:P:=by obtain⟨cur,hb⟩:=gg hrow h2;unfold ai at hb;rw[e,hK]at hb;cases hb):P:=h
theorem afM(h:P:=by
 rcases hk with ⟨g,_⟩|⟨_,g,_⟩|⟨g,_⟩
 ·omega
 ·exact g
 ·omega):P:=h
theorem age(h:P:=by
 unfold vF;split
 ·exact (hI.2.2 j ‹_› vT).symm
 ·rfl):P:=h
theorem VR(h:P:=by exact absurd (h1.ja h.blk) au):P:=h
theorem aiz(h:P:=by have:=acY s.prom (fD r);show (ia s.prom (fD r)).length<=_;omega):P:=h
theorem ahF(h:P:=by exact ((dI.setCell aj _).setCell aj _).setCell aj _):P:=h
theorem WD(h:P:=by exact⟨rfl,by rw[HF.aa];exact HN.aa⟩):P:=h
theorem WM(h:P:=by right;exact⟨af,.inl af⟩):P:=h
theorem ad8(h:P:=by have sE:q%C<C:=Nat.mod_lt _ hC0;rw[e,h3 _ _ ot sE,hfg _ _ ot sE]):P:=h
theorem aho(h:P:=by go_wp2;go_ret;exact⟨by rw[ZK.aa];rfl,by rw[ZK.aa];exact HF.aa⟩):P:=h
theorem ai7(h:P:=by go_wp2;go_ret;exact⟨by rw[HQ2.aa];rfl,by rw[HQ2.aa];exact HN.aa⟩):P:=h
theorem agY(h:P:=by refine (NX t.e _ w' (HE.aa _ kw) hst).mono ?_;exact ag2):P:=h
theorem air(h:P:=by have tF:=il.trans bo;clear hr lB bG bJ dc bo q9;exact Ws):P:=h
theorem aja(h:P:=by have HR:Hid (R=false):=ae (by rw[HI.aa];simp[fT]);exact yU):P:=h
theorem aeK(h:P:=by rw[he,aeJ];rw[he,aeJ]at hle;exact⟨af,af,hle⟩):P:=h
theorem afd(h:P:=by have HE:Hid (mX l=false):=ae (HF.aa af);exact sV):P:=h
theorem afe(h:P:=by have HE:Hid (pZ l=false):=ae (HF.aa af);exact sV):P:=h
theorem afs(h:P:=by have:=congrArg (List.drop 1) h.post;simpa [List.drop_drop]using this):P:=h
theorem af5(h:P:=by have hjk:j≠k:=Xr;unfold bj;exact ajt):P:=h
theorem agL(h:P:=by
 go_wp2;try rw[gS]
 go_ret;exact⟨fo,k1⟩):P:=h
theorem aeb(h:P:=by rw[List.all_eq_false];exact⟨l[k],bW h,Pm⟩):P:=h
theorem afa(h:P:=by intro x hx;obtain⟨k,hk,rfl⟩:=List.getElem_of_mem hx;exact h k hk):P:=h
theorem aiW(h:P:=by unfold uo;rw[h1,Int.toNat_natCast,List.getElem?_eq_getElem h2];rfl):P:=h
theorem aeU(h:P:=by have HR:Hid (R=false):=ae (by rw[HO.aa,he];rfl);exact O0):P:=h
theorem ahl(h:P:=by rw[mA af];exact GJ K4):P:=h
theorem ahW(h:P:=by have tF:=il.trans bo;clear hr lB bG bJ dc bo;exact Ws):P:=h
theorem aii(h:P:=by exact bB (I3.aa.low k (.inl (.inl h))) wG.size):P:=h
theorem ai4(h:P:=by
 go_wp2_with fail
 go_meet
 case rel=>exact⟨by rw[hd.aa];rfl,rfl⟩):P:=h
theorem afB(h:P:=by rintro v w w'⟨b,e,h1,h2⟩ k;exact⟨b,e,h1,h2.below k h2.lt⟩):P:=h
theorem afW(h:P:=by
 unfold vF;split
 ·exact (hI.2.2 j ‹_› (hal j hj)).symm
 ·rfl):P:=h
theorem ahi(h:P:=by rw[mA af];exact a6 K4):P:=h
theorem ahj(h:P:=by rw[mA af];exact a7 K4):P:=h
theorem ahk(h:P:=by rw[mA af];exact a8 K4):P:=h
theorem aiB(h:P:=by
 intro h1;rcases ht with h2|h2
 ·rw[h1]at h2;cases h2
 ·exact h2):P:=h
theorem ad9(h:P:=by have:=World.block_lt_of_cell? w _ xY;simpa [Addr.add]using this):P:=h
theorem aeL(h:P:=by simp at hu;rcases hu with rfl|rfl|rfl|rfl|rfl|rfl|rfl|rfl <;> rfl):P:=h
theorem af7(h:P:=by intro i h1 h2;unfold dw;rw[if_neg af];exact Rh i h1 h2):P:=h
theorem aiR(h:P:=by
 clear hr;go_wp2_with fail
 go_meet
 case rel=>exact⟨e.aa,rfl⟩):P:=h
theorem aeD(h:P:=by obtain⟨css,h1,h2,h3⟩:=h;exact⟨css,my hb h1,h2,h3⟩):P:=h
theorem aeV(h:P:=by have HR:Hid (R=m):=ae (by rw[HO.aa,he];rfl);exact O0):P:=h
theorem ae3(h:P:=by
 intro hk;rcases hkk with h|h|h
 ·omega
 ·exact h.2.1
 ·omega):P:=h
theorem af4(h:P:=by
 unfold bj;by_cases hjk:j=k
 ·subst hjk;simp
 ·exact ajt):P:=h
theorem agu(h:P:=by go_ret;exact⟨_,fo,by rw[HR.aa];exact hV,hU⟩):P:=h
theorem WJ(h:P:=by exact⟨h,hG,Nat.le_add_right _ _⟩):P:=h
theorem aex(h:P:=by rw[HF.aa];unfold fC;simpa [List.flatMap_append]using eU):P:=h
theorem aga(h:P:=by rintro e w''⟨v,rfl,hv,hb⟩;exact⟨v,rfl,next _ _ hv hb⟩):P:=h
theorem agp(h:P:=by
 unfold wy at hq;split at hq
 ·cases hq
 ·simp at hq;rw[hq]):P:=h
theorem agJ(h:P:=by have HR:Hid (R=120):=ae (HN.aa af);exact yU):P:=h
theorem ahJ(h:P:=by simp only[binOp,Sem.run_bind,h,Result.andThen_ok,Sem.run_pure]):P:=h
theorem U3(h:P:=by simp only[cT];omega):P:=h
theorem Va(h:P:=by simp only[cT];omega):P:=h
theorem ae1(h:P:=by clear hok;go_wp2;go_ret2;exact⟨_,fL,ho,hb⟩):P:=h
theorem ahw(h:P:=by go_wp2;go_ret;exact⟨_,rfl,by rw[lQ.aa];exact HO.aa,kF⟩):P:=h
theorem adW(h:P:=by clear e hm;go_enter func269,ntmps269;exact ajs):P:=h
theorem aea(h:P:=by rw[gE h,List.all_append];simp):P:=h
theorem afo(h:P:=by go_wp2;go_ret;exact⟨_,rfl,k1.tr yj,by rw[HR.aa];simp⟩):P:=h
theorem WC(h:P:=by exact⟨h,mU.rf _,he,aj⟩):P:=h
theorem afL(h:P:=by rw[gE h,List.map_append];rfl):P:=h
theorem agG(h:P:=by obtain⟨h1,-⟩:=Ye hd;injection h1 with h1 h2;cases h1):P:=h
theorem aeR(h:P:=by clear xO;go_wp2;go_ret;exact⟨fL,bw⟩):P:=h
theorem ae6(h:P:=by subst hC;exact λW W' h1 hb=>h1.trans (hb.mono h1.size)):P:=h
theorem Vv(h:P:=by exact .inr (.inr (.inr (.inl e)))):P:=h
theorem Vw(h:P:=by exact .inr (.inr (.inr (.inr e)))):P:=h
theorem afp(h:P:=by go_wp2;go_ret;exact⟨_,rfl,k1.tr kr,fo⟩):P:=h
theorem ain(h:P:=by
 rcases hk with h|h
 ·exact .inl (.inl h)
 ·exact .inr h):P:=h
theorem aiX(h:P:=by rintro e w4⟨v4,rfl,hO,k4⟩;exact⟨_,rfl,hO.now,k4⟩):P:=h
end Go.Proofs.YtoeiinllelipoaaGreat
