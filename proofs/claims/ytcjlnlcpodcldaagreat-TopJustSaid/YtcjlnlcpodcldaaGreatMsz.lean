/-
  Scripts of tactics. Conditions: none.
-/
import Derived.WalkLawsBesides
import Derived.WalkSpells
import Derived.Deep.AppendLies
import Derived.Laws.CopyOwn
import Derived.Lib.Hide
import Derived.Lib.SmallJoins
import Derived.Deep.RegionHeld3
import Derived.Deep.DrawnRows
import Derived.Conc.LoneSelect
import Derived.Deep.CutBlock
import Derived.Sort.MapsRangeIn
import Derived.TacticsInMore
import Derived.LoopNIn
import Derived.LoopIn
import Derived.RangeFuncNested
import Derived.Lib.SlicesDelete
import Derived.Shelf.SlSortCmp.NoneTotal
namespace Go.Proofs.YtcjlnlcpodcldaaGreat
open Go Go.RowKit
open List renaming length→Z
open _root_.Array renaming size→D
open Go.World renaming heap→L,alloc→aU,setCell→aV
open Go.Value renaming ownBlock→aW
open Go.Value renaming int→G,slice→F,pointer→aj,bool→ar,tuple→au,agg→av,string→aw
open Go.IntKind renaming i64→J,u64→E
open Option renaming none→U,some→I
open Go.Ending renaming returned→ak
open Go.Obj renaming cells→aq
open Go.World renaming setCell→ax,alloc→ay
open Bool renaming false→az,true→aA
open And renaming intro→aB
open List renaming lookup→aC,getElem?_eq_getElem→aE,getElem?_eq_some_iff→aF
open _root_.Array renaming getElem?_toList→aD,getElem?_eq_some_iff→aG
open Nat renaming le_succ→aH
open Or renaming inl→aI,inr→aJ
open Go renaming Calls→aK,execOp→aL,bodyPost_ret→aM,World→aP,Value→aQ
open Go.RowKit renaming Below→aN,intOf→aO
set_option linter.unusedVariables false
variable {P:Prop}
theorem bP:type_of% @Nat.le_refl:=@Nat.le_refl
theorem cZ:type_of% @Nat.lt_of_lt_of_le:=@Nat.lt_of_lt_of_le
theorem cQ:type_of% @Nat.le_trans:=@Nat.le_trans
theorem eP:type_of% @Below.refl:=@Below.refl
theorem dJ:type_of% @List.getElem_mem:=@List.getElem_mem
theorem iY:type_of% @List.take_succ_eq_append_getElem:=@List.take_succ_eq_append_getElem
theorem jq:type_of% @List.take_of_length_le:=@List.take_of_length_le
theorem dN:type_of% @List.forall_mem_cons:=@List.forall_mem_cons
theorem cC:type_of% @List.cons_append:=@List.cons_append
theorem bZ:type_of% @List.nil_append:=@List.nil_append
theorem xm:type_of% @List.setIfInBounds_toArray:=@List.setIfInBounds_toArray
theorem vT:type_of% @List.set_cons_zero:=@List.set_cons_zero
theorem vU:type_of% @List.set_cons_succ:=@List.set_cons_succ
theorem TP:type_of% @List.take_succ_cons:=@List.take_succ_cons
theorem TU:type_of% @List.take_zero:=@List.take_zero
theorem fI:type_of% @Bool.and_eq_true:=@Bool.and_eq_true
theorem fg:type_of% @List.length_append:=@List.length_append
theorem gA:type_of% @List.append_assoc:=@List.append_assoc
theorem yq:type_of% @List.all_eq_true:=@List.all_eq_true
theorem r7:type_of% @List.mem_append:=@List.mem_append
theorem gH:type_of% @List.length_cons:=@List.length_cons
theorem oo:type_of% @List.length_filter_le:=@List.length_filter_le
theorem oW:type_of% @List.mem_of_mem_take:=@List.mem_of_mem_take
theorem oV:type_of% @World.ownsRow_nil:=@World.ownsRow_nil
theorem jE:type_of% @Exit.noGoto_ret:=@Exit.noGoto_ret
theorem xj:type_of% @World.ownsRow.alloc:=@World.ownsRow.alloc
theorem mN:type_of% @List.map_cons:=@List.map_cons
theorem yp:type_of% @List.flatMap_cons:=@List.flatMap_cons
theorem sc:type_of% @List.length_take:=@List.length_take
theorem fw:type_of% @Nat.zero_le:=@Nat.zero_le
theorem mr:type_of% @Nat.zero_add:=@Nat.zero_add
theorem pL:type_of% @List.take_length:=@List.take_length
theorem bV:type_of% @if_pos:=@if_pos
theorem bQ:type_of% @if_neg:=@if_neg
theorem aY(h:P):Hid P:=h
theorem _root_.Go.RowKit.Hid.aX(h:Hid P):P:=h
theorem gP(h:P:=by kernel_rfl):P:=h
theorem bu(h:P:=by simp):P:=h
theorem aZ(h:P:=by omega):P:=h
theorem bL(h:P:=by grind):P:=h
theorem aid(h:P:=by simpa [ax]using h.size):P:=h
theorem cN(h:P:=by simp;omega):P:=h
theorem IL(h:P:=by simpa using hR.len):P:=h
theorem GA(h:P:=by simp_all):P:=h
theorem E3(h:P:=by unfold maxLen;omega):P:=h
theorem Ym(h:P:=by rw[hz2];omega):P:=h
theorem NR(h:P:=by simpa using h0):P:=h
theorem Dz(h:P:=by simpa using h):P:=h
theorem dh(h:P:=by go_num):P:=h
theorem bG(h:P:=by decide):P:=h
theorem vP(h:P:=by simpa using hk):P:=h
theorem dH(h:P:=by rfl):P:=h
theorem Sl(h:P:=by simpa using hx):P:=h
theorem KZ(h:P:=by simp[h]):P:=h
theorem IM(h:P:=by simpa using h4):P:=h
theorem Yo(h:P:=by simp[results,results260,go_sem,e0,e1,e2]):P:=h
theorem NW(h:P:=by simp at hi):P:=h
theorem Sn(h:P:=by rw[hc,Nat.succ_mul];omega):P:=h
theorem Sq(h:P:=by simpa using hi):P:=h
theorem ais(h:P:=by rw[<- h1];exact EX C bw λcs hcs=>(h2 cs hcs).1):P:=h
theorem iF(h:P:=by assumption):P:=h
theorem NX(h:P:=by simp[h2]):P:=h
theorem NY(h:P:=by trivial):P:=h
theorem Yr(h:P:=by simpa [hlt]using tA):P:=h
theorem GF(h:P:=by simpa using hj):P:=h
theorem Yt(h:P:=by simpa using hj'):P:=h
theorem Yu(h:P:=by simp[Op.bytesLess]):P:=h
theorem aiG(h:P:=by intro cs hcs;obtain⟨y,_,rfl⟩:=List.mem_map.1 hcs;rfl):P:=h
theorem E4(h:P:=by simpa using h1):P:=h
theorem Yx(h:P:=by simp[ByteArray.size]):P:=h
theorem ki(h:P:=by rw[HE.aX];rfl):P:=h
theorem Su(h:P:=by rw[HC.aX,hv]):P:=h
theorem aiM(h:P:=by rw[HE.aX,hv,hk];rfl):P:=h
theorem N6(h:P:=by rw[HE.aX]):P:=h
theorem aiP(h:P:=by intro e;injection e with e;exact UE e.symm):P:=h
theorem Sw(h:P:=by rw[HL.aX];exact oV _ _ _ _):P:=h
theorem Sy(h:P:=by simp[pT,hok]):P:=h
theorem Yz(h:P:=by have:=h.1;omega):P:=h
theorem N7(h:P:=by simp[h.1]):P:=h
theorem Sz(h:P:=by simp only[rA];omega):P:=h
theorem K0(h:P:=by simp[hx]):P:=h
theorem SC(h:P:=by simp[ax]):P:=h
theorem ai4(h:P:=by simp[go_sem,aL,scase,Act.eval]):P:=h
theorem ai5(h:P:=by simp[results,f167,Frame.at]):P:=h
theorem YG(h:P:=by simpa using hl):P:=h
theorem ai6(h:P:=by simp[go_sem,aL,rcase,Act.eval]):P:=h
theorem ai7(h:P:=by simp[results,f168,Frame.at]):P:=h
theorem zH(h:P:=by simp at h):P:=h
theorem SD(h:P:=by simp[setBlock]):P:=h
theorem Oa(h:P:=by rw[e]):P:=h
theorem ai8(h:P:=by simpa using congrArg Z h2):P:=h
theorem BR(h:P:=by simpa using h2):P:=h
theorem IQ(h:P:=by rw[HB.aX];rfl):P:=h
theorem YK(h:P:=by rw[HE.aX,hok];rfl):P:=h
theorem ajm(h:P:=by rw[HO.aX];simp[hn]):P:=h
theorem jB(h:P:=by rw[HR.aX];rfl):P:=h
theorem Ob(h:P:=by simpa using h5):P:=h
theorem SG(h:P:=by simp[mP,hok]):P:=h
theorem Oc(h:P:=by simpa using e):P:=h
theorem K1(h:P:=by simpa using h3):P:=h
theorem SH(h:P:=by cases hj):P:=h
theorem kP(h:P:=by cases h):P:=h
theorem ajr(h:P:=by obtain⟨-,v2,W2,e,h9⟩:=xL uZ;cases e):P:=h
theorem ajs(h:P:=by obtain⟨-,h1,W2,e⟩:=LW q hq e;cases e):P:=h
theorem YL(h:P:=by rw[HR.aX];exact oV _ _ _ _):P:=h
theorem YN(h:P:=by have:=aS.o;omega):P:=h
theorem BS(h:P:=by rw[World.size_alloc];exact gD):P:=h
theorem SJ(h:P:=by rw[HD.aX,h];rfl):P:=h
theorem YP(h:P:=by rw[hd];rfl):P:=h
theorem K2(h:P:=by rw[hd,hok];rfl):P:=h
theorem ajt(h:P:=by simp[results,results135,go_sem,e9]):P:=h
theorem ajy(h:P:=by simp[results,results91,go_sem,e9]):P:=h
theorem aBr(h:P:=by refine⟨by simp[xD,dA],hi.1,hc,hi.2.1,hi.2.2,by simp[xD],by simp[xD],by simp[xD]⟩):P:=h
theorem IV(h:P:=by simp[Value.ownBlock]at h):P:=h
theorem ajB(h:P:=by rw[h]at hb;injection hb with hb;have:=hW.size;omega):P:=h
theorem K3(h:P:=by rw[<- e]):P:=h
theorem ajC(h:P:=by rw[HB.aX,HT.aX];rfl):P:=h
theorem IW(h:P:=by simp[e]):P:=h
theorem YV(h:P:=by have:=h.sz;omega):P:=h
theorem ajH(h:P:=by have:=HW.aX.low;have:=hW.size;simp;omega):P:=h
theorem aJ7(h:P:=by simp[fX,h]):P:=h
theorem ru(h:P:=by rw[HQ.aX];rfl):P:=h
theorem ajK(h:P:=by rw[hbase];exact kW.size):P:=h
theorem YW(h:P:=by rw[hbase];exact kr.size):P:=h
theorem BU(h:P:=by simp[eZ]):P:=h
theorem K6(h:P:=by simp[hy]):P:=h
theorem tQ(h:P:=by simp[dA]):P:=h
theorem Y0(h:P:=by rw[HS.aX,hq];simp):P:=h
theorem Y4(h:P:=by rw[HS.aX,hq,HT.aX];rfl):P:=h
theorem Za(h:P:=by rw[HC.aX];simp[h0,h1]):P:=h
theorem aBy(h:P:=by unfold vC iW;simp only[fI,decide_eq_true_eq];rintro ⟨⟨h1,h2⟩,h3⟩;exact⟨h3,h1,h2⟩):P:=h
theorem ajZ(h:P:=by rw[HC.aX,Md,rG];rfl):P:=h
theorem aBz(h:P:=by unfold vC iW;simp only[fI,decide_eq_true_eq];rintro ⟨⟨h1,h2⟩,h3⟩;omega):P:=h
theorem uC(h:P:=by cases e):P:=h
theorem Zd(h:P:=by rw[beq_eq_false_iff_ne];omega):P:=h
theorem aj9(h:P:=by rcases hk with hk|hk;omega;have:=dR k hk;omega):P:=h
theorem aka(h:P:=by have:=h.len;show Z s.bq<=_;omega):P:=h
theorem akc(h:P:=by rw[HA.aX,bV hfit]):P:=h
theorem akd(h:P:=by unfold Own;rw[Nl,fg];exact gV):P:=h
theorem yg(h:P:=by rw[hk,e]):P:=h
theorem akf(h:P:=by rw[HA.aX,bQ hfit]):P:=h
theorem Og(h:P:=by rw[iu.aX];rfl):P:=h
theorem aki(h:P:=by rw[HF.aX,bQ (by rw[hok];decide)]):P:=h
theorem akj(h:P:=by rw[HA.aX,bQ (by rw[hok];decide)]):P:=h
theorem akk(h:P:=by rw[HF.aX,bV hok]):P:=h
theorem akl(h:P:=by rw[HA.aX,bV hok]):P:=h
theorem akm(h:P:=by rw[HD.aX,bQ hfit]):P:=h
theorem SZ(h:P:=by rw[iu.aX,zi.aX];rfl):P:=h
theorem akn(h:P:=by rw[HD.aX,bV hfit]):P:=h
theorem Zh(h:P:=by rw[HT.aX,<- gA,F5.aX];exact cX):P:=h
theorem Zj(h:P:=by rw[iY hlt,List.map_append];rfl):P:=h
theorem aks(h:P:=by simp[results,results127,go_sem,e9]):P:=h
theorem akt(h:P:=by rw[<- HR.aX,ht];rfl):P:=h
theorem Zk(h:P:=by have:=rr ht;omega):P:=h
theorem Zn(h:P:=by rw[e7];rfl):P:=h
theorem Zo(h:P:=by simp[bR,aC,cP,aL,bT,go_sem]):P:=h
theorem akz(h:P:=by rw[kN.aX,bQ (by rw[hok];decide),bQ h8,hb];rfl):P:=h
theorem IX(h:P:=by rw[HQ.aX];exact HW.aX):P:=h
theorem K8(h:P:=by simp[xD]):P:=h
theorem aBH(h:P:=by intro u hu;exact fe.one (x:=yE) (w:=w) ⟨_,_,rfl,⟨U,0,rfl,Reads.nil _ _ _ _⟩,iJ _ _⟩ u hu):P:=h
theorem DI(h:P:=by rw[HI.aX,ho]):P:=h
theorem Ol(h:P:=by rw[HC.aX,ho]):P:=h
theorem Zu(h:P:=by rw[HC.aX,ho];simp only[h1]):P:=h
theorem E7(h:P:=by have:=hG.dk.len;omega):P:=h
theorem akF(h:P:=by rw[HR.aX,bV h1]):P:=h
theorem akG(h:P:=by rw[HR.aX,bQ h1,bV h2]):P:=h
theorem akH(h:P:=by rw[HR.aX,bQ h1,bQ h2]):P:=h
theorem GH(h:P:=by simpa using hc):P:=h
theorem Zw(h:P:=by have:=JX.aX;omega):P:=h
theorem Zx(h:P:=by simp[results,results96,go_sem,e9]):P:=h
theorem Om(h:P:=by rw[HR.aX]):P:=h
theorem akM(h:P:=by simp[results,results94,go_sem,e9]):P:=h
theorem E8(h:P:=by exact hrg):P:=h
theorem akN(h:P:=by rw[Bs.aX,abB];rfl):P:=h
theorem E9(h:P:=by rw[e];rfl):P:=h
theorem akP(h:P:=by simp[bR,aC,cP,e0,e9,aL,bT,go_sem];exact⟨rfl,rfl⟩):P:=h
theorem S4(h:P:=by have:=HX.aX _ hx;omega):P:=h
theorem Ot(h:P:=by rw[iY hlt]):P:=h
theorem ZE(h:P:=by grind [xh]):P:=h
theorem pJ(h:P:=by simp[Fp]):P:=h
theorem akW(h:P:=by rw[HR.aX,pk];rfl):P:=h
theorem ZF(h:P:=by simp[bR,aC,cP,J7,aL,bT,q8,z8,go_sem]):P:=h
theorem S6(h:P:=by simp[pc,dA]):P:=h
theorem yh(h:P:=by simp[pc]):P:=h
theorem yi(h:P:=by simp[lE]):P:=h
theorem akZ(h:P:=by rw[hR'.1];exact Nat.mul_pos hp hs):P:=h
theorem ak0(h:P:=by rw[<- hE.1];exact h1):P:=h
theorem ZG(h:P:=by rw[HT.aX,hq];simp):P:=h
theorem ak2(h:P:=by rcases hk with hk|hk;exact aI hk;have:=dR k hk;exact aJ (by omega)):P:=h
theorem ZH(h:P:=by simpa using cW.nil _ _ _ _ _):P:=h
theorem aBK(h:P:=by rw[iu.aX];exact (dS.less λk hk=>cZ hk (cQ Cr k2.size)).low Cr):P:=h
theorem IZ(h:P:=by simp[hk]):P:=h
theorem ZJ(h:P:=by have:=pA.aX;omega):P:=h
theorem ak8(h:P:=by rcases hk with hk|hk;exact hk.elim;have:=(aoG k hk).1;omega):P:=h
theorem ak9(h:P:=by rw[iu.aX];simp only[fg]at Dl|-;omega):P:=h
theorem alc(h:P:=by have:=aBL a b;rw[h1',h2]at this;simpa using this):P:=h
theorem Ov(h:P:=by simp[h0]):P:=h
theorem ZK(h:P:=by simp[hf.aX.1 (by omega)]):P:=h
theorem ald(h:P:=by simp[hf.aX.2.1 (by omega)]):P:=h
theorem xe(h:P:=by rw[HT.aX,hkk];rfl):P:=h
theorem alf(h:P:=by simp[results,results298,go_sem,g0,g1,g2]):P:=h
theorem alh(h:P:=by simp only[sV,hf]):P:=h
theorem ZO(h:P:=by rw[HF.aX];exact cW.nil _ _ _ _ _):P:=h
theorem ZP(h:P:=by rw[hk];exact Ke):P:=h
theorem aBM(h:P:=by rw[HF.aX];unfold nL;rw[bQ (by omega),bV (by simp[hb0,cK,hb2,dB])]):P:=h
theorem aBN(h:P:=by rw[HF.aX];unfold nL;rw[bQ (by omega),bQ (by simp[hb0,cK,hb2,dB])]):P:=h
theorem ZR(h:P:=by rw[HE.aX,jq (by omega)]):P:=h
theorem Oy(h:P:=by simp at hpl;omega):P:=h
theorem aBP(h:P:=by rw[HF.aX];unfold lT;unfold Lj at hb0;rw[bV (by simp only[Bool.or_eq_true]at hb0|-;exact aI (aI hb0))]):P:=h
theorem aBQ(h:P:=by rw[HF.aX];unfold lT;unfold Lj at hb0;rw[bQ (by simp only[Bool.or_eq_true,Bool.or_eq_false_iff]at hb0|-;rw[hb0.1.1,hb0.1.2,hb0.2,hb2,dB];simp)]):P:=h
theorem alz(h:P:=by have:=hG.tx.AA;omega):P:=h
theorem alB(h:P:=by rw[HE.aX,FR,abG];rfl):P:=h
theorem alC(h:P:=by subst e;have:=(cX.blk _ hk).1;omega):P:=h
theorem ZU(h:P:=by have:=HM.aX k h;omega):P:=h
theorem alD(h:P:=by simp[Value.ownBlock]at hk):P:=h
theorem Tc(h:P:=by have:=HG.aX;omega):P:=h
theorem ZV(h:P:=by rw[F0.aX,h];simp):P:=h
theorem ZW(h:P:=by rw[F1.aX,h];simp):P:=h
theorem ZX(h:P:=by rw[F2.aX,h];simp):P:=h
theorem alG(h:P:=by rw[HR.aX,anR];rfl):P:=h
theorem Z0(h:P:=by rw[VK.aX];rfl):P:=h
theorem Z3(h:P:=by rw[<- jJ.aX,HQ.aX];exact HH.aX.1):P:=h
theorem alM(h:P:=by rw[<- jJ.aX,HQ.aX];exact aoQ.aX):P:=h
theorem Td(h:P:=by simp[xE,dA]):P:=h
theorem BX(h:P:=by simp[xE]):P:=h
theorem alR(h:P:=by rw[HF.aX];unfold yJ;rw[ht];rfl):P:=h
theorem alT(h:P:=by simp at hpn;unfold pG;omega):P:=h
theorem alV(h:P:=by rw[aC9,Nat.mod_eq_of_lt (by omega)]):P:=h
theorem alW(h:P:=by rw[QP,List.drop_eq_getElem_cons hlt];rfl):P:=h
theorem alX(h:P:=by rw[HOA.aX,hab];rfl):P:=h
theorem Lb(h:P:=by simp[hz]):P:=h
theorem Tf(h:P:=by simp[E6]):P:=h
theorem Th(h:P:=by simpa using h6):P:=h
theorem Z5(h:P:=by rw[HP.aX];rfl):P:=h
theorem al2(h:P:=by rw[HR.aX];simp[h1]):P:=h
theorem OA(h:P:=by subst h2;simp):P:=h
theorem Z7(h:P:=by subst h5;simp):P:=h
theorem aaa(h:P:=by subst h6;simp):P:=h
theorem I0(h:P:=by rw[HF.aX];rfl):P:=h
theorem aBW(h:P:=by simp[bR,aC,cP,e0,e8,aL,bT,go_sem,ayE];exact⟨rfl,rfl⟩):P:=h
theorem Tj(h:P:=by rw[HB.aX,hall.aX,hx];rfl):P:=h
theorem al7(h:P:=by rw[HS.aX,bQ];rw[HN.aX,Hr.aX];simp):P:=h
theorem al8(h:P:=by rcases hk with hk|hk;exact cZ hk qv;exact (dR k hk).2):P:=h
theorem aab(h:P:=by rw[HB.aX,hx];simp):P:=h
theorem aac(h:P:=by rw[Bool.eq_iff_iff];simp):P:=h
theorem aad(h:P:=by rw[pA.aX];exact bP _):P:=h
theorem amc(h:P:=by simpa [Value.ownBlock]using e.symm):P:=h
theorem OB(h:P:=by rw[IntKind.wrap_i64];omega):P:=h
theorem Tm(h:P:=by subst e;omega):P:=h
theorem aae(h:P:=by rw[HNM.aX];omega):P:=h
theorem aag(h:P:=by show (Z l:Int)%2^64=_;omega):P:=h
theorem aah(h:P:=by simpa using Bm.aX):P:=h
theorem aai(h:P:=by rw[iY hlt,List.flatMap_append];simp only[yp,List.flatMap_nil,List.append_nil,gA]):P:=h
theorem DK(h:P:=by grind [eX]):P:=h
theorem OC(h:P:=by simpa using q3):P:=h
theorem aan(h:P:=by simp[jW]):P:=h
theorem Tn(h:P:=by simp at hj;omega):P:=h
theorem amh(h:P:=by rw[h.len];exact g2):P:=h
theorem aap(h:P:=by simp only[ji];rw[HJ.aX]):P:=h
theorem aaq(h:P:=by have:=Er.aX;rw[this]):P:=h
theorem OD(h:P:=by have:=kA.size;omega):P:=h
theorem amn(h:P:=by rintro (e|e) <;> omega):P:=h
theorem amo(h:P:=by simp[results,results170,go_sem,e9]):P:=h
theorem amr(h:P:=by rw[HE.aX,PG];rfl):P:=h
theorem amt(h:P:=by rw[kN.aX,HMM.aX,hc1];rfl):P:=h
theorem amu(h:P:=by rw[HQ.aX,jR];rfl):P:=h
theorem zJ(h:P:=by simp[xq]):P:=h
theorem I1(h:P:=by unfold lh;rw[bQ (by omega)]):P:=h
theorem aay(h:P:=by have:=h1.lo k e;omega):P:=h
theorem amx(h:P:=by have:=Sj h.lo ⟨hk.1,aI hk.2⟩;exact⟨this.1,this.2.1⟩):P:=h
theorem aaz(h:P:=by have:=h.lo k e;omega):P:=h
theorem aaA(h:P:=by have:=hr.calls;omega):P:=h
theorem aaB(h:P:=by have:=h.iE.ln;omega):P:=h
theorem Tq(h:P:=by injection e with e;exact e.symm):P:=h
theorem Ts(h:P:=by simpa using hD):P:=h
theorem amD(h:P:=by rintro k (h|rfl) <;> omega):P:=h
theorem amE(h:P:=by constructor <;> omega):P:=h
theorem amF(h:P:=by rw[hX];exact aJ rfl):P:=h
theorem aaF(h:P:=by unfold Cd;omega):P:=h
theorem amG(h:P:=by simp[bR,aC,hp];exact Mk.aX W kW):P:=h
theorem amH(h:P:=by simp[bR,aC,hp];exact Dc.aX W kW):P:=h
theorem aCb(h:P:=by obtain⟨H,own,a,b,c,d,e,f⟩:=HE.aX;exact⟨H,own,a,b,c,d,e,by first|exact f|exact aJ trivial⟩):P:=h
theorem aaG(h:P:=by have:=hs.lc;omega):P:=h
theorem amJ(h:P:=by simp[results,results58,go_sem,e9]):P:=h
theorem amK(h:P:=by simp[results,results23,go_sem,e9]):P:=h
theorem amL(h:P:=by simp[results,results59,go_sem,e9]):P:=h
theorem amN(h:P:=by have:=HVB.aX.1 v hvs k e;have:=Hu.aX;omega):P:=h
theorem amP(h:P:=by simp[results,results19,go_sem,e9]):P:=h
theorem OJ(h:P:=by simp[aO];omega):P:=h
theorem amR(h:P:=by rw[<- HS.aX];exact List.take_prefix _ _):P:=h
theorem aCg(h:P:=by rw[<- e];rw[show k+49*Z (pre++[(j:Int)])=k+49*Z pre+49 by simp;omega];exact hI9):P:=h
theorem amS(h:P:=by have:=HKK.aX;omega):P:=h
theorem aaI(h:P:=by have:=(h.1.up hu).2.1.calls;omega):P:=h
theorem xf(h:P:=by simpa using hz):P:=h
theorem amZ(h:P:=by rw[List.length_range];omega):P:=h
theorem Ty(h:P:=by simp[bR,aC,cP,hA,aL,bT,go_sem]):P:=h
theorem am4(h:P:=by rw[List.length_map];omega):P:=h
theorem am5(h:P:=by rw[<- HR.aX];unfold yA;rw[hgv];rfl):P:=h
theorem aaM(h:P:=by injection hb with hb;rw[<- hb];exact pY):P:=h
theorem am6(h:P:=by obtain⟨ve,rfl,he⟩:=h;exact⟨ve,rfl,he⟩):P:=h
theorem aCr(h:P:=by decide +kernel):P:=h
theorem aaN(h:P:=by have:=EI _ e;omega):P:=h
theorem Tz(h:P:=by simp[bR,aC,cP,hA,aL,bT,go_sem];first|rfl|exact⟨rfl,rfl⟩):P:=h
theorem ana(h:P:=by simp[results,results124,go_sem,e9]):P:=h
theorem anb(h:P:=by simp[results,results79,go_sem,e9,ll]):P:=h
theorem anc(h:P:=by simp[results,results80,go_sem,e9,ll]):P:=h
theorem anf(h:P:=by have:=HB.aX.kb;omega):P:=h
theorem aaQ(h:P:=by have:=Df.aX.lb;omega):P:=h
theorem aCs(h:P:=by unfold Func.isWrapper;first|(rw[bV (by decide +kernel)];kernel_rfl)|(rw[bQ (by decide +kernel)];exact⟨rfl,rfl⟩)):P:=h
theorem anh(h:P:=by rw[hlo.aX];exact (k1.tr kW).size):P:=h
theorem TD(h:P:=by rw[<- jJ.aX,HP.aX];exact uz.aX):P:=h
theorem Od(h:P:=by
 obtain⟨vf,ve,rfl,hf,he⟩:=h;obtain⟨A,c,e0,xL⟩:=hf;obtain rfl:=e0;obtain⟨aS,d,e0,he,hd⟩:=he;obtain rfl:=e0;obtain⟨hs1,jI,jY⟩:=hs;obtain⟨k,b,l,s,cl,u,f,es⟩:=x;simp only at xL he hd hs1 jI jY|-;have hx:=(bn.new w 128 (cB ⟨k,b,l,s,cl,u,f,es⟩ (F A (Z f) c) (F aS (Z es) d))).alloc (aq jx 128);have hr:=bn.new (aU w (aq (cB ⟨k,b,l,s,cl,u,f,es⟩ (F A (Z f) c) (F aS (Z es) d)) 128)) 128 jx;have k1:=K.ou w (aq (cB ⟨k,b,l,s,cl,u,f,es⟩ (F A (Z f) c) (F aS (Z es) d)) 128) (aq jx 128);have hz:D (L (aU w (aq (cB ⟨k,b,l,s,cl,u,f,es⟩ (F A (Z f) c) (F aS (Z es) d)) 128)))=D (L w)+1:=bu;rw[hz]at hr;have Qr:=aY jY;go_enter zF.aX,zN.aX;go_upto_region 1 with fail;generalize ay (ay w _) _=w1 at *;have aFH:=(xL.below k1 (bP _)).more k1.size;have hr1:=hr.lt;have q:=hx.cell;have z:=hx.frozen;go_wp2_with (at_builtin;refine nZ rfl _ _ 37 rfl (D (L w1)) 85 _ 5 56 TF _ 0 [] rfl (oV _ _ _ _) _ A (Z f) c (f.flatMap je) rfl aFH (agI f) ?p1 (bP _) ?_)
 case p1=>omega
 intro v1 w2 mG _ _ cK;have hx2:=hx.bM cK;have dC:=hr.bM cK;have k2:=k1.tr cK;obtain⟨A1,c1,rfl,-⟩:=(show lV w2 (D (L w1)) v1 f from mG).slice;have q:=hx2.cell;have z:=hx2.frozen;have Ul:=cK.size;go_upto_region 3 with fail;have jX:bn (aV w2 ⟨D (L w),6,U⟩ (F A1 (Z f) c1)) (D (L w)) 128 #[G J k,G J b,G E l,G E s,G J cl,G E u,F A1 (Z f) c1,F aS (Z es) d]:=hx2.cH 6 (F A1 (Z f) c1);have gX:=dC.far (p:=⟨D (L w),6,U⟩) bu (F A1 (Z f) c1);have k3:K w (aV w2 ⟨D (L w),6,U⟩ (F A1 (Z f) c1)):=K.set k2 (bP _) 6 _;have jk:lV (aV w2 ⟨D (L w),6,U⟩ (F A1 (Z f) c1)) (D (L w1)) (F A1 (Z f) c1) f:=lV.up mG (cI.set aZ 6 _);have CI:D (L w)+1<D (L (aV w2 ⟨D (L w),6,U⟩ (F A1 (Z f) c1))):=by simp[ax];omega
 generalize w2.setCell _ _=w3 at *;have Qs:=K.rf w3;have q:=jX.cell;go_wp2_with fail
 go_loopw [3,5,13] (fun o _ i W=>∃j:Nat,j<=Z es/\i=G J j/\cW (D (L w3)) (D (L w3)) 35 eB (es.take j) o W/\K w3 W) (fun _ _ i _=>Z es-(aO i).toNat)
 case atStart=>exact⟨0,aZ,rfl,ZH,Qs⟩
 case round => exact aCt):P:=h
theorem aCt(h:P:=by obtain⟨j,hj,rfl,hO,kr⟩:=hrel;have FU:=k3.tr kr;by_cases hlt:j<Z es;exact aCu;exact aCv):P:=h
theorem aCv(h:P:=by have cE:¬(j:Int)<Z es:=aZ;rw[jq aZ]at hO;have hxr:=jX.bM kr;have rN:=gX.bM kr;have Cw:lV wr (D (L w1)) (F A1 (Z f) c1) f:=sU jk kr;obtain⟨Ao,co,rfl,-⟩:=hO.slice;have q:=hxr.cell;have z:=hxr.frozen;go_upto_region 9 with fail;have gJ:bn (aV wr ⟨D (L w),7,U⟩ (F Ao (Z es) co)) (D (L w)) 128 #[G J k,G J b,G E l,G E s,G J cl,G E u,F A1 (Z f) c1,F Ao (Z es) co]:=hxr.cH 7 _;have lG:=rN.far (p:=⟨D (L w),7,U⟩) bu (F Ao (Z es) co);have k5:K w (aV wr ⟨D (L w),7,U⟩ (F Ao (Z es) co)):=K.set FU (bP _) 7 _;have tF:=lV.up Cw (w':=wr.setCell ⟨D (L w),7,U⟩ (F Ao (Z es) co)) (cI.set aZ 7 _);have gL:=hO.up (w':=wr.setCell ⟨D (L w),7,U⟩ (F Ao (Z es) co)) (bP _) (cI.set aZ 7 _);generalize wr.setCell _ _=w5 at *;have q:=gJ.cell;have y:=lG.cell;have z:=lG.frozen;go_wp2;have fF:bn (ax w5 _ _) (D (L w)+1) 128 #[G J k,G J 0,G E 0,G E 0,G J 0,G E 0,F U 0 0,F U 0 0]:=(lG).cH 0 (G J k);have fF:bn (ax (ax w5 _ _) _ _) (D (L w)+1) 128 #[G J k,G J b,G E 0,G E 0,G J 0,G E 0,F U 0 0,F U 0 0]:=(fF).cH 1 (G J b);have fF:bn (ax (ax (ax w5 _ _) _ _) _ _) (D (L w)+1) 128 #[G J k,G J b,G E l,G E 0,G J 0,G E 0,F U 0 0,F U 0 0]:=(fF).cH 2 (G E l);have fF:bn (ax (ax (ax (ax w5 _ _) _ _) _ _) _ _) (D (L w)+1) 128 #[G J k,G J b,G E l,G E s,G J 0,G E 0,F U 0 0,F U 0 0]:=(fF).cH 3 (G E s);have fF:bn (ax (ax (ax (ax (ax w5 _ _) _ _) _ _) _ _) _ _) (D (L w)+1) 128 #[G J k,G J b,G E l,G E s,G J cl,G E 0,F U 0 0,F U 0 0]:=(fF).cH 4 (G J cl);have fF:bn (ax (ax (ax (ax (ax (ax w5 _ _) _ _) _ _) _ _) _ _) _ _) (D (L w)+1) 128 #[G J k,G J b,G E l,G E s,G J cl,G E u,F U 0 0,F U 0 0]:=(fF).cH 5 (G E u);have fF:bn (ax (ax (ax (ax (ax (ax (ax w5 _ _) _ _) _ _) _ _) _ _) _ _) _ _) (D (L w)+1) 128 #[G J k,G J b,G E l,G E s,G J cl,G E u,F A1 (Z f) c1,F U 0 0]:=(fF).cH 6 (F A1 (Z f) c1);have fF:bn (ax (ax (ax (ax (ax (ax (ax (ax w5 _ _) _ _) _ _) _ _) _ _) _ _) _ _) _ _) (D (L w)+1) 128 #[G J k,G J b,G E l,G E s,G J cl,G E u,F A1 (Z f) c1,F Ao (Z es) co]:=(fF).cH 7 (F Ao (Z es) co);have U9:=((((((((cI.rf (D (L w)+1+1) U w5).tr (cI.set (b:=D (L w)+1) aZ 0 (G J k))).tr (cI.set (b:=D (L w)+1) aZ 1 (G J b))).tr (cI.set (b:=D (L w)+1) aZ 2 (G E l))).tr (cI.set (b:=D (L w)+1) aZ 3 (G E s))).tr (cI.set (b:=D (L w)+1) aZ 4 (G J cl))).tr (cI.set (b:=D (L w)+1) aZ 5 (G E u))).tr (cI.set (b:=D (L w)+1) aZ 6 (F A1 (Z f) c1))).tr (cI.set (b:=D (L w)+1) aZ 7 (F Ao (Z es) co));have K9:=(K.set (K.set (K.set (K.set (K.set (K.set (K.set (K.set k5 (r:=D (L w)+1) aZ 0 (G J k)) (r:=D (L w)+1) aZ 1 (G J b)) (r:=D (L w)+1) aZ 2 (G E l)) (r:=D (L w)+1) aZ 3 (G E s)) (r:=D (L w)+1) aZ 4 (G J cl)) (r:=D (L w)+1) aZ 5 (G E u)) (r:=D (L w)+1) aZ 6 (F A1 (Z f) c1)) (r:=D (L w)+1) aZ 7 (F Ao (Z es) co));generalize (ax (ax (ax (ax (ax (ax (ax (ax w5 _ _) _ _) _ _) _ _) _ _) _ _) _ _) _ _)=W9 at *;have e9:=fF.cell;refine aM (v:=av #[G J k,G J b,G E l,G E s,G J cl,G E u,F A1 (Z f) c1,F Ao (Z es) co]) (by simp[results,zR.aX,go_sem,e9]) rfl ?_;exact⟨_,rfl,⟨_,_,rfl,pF aZ (lV.up tF (U9.more aZ (λ_ _ _=>bu))),(cW.low (cW.floor (gL.up (bP _) (U9.more aZ (λ_ _ _=>bu))) aZ) aZ)⟩,K9⟩):P:=h
theorem aCu(h:P:=by
 have cE:(j:Int)<Z es:=aZ;obtain⟨b1,off,cs,rfl,cK,hcl,⟨ve,rfl,jH⟩,hcell⟩:=Lg he j hlt bG;have d0:wr.cell? ⟨b1,off+j,U⟩=I ve:=by have:=hcell 0 bG;rw[FU.cell aZ];simpa [eB]using this
 have HT:Hid (es.take (j+1)=es.take j++[es[j]]):=aY bu;have hej:=Qr.aX _ (dJ hlt);have Jj:=mq _ _ _ _ jH FU;generalize es[j]=ej at *;obtain⟨Ae,ce,rfl,hRe⟩:=Jj;have gT:Z (es.take j)<=1000000:=cN;have MT:=kr.size;go_wp2_with (at_builtin;refine nZ rfl _ _ 35 rfl (D (L wr)) 88 _ 4 48 TE _ 0 [] rfl (oV _ _ _ _) _ Ae (Z ej) ce (ej.flatMap nu) rfl hRe (XR ej) ?p1 (bP _) ?_)
 case p1=>omega
 intro v2 w4 gV _ _ hb2;have UW:=aY (s8.rel (show s8 w4 (D (L wr)) v2 ej from gV));obtain⟨A2,c2,rfl,-⟩:=(show s8 w4 (D (L wr)) v2 ej from gV).slice;have AY:=hO.blk;have fC:=hO.st hb2;have iX:=kr.tr hb2;obtain⟨bw,hown,hcl,xM⟩:=fC;have lr:=hb2.size;have kA:=K.new w4 (aq #[F A2 (Z ej) c2] 35);have hbase:D (L w3)<=D (L (aU w4 (aq #[F A2 (Z ej) c2] 35))):=OD;go_wp2_with (at_builtin;refine nZ rfl _ _ 43 rfl (D (L w3)) 35 _ 1 24 FT _ _ _ rfl (xj hown _) (D (L w4)+1) _ 1 1 [F A2 (Z ej) c2] rfl ?c1 ?c2 ?c3 hbase ?_)
 case c1=>exact Reads.new w4 [F A2 (Z ej) c2] 35 1 1 rfl
 case c2=>intro u hu;simp at hu;subst hu;rfl
 case c3=>omega
 intro v9 w9 mw dW gD cV;have k9:=(iX.tr kA).trans cV;have cX:cW (D (L w3)) (D (L w3)) 35 eB (es.take (j+1)) v9 w9:=by exact ani
 exact Zg):P:=h
theorem ama(h:P:=by
 have CE:=aY (afc es _ wA hle lM gK);have q:=hx.cell;go_wp2_with fail
 apply dP CE.aX;rintro v5 wB⟨gL,kB⟩;have Kw:=hx.bM kB;have hrB:=hr.bM kB;have hzA:=kA.size;have hzB:=kB.size;clear CE q hx hr hle;have q:=Kw.cell;have z:=Kw.frozen;obtain⟨A5,c5,rfl⟩:=bH gL.wF.bD;go_upto_region 5 with fail;have hxC:bn (aV wB ⟨lo,7,U⟩ (F A5 (Z es) c5)) lo 128 (cB x (F Af (Z x.f) cf) (F A5 (Z es) c5)):=Kw.cH 7 _;have hrC:=hrB.far (p:=⟨lo,7,U⟩) bu (F A5 (Z es) c5);have kC:K w (aV wB ⟨lo,7,U⟩ (F A5 (Z es) c5)):=K.set (kA.tr kB) aad 7 _;have apg:=gL.up (w':=wB.setCell ⟨lo,7,U⟩ (F A5 (Z es) c5)) (bP _) (cI.set aZ 7 _);have hzC:D (L (aV wB ⟨lo,7,U⟩ (F A5 (Z es) c5)))=D (L wB):=bu;clear Kw hrB gL q z;generalize wB.setCell _ _=wC at *;have CT:=aY (afB x.f _ wC (fO _ _ _ _ HF.aX kC) (tI.aX.1));have q:=hxC.cell;go_wp2_with fail
 apply dP CT.aX;rintro v6 wD⟨hF6,kD⟩;have Wu:=hxC.bM kD;have hrD:=hrC.bM kD;have aph:=apg.st kD;clear CT q hxC hrC apg;have q:=Wu.cell;have z:=Wu.frozen;have aFI:=dX (BQ hF6);obtain⟨A6,c6,rfl⟩:=aFI;go_upto_region 6 with fail;have hxE:bn (aV wD ⟨lo,6,U⟩ (F A6 (Z x.f) c6)) lo 128 (cB x (F A6 (Z x.f) c6) (F A5 (Z es) c5)):=Wu.cH 6 _;have hrE:=hrD.far (p:=⟨lo,6,U⟩) bu (F A6 (Z x.f) c6);have kE:K w (aV wD ⟨lo,6,U⟩ (F A6 (Z x.f) c6)):=K.set (kC.tr kD) aad 6 _;have aFJ:=aph.up (w':=wD.setCell ⟨lo,6,U⟩ (F A6 (Z x.f) c6)) (bP _) (cI.set aZ 6 _);have aFK:lV (aV wD ⟨lo,6,U⟩ (F A6 (Z x.f) c6)) (D (L wC)) (F A6 (Z x.f) c6) x.f:=lV.up hF6 (cI.set aZ 6 _);clear Wu hrD aph hF6 q z;generalize wD.setCell _ _=wE at *;have q:=hxE.cell;have y:=hrE.cell;have z:=hrE.frozen;have Cr:D (L w)<=lo+1:=by rw[pA.aX];omega
 have Iu:=wK;go_wp2;have fU:bn (ax wE _ _) (lo+1) 128 #[G J x.bA,G J 0,G E 0,G E 0,G J 0,G E 0,F U 0 0,F U 0 0]:=hrE.cH 0 (G J x.bA);have hr1:bn (ax (ax wE _ _) _ _) (lo+1) 128 #[G J x.bA,G J x.br,G E 0,G E 0,G J 0,G E 0,F U 0 0,F U 0 0]:=fU.cH 1 (G J x.br);have dC:bn (ax (ax (ax wE _ _) _ _) _ _) (lo+1) 128 #[G J x.bA,G J x.br,G E x.life,G E 0,G J 0,G E 0,F U 0 0,F U 0 0]:=hr1.cH 2 (G E x.life);have gX:bn (ax (ax (ax (ax wE _ _) _ _) _ _) _ _) (lo+1) 128 #[G J x.bA,G J x.br,G E x.life,G E x.eY,G J 0,G E 0,F U 0 0,F U 0 0]:=dC.cH 3 (G E x.eY);have iq:bn (ax (ax (ax (ax (ax wE _ _) _ _) _ _) _ _) _ _) (lo+1) 128 #[G J x.bA,G J x.br,G E x.life,G E x.eY,G J x.cl,G E 0,F U 0 0,F U 0 0]:=gX.cH 4 (G J x.cl);have lG:bn (ax (ax (ax (ax (ax (ax wE _ _) _ _) _ _) _ _) _ _) _ _) (lo+1) 128 #[G J x.bA,G J x.br,G E x.life,G E x.eY,G J x.cl,G E x.sub,F U 0 0,F U 0 0]:=iq.cH 5 (G E x.sub);have um:bn (ax (ax (ax (ax (ax (ax (ax wE _ _) _ _) _ _) _ _) _ _) _ _) _ _) (lo+1) 128 #[G J x.bA,G J x.br,G E x.life,G E x.eY,G J x.cl,G E x.sub,F A6 (Z x.f) c6,F U 0 0]:=lG.cH 6 (F A6 (Z x.f) c6);have nz:bn (ax (ax (ax (ax (ax (ax (ax (ax wE _ _) _ _) _ _) _ _) _ _) _ _) _ _) _ _) (lo+1) 128 #[G J x.bA,G J x.br,G E x.life,G E x.eY,G J x.cl,G E x.sub,F A6 (Z x.f) c6,F A5 (Z es) c5]:=um.cH 7 (F A5 (Z es) c5);have U9:=(((((((((cI.rf (D (L wA)) U wE).tr (cI.set (b:=lo+1) Iu 0 (G J x.bA))).tr (cI.set (b:=lo+1) Iu 1 (G J x.br))).tr (cI.set (b:=lo+1) Iu 2 (G E x.life))).tr (cI.set (b:=lo+1) Iu 3 (G E x.eY))).tr (cI.set (b:=lo+1) Iu 4 (G J x.cl))).tr (cI.set (b:=lo+1) Iu 5 (G E x.sub))).tr (cI.set (b:=lo+1) Iu 6 (F A6 (Z x.f) c6))).tr (cI.set (b:=lo+1) Iu 7 (F A5 (Z es) c5)));have K9:=(K.set (K.set (K.set (K.set (K.set (K.set (K.set (K.set kE (r:=lo+1) Cr 0 (G J x.bA)) (r:=lo+1) Cr 1 (G J x.br)) (r:=lo+1) Cr 2 (G E x.life)) (r:=lo+1) Cr 3 (G E x.eY)) (r:=lo+1) Cr 4 (G J x.cl)) (r:=lo+1) Cr 5 (G E x.sub)) (r:=lo+1) Cr 6 (F A6 (Z x.f) c6)) (r:=lo+1) Cr 7 (F A5 (Z es) c5));clear q y z fU hr1 dC gX iq lG um;generalize (ax (ax (ax (ax (ax (ax (ax (ax wE _ _) _ _) _ _) _ _) _ _) _ _) _ _) _ _)=W9 at *;have e9:=nz.cell;refine aM (v:=av #[G J x.bA,G J x.br,G E x.life,G E x.eY,G J x.cl,G E x.sub,F A6 (Z x.f) c6,F A5 (Z es) c5]) (by simp[results,results235,go_sem,e9]) rfl ?_;refine⟨_,rfl,?_,K9⟩;rw[QO.aX];exact⟨_,_,rfl,pF aZ (lV.up aFK (U9.more aZ (λ_ _ _=>bu))),cW.low (cW.floor (aFJ.up (bP _) (U9.more aZ (λ_ _ _=>bu))) aZ) aZ⟩):P:=h
theorem alQ(h:P:=by cases L2;exact aCw;exact aCx):P:=h
theorem alo(h:P:=by
 have HE:=aY λW (k:K w W)=>TG h k
 obtain⟨vf,ve,rfl,hf,he⟩:=h;obtain⟨Af,cf,rfl⟩:=dX hf;obtain⟨Ae,ce,rfl⟩:=bH he;have hx:=bn.new w 128 (cB x (F Af (Z x.f) cf) (F Ae (Z x.es) ce));have k1:=hx.cG;obtain⟨Ao,co,rfl⟩:=hO.slice;have cK:=hb.bM k1;have gG:=hO.st k1;have dR:=hO.blk;go_enter zF.aX,zN.aX;go_upto_region 1 with fail;generalize w.alloc _=w1 at *;have qx:=hx.cells;have qo:=cK.cells;have qs:=aB qx qo;refine fD 4 ?_;iterate 2 refine bB.i ?_
 refine bB.op (Ui (D (L w1)) x) (akS _ _) (λV W kW hp=>?_) ?_
 ·(try simp only[dN,bZ,cC,dK,dL,bS]at hp)
  simp[dI,bR,aC,hp,fk,aL,bT,qx,qo,go_sem];apply dP (Rp x _ W (HE.aX _ (k1.tr kW)) hs);exact akT
 refine bB.row (N:=λk=>k<D (L w1)) (S:=cL) 59 _ 8 96 tH rfl bG _ x rfl rfl (λV W kW hp=>?_) ?_;exact akU;intro V W kW hA;simp only[bZ,cC,dF,bS,Nat.reduceAdd]at hA;obtain⟨e0,e1,h2,h3,-⟩:=hA;have EG:=gG.st kW;have hz1:=k1.size;refine bN.push _ _ 59 _ 8 96 tH rfl rfl rfl _ o x iF EG ?_ aZ (cQ hbase (cQ hz1 kW.size)) ?_;simp only[bR,aC];exact h3.less λk hk=>by grind
 intro v9 w9 cX dW gD cV;obtain⟨L9,Vx⟩:∃L9,Hid (L9=o++[x]):=⟨_,aY rfl⟩;rw[<- Vx.aX]at cX;have qi:=cK.bM kW;have uU:=qi.grown dW bL;have q9:=uU.cell;have z9:=uU.frozen;have h1:v9.oneCell'=true:=by obtain⟨A9,c9,rfl⟩:=cX.slice;rfl
 have HU:=aY ((bf.cz (k1.tr kW) _).tr ((bf.gy (X:=λk=>k=ob\/aW (F Ao (Z o) co)=I k) dW λk e=>aJ e).tr (bf.dx (X:=λk=>k=ob\/aW (F Ao (Z o) co)=I k) (aI rfl) 0 v9)));have HB:Hid (bn (aV w9 ⟨ob,0,U⟩ v9) ob 59 #[v9]):=aY (uU.cH 0 v9);have Kf:=aY (cX.to (X:=λk=>k=ob) (bf.dx (X:=λk=>k=ob) rfl 0 v9) (λk hk=>ZP) (λk hk e=>alC) λk _ hk=>aI hk);have wI:Hid (∀k,aW v9=I k->aW (F Ao (Z o) co)=I k\/D (L w)<=k):=aY λk hk=>by rcases gD with h|h;exact aI (h▸hk);rw[h]at hk;injection hk with hk;have:=kW.size;exact aJ aZ
 obtain⟨A9,c9,rfl⟩:=cX.slice;refine bN.skip (aV w9 ⟨ob,0,U⟩ (F A9 (Z L9) c9)) rfl (by simp[bR,aC,cP,aL,bT,q9,z9,go_sem]) ?_;refine bN.nil ?_;simp only[iO,Act.put,xm,vU,vT,Nat.reduceAdd,cP,Nat.reduceEqDiff,reduceIte];exact alp):P:=h
theorem aio(h:P:=by
 apply bW (Rt k N ⟨s.toArray⟩ _);intro W5 ky;have iq:=iq.below ky (by have:=gX.lt;simp;omega);have eF:=eF.bM ky;have hgr:=rm hgr (zC ky _);have M7:=(bn.new W3 83 #[G J k,G J N,aw { data:=s.toArray }]).below ky bu;have jS:=ky.size;simp only[World.size_alloc]at jS;clear ky;by_cases hok:kK (k:Int) N ⟨s.toArray⟩=aA;exact aCy;have hok:kK (k:Int) N ⟨s.toArray⟩=false:=by simpa using hok
 have hch:(oG (k:Int) N ⟨s.toArray⟩ != 0)=true:=by simp[oG,hok]
 have Im:=M7.cell 0;have Bc:=M7.cell 1;have hv2:=M7.cell 2;simp at Im Bc hv2;go_wp2;have LN:(if (decide (3<k)||false||!(kK (k:Int) N ⟨s.toArray⟩))=aA then (((0,0,[]),l3,aA):(Int×Int×List UInt8)×List UInt8×Bool)else (((k:Int),N,s),l3,az))=((0,0,[]),l3,aA):=by simp[hok]
 exact anj):P:=h
theorem aCw(h:P:=by
 have hLB:=vF.aX rfl;have HQ:Hid (P'=(Bj,lj++[x])):=aY Z0;rw[hLB]at Ct;have EP:=aY u3;have Ps:=rQ.cF EP.aX (λh=>by have:=HBr.aX.low ga (aJ h);have:=pA.aX;omega);have tK:=Ps.cell;have HFa:=aY (VI.aX.to ((bf.cz xR _).tr EP.aX) (X:=cY p2) (λk hk=>(Kk.aX k hk).imp aJ id) λk _ hk=>hk);have kA:=K.new Bz (aq (cB x (F Af (Z x.f) cf) (F Ae (Z x.es) ce)) 128);have Ic:=qP.st kA;have Ur:=qP.blk;have hr:=fL.new (S:=cL) (e:=128) (v:=av (cB x (F Af (Z x.f) cf) (F Ae (Z x.es) ce))) HFa.aX 0 (fw _);have Pt:=Ct.st kA;have Us:=uR.size;have Dq:=aY (aB Ct (aB uR (aB G4 (aB G5 (aB GV qP)))));have LA:=aY Pt;have aE3:Z lj<=1000000:=by simp at VC;omega
 clear Ct uR G4 G5 GV qP Pt xP q8;clear sF u3 kJ QH;go_wp2_with (at_builtin;refine j0 rfl _ _ 59 rfl _ 8 96 tH rfl rfl Ic _ rfl x ?p1 ?p2 ?p3 ?_)
 case p1 => exact alI
 case p2=>omega
 case p3=>exact cQ Us kA.size
 intro v11 VM D8 AB I9 LC;have aoQ:=aY D8;have hBw:df (λk=>((M k\/cY p' k)\/aW v11=I k)\/cY p3 k) p3 Bj VM:=LA.aX.far (X:=λk=>aW (F Ao (Z lj) co)=I k) (bf.gy AB λk e=>e) (λk hk=>aI (aJ hk)) (λk hk=>Dq.aX.2.2.2.2.1 k hk) (λk hk h=>by
  rcases h with (h|h)|h;exact aI (aI h);exact alJ;exact aJ h) (λk hk=>aJ hk) (λk hk=>by
  rcases hk with (h|h)|h;exact alK;exact (D8.blk k h).2;exact cZ (LA.aX.low k (aJ h)) AB.size)
 have O3:∀k,aW v11=I k->¬cY p3 k:=λk hk h=>by exact alL
 have u11:=(Dq.aX.2.1.tr (bf.cz kA _)).ir (bf.gy (X:=λk=>aW (F Ao (Z lj) co)=I k) AB λk e=>e) λk hk h=>by have:=(Ur k h).1;omega
 have HH:=aY (aB hBw (aB u11 (aB Dq.aX.2.2.1 (aB Dq.aX.2.2.2.1 O3))));clear hBw u11 O3 hr Ic D8 AB I9 LC tK Ps;go_wp2;go_roundw
 case rel=>exact⟨j+1,p3,aZ,dh,Z3,HH.aX.2.1,HH.aX.2.2.1,HH.aX.2.2.2.1,HH.aX.2.2.2.2,alM⟩
 case measure=>simp[aO];omega):P:=h
theorem anj(h:P:=by go_step3;refine⟨rfl,?_⟩;have hy0:=eF.cell 0;have FF:=eF.cell 1;have hy2:=eF.cell 2;have hz0:=eF.frozen 0;have hz1:=eF.frozen 1;have hz2:=eF.frozen 2;simp at hy0 FF hy2;obtain⟨A4,c4,hb4,_⟩:=id iq;have js:=hb4.cell 1;have wq:=hb4.frozen 1;simp at js;go_wp2;have gJ:=(((eF.far (p:=⟨g,1,U⟩) cN (ar aA)).cH 0 (G J 0)).cH 1 (G J 0)).cH 2 (aw { data:=#[] });have e0:=gJ.cell 0;have e1:=gJ.cell 1;have e2:=gJ.cell 2;simp at e0 e1 e2;have hw:=iq.Yn;rw[jE];refine aM (v:=vd (0,0,[])) Yo rfl ?_;rw[HN.aX,LN];exact ain):P:=h
theorem akO(h:P:=by
 obtain⟨rl,rc⟩:=R;have HZ:=aY hz;go_in;go_upto_region 1 with fail;generalize w.alloc _=w1 at *;generalize D (L w)=ga at hb|-;have qa:=hb.cells;have q1:=λW (k:K w1 W)=>q W (k1.tr k)
 go_upto_region 3 with fail;have qs:=aB q1 qa;refine fD 9 ?_;iterate 6 refine bB.i ?_
 refine bB.op (λv W=>∃v',v=au #[v',G J rc]/\cW (D (L w1)) (D (L w1)) 178 fe rl v' W) (λ_ _ _ ⟨v',e,h⟩ k=>⟨v',e,h.st k⟩) (λV W kW hp=>?_) ?_
 ·(try simp only[dN,bZ,cC,dK,dL,bS]at hp)
  simp[dI,bR,aC,hp,fk,aL,bT,q1,qa,go_sem];refine (C1.aX W (k1.tr kW)).mono ?_;rintro e w4⟨v4,rfl,hO,k4⟩;exact⟨_,rfl,⟨_,rfl,cW.low (cW.floor hO kW.size) kW.size⟩,k4⟩
 refine bB.op (λv W=>cW (D (L w1)) (D (L w1)) 178 fe rl v W) (λ_ _ _ h k=>h.st k) (λV W kW hp=>?_) ?_;exact Oo;refine bB.is (G J rc) (λV W kW hp=>?_) ?_;exact Oq;intro V W kW hA;simp only[bZ,cC,dF,bS,Nat.reduceAdd]at hA;obtain⟨e0,e1,e2,e3,e4,e5,⟨v',e6,gG⟩,hO,e8,-⟩:=hA;have kF:=k1.tr kW;have lO:=(cW.wF hO).fx (λ_ h=>h) |>.less λk hk=>cZ (HZ.aX k hk) k1.size
 refine bN.call _ _ rfl (by simp[bR,aC,cP,e0,e8,aL,bT,go_sem];exact⟨rfl,rfl⟩) ?_;refine (C2.aX W kF (V 7) lO).mono ?_;exact Zz):P:=h
theorem ajT(h:P:=by
 go_wp2_with fail
 apply eu (CV.aX w1 k1) k1;intro w2 j2 k2;replace kk:=kk.tr j2;cases h2:mS wh m.eE
 .have HQ:Hid (ku m=130):=aY (by unfold ku;rw[show fT m=az from by simp[fT,h2]];rfl);go_wp2;go_ret;exact⟨ru,k2⟩
 go_wp2_with fail
 apply eu (CA.aX w2 k2) k2;intro w3 j3 k3;replace kk:=kk.tr j3;cases h3:mS dE m.cR
 .have HQ:Hid (ku m=130):=aY (by unfold ku;rw[show fT m=az from by simp[fT,h3]];rfl);go_wp2;go_ret;exact⟨ru,k3⟩
 go_wp2_with fail
 apply eu (CE.aX w3 k3) k3;intro w4 j4 k4;replace kk:=kk.tr j4;cases h4:mS dE m.eM
 .have HQ:Hid (ku m=130):=aY (by unfold ku;rw[show fT m=az from by simp[fT,h4]];rfl);go_wp2;go_ret;exact⟨ru,k4⟩
 go_wp2_with fail
 apply eu (CP.aX w4 k4) k4;intro w5 j5 k5;replace kk:=kk.tr j5;cases h5:mS dE m.gq
 .have HQ:Hid (ku m=130):=aY (by unfold ku;rw[show fT m=az from by simp[fT,h5]];rfl);go_wp2;go_ret;exact⟨ru,k5⟩
 go_wp2_with fail
 apply eu (CB.aX w5 k5) k5;intro w6 j6 k6;replace kk:=kk.tr j6;cases h6:mS rC m.fc
 .have HQ:Hid (ku m=130):=aY (by unfold ku;rw[show fT m=az from by simp[fT,h6]];rfl);go_wp2;go_ret;exact⟨ru,k6⟩
 go_wp2_with fail
 apply eu (CD.aX w6 k6) k6;intro w7 j7 k7;replace kk:=kk.tr j7;cases h7:mS rC m.fQ
 .have HQ:Hid (ku m=130):=aY (by unfold ku;rw[show fT m=az from by simp[fT,h7]];rfl);go_wp2;go_ret;exact⟨ru,k7⟩
 have HQ:Hid (ku m=0):=aY (by unfold ku;rw[show fT m=aA from by simp[fT,hK,h2,h3,h4,h5,h6,h7]];rfl);go_wp2;go_ret;exact⟨ru,k7⟩):P:=h
theorem ani(h:P:=by
 rw[HT.aX];exact cW.snoc hcl (λw' u=>xM w' (cI.tr (cI.cz kA _ _) u)) (by rw[List.length_take_of_le (show j<=Z es by omega)];exact mw) dW BS
  (λw' u=>UW.aX w' ((cI.tr (cI.cz kA _ _) u).more aZ (λk hk _ e=>bL)))):P:=h
theorem ail(h:P:=by
 rw[Gw k,HKN.aX];apply dP (zD A m c l KN tv _ B (hR.below an9 hB) cN aZ);rintro v1 w1⟨mG,cK⟩;have hx1:=(bn.new w 83 #[G J k,G J n,aw s]).below cK bu;have jR:=hx1.cell 2;simp at jR;obtain⟨A1,c1,rfl,mZ⟩:=mG.slice;have lM:Z (l++bO KN)<=m+9:=by have:=Hml.aX;simp;omega
 generalize pg:Z (l++bO KN)=m1 at *;clear pg mG;have hz1:=cK.size;simp only[World.size_alloc]at hz1;go_wp2_with fail
 apply dP (zD A1 m1 c1 _ NV hnl w1 (D (L w1)) mZ (bP _) aZ);rintro v2 w2⟨gV,hb2⟩;have hx2:=hx1.below hb2 aZ;have qX:=hx2.cell 2;simp at qX;clear jR hx1 mZ;obtain⟨A2,c2,rfl,AO⟩:=gV.slice;have gK:Z (l++bO KN++bO NV)<=m+18:=by have:=Hml.aX;simp;omega
 generalize hm2:Z (l++bO KN++bO NV)=m2 at *;clear hm2 gV;have hz2:=hb2.size;go_wp2_with fail
 have hcb:aN (D (L w2)) w2 (w2.drew.alloc (aq (bytesRow s (grownCap w2 s.size 0 5)) 5 ((bytesRow s (grownCap w2 s.size 0 5)).size,(bytesRow s (grownCap w2 s.size 0 5)).size+1))):=((eP _ w2).drew).alloc (bP _) _;apply dP (Rs A2 _ m2 c2 s.size _ _ (gE s) _ (D (L w2)+1) ((AO.below hcb (bP _)).more aZ) (Reads.conv w2.drew s _ _ _) bu aZ aZ);rintro v3 w3⟨jk,dB⟩;go_wp2;go_ret;refine⟨_,rfl,?_,?_⟩;unfold qJ;rw[HKN.aX,HNV.aX];refine wZ ?_ jk;simp;omega;exact ((an9.trans (cK.mono bu)).trans (hb2.mono aZ)).trans ((hcb.mono aZ).trans (dB.mono cN))):P:=h
theorem BZ(h:P:=by
 go_wp2_with fail
 refine C.aX.mono ?_;rintro e w2⟨rfl,hQ⟩;exact amW):P:=h
theorem SI(h:P:=by have q:=aS.rv.cell;have z:=aS.rv.frozen;go_wp2;clear q z;have P9:=aS.put zEL rfl;simp only[ei,zEL,Nat.reduceAdd,mr]at P9;generalize ax _ _ _=W9 at *;have e9:=P9.1.cell;refine aM (v:=au #[av jx,G J 110]) ajt rfl ?_;exact⟨av jx,by rw[HN.aX.1],by rw[HN.aX.2];exact λ_ _=>azF _,P9.2.1⟩):P:=h
theorem YT(h:P:=by
 obtain⟨vf,ve,rfl,hf,he⟩:=h;obtain⟨A,c,rfl⟩:=dX hf;obtain⟨aS,d,rfl⟩:=bH he;have HI:=aY (agO a x);have q:=hg.cells;have ka:=λo=>(K.rf w).al o
 obtain⟨a0,a1,a2⟩:=a;obtain⟨k,b,l,s,cl,u,f,es⟩:=x;simp only at q HI|-;generalize ko (a0,a1,a2) ⟨k,b,l,s,cl,u,f,es⟩=R at *;exact Zr):P:=h
theorem aCy(h:P:=by
 have hch:(oG (k:Int) N ⟨s.toArray⟩ != 0)=false:=by simp[oG,hok]
 have hy0:=eF.cell 0;have FF:=eF.cell 1;have hy2:=eF.cell 2;have hz0:=eF.frozen 0;have hz1:=eF.frozen 1;have hz2:=eF.frozen 2;have Im:=M7.cell 0;have Bc:=M7.cell 1;have hv2:=M7.cell 2;simp at hy0 FF hy2 Im Bc hv2;go_wp2;have gJ:=((eF.cH 0 (G J k)).cH 1 (G J N)).cH 2 (aw { data:=s.toArray });have e0:=gJ.cell 0;have e1:=gJ.cell 1;have e2:=gJ.cell 2;simp at e0 e1 e2;simp only[Exit.jump];refine aM (v:=vd (k,N,s)) Yo rfl ?_;have LN:(if (decide (3<k)||false||!(kK (k:Int) N ⟨s.toArray⟩))=aA then (((0,0,[]),l3,aA):(Int×Int×List UInt8)×List UInt8×Bool)else (((k:Int),N,s),l3,az))=(((k:Int),N,s),l3,az):=by simp[h3,hok]
 rw[HN.aX,LN];refine⟨rfl,?_,?_⟩;exact Rd.below (B:=D (L w)) iq ((((eP _ _).setCell bu _).setCell bu _).setCell bu _) hg;exact BN (BN (BN hgr bu _) bu _) bu _):P:=h
theorem ajU(h:P:=by
 have kk:=K.rf w;have hq:=λ(W:aP) (a:Option Addr) (l c:Nat)=>Y7 (P:=aR) W 118 5 a l c underlying118
 go_in;cases A with
 | none => exact Y8
 | some ad => exact aCz):P:=h
theorem YQ(h:P:=by go_wp2;clear q z;have P9:=aS.put zRL rfl;simp only[ei,zRL,Nat.reduceAdd,mr]at P9;generalize ax _ _ _=W9 at *;have e9:=P9.1.cell;refine aM (v:=au #[av ud,G J 110]) ajy rfl ?_;exact⟨av ud,by rw[HN.aX.1],by rw[HN.aX.2];exact λ_ _=>azU _,P9.2.1⟩):P:=h
theorem Sm(h:P:=by
 go_in;go_wp2;refine Na 0 rfl ?_;go_wp2_with fail
 apply bW HN.aX;rintro w2⟨rH,hgr⟩;obtain⟨h9,lL⟩:=hfin w2 rH hgr;obtain⟨A,c,hb,hr,hc1,jR⟩:=rH;have gI:=hb.cell 0;have hx1:=hb.cell 1;have wq:=hb.frozen 1;simp at gI hx1;go_wp2;go_step3;refine⟨rfl,?_⟩;go_wp2;rw[jE];go_ret;exact⟨_,rfl,h9,lL⟩):P:=h
theorem aaw(h:P:=by
 have q:=aS.rv.cell;have z:=aS.rv.frozen;have an8:Hid (tj b=U):=aY (by rw[HD.aX];simp);obtain rfl:CK=130:=by rw[QS.aX,an8.aX];rfl
 obtain rfl:MX=Ck:=by rw[HMX.aX,an8.aX];rfl
 go_wp2;have P9:=aS.put zML rfl;simp only[ei,zML,Nat.reduceAdd,mr]at P9;clear q z;generalize ax _ _ _=W9 at *;have e9:=P9.1.cell;refine aM (v:=au #[av LG,G J 130]) amo rfl ?_;exact⟨av LG,rfl,λ_ _=>aAR _,P9.2.1⟩):P:=h
theorem Oo(h:P:=by simp only[dN,bZ,cC,dK,dL,bS]at hp;obtain⟨⟨v',e,hO⟩,-⟩:=hp;simp[dI,bR,aC,e,fk,aL,bT,eP,go_sem];exact hO):P:=h
theorem Oq(h:P:=by simp only[dN,bZ,cC,dK,dL,bS]at hp;obtain⟨⟨v',e,hO⟩,-⟩:=hp;exact ane):P:=h
theorem ZY(h:P:=by
 have MU:bf (λk=>k=g\/k=g+1\/k=g+2) w6 w9:=⟨sR.os.trans u8.os,sR.tape.trans u8.tape,sR.output.trans u8.output,cQ u8.size sR.size,λk h1 h2=>(sR.block k (cZ h1 u8.size) bL).trans (u8.block k h1 h2)⟩;clear CC hB T8 VD VE VF q8 ql aEY aEZ aE0;have HD:=aY VG;have u9:=MU;clear VG;go_wp2;go_roundw
 case rel=>exact⟨j+1,aZ,dh,HD.aX,u9⟩
 case measure=>simp[aO];omega):P:=h
theorem Zr(h:P:=by
 go_in;go_wp2;all_goals
  go_ret
  refine⟨?_,(K.rf w).al _⟩
  rw[HI.aX]
  show ak (ar _)=ak (ar _)
  first|(simp_all;done)|(simp_all;omega)|(congr 2;rw[Bool.eq_iff_iff];simp_all;omega)):P:=h
theorem K4(h:P:=by
 go_wp2;go_roundw
 case rel=>exact⟨k+1,aZ,dh,rN,kW⟩
 case measure=>simp[aO];omega):P:=h
theorem tP(h:P:=by go_wp2;go_ret;exact⟨ki,rfl⟩):P:=h
theorem amX(h:P:=by
 go_wp2_with fail
 apply bW C.aX;intro w2 hQ;obtain⟨hb,hE⟩:=HF.aX R.2.1 _ _ hQ;have HE:=aY hE;have q:=hb.cell;have zz:=hb.frozen;have e9:=(((hb.cH 0 (G J R.2.1.1)).cH 1 (G E R.2.1.2.1)).cH 2 (G E R.2.1.2.2)).cell;go_wp2;refine aM (v:=au #[dD R.2.1,G J R.2.2]) (by simp[results,results26,go_sem,e9]) rfl ?_;exact⟨rfl,HE.aX⟩):P:=h
theorem pI(h:P:=by go_wp2;go_ret;exact⟨jB,k1⟩):P:=h
theorem Y8(h:P:=by
 obtain⟨rfl,rfl⟩:xs=[]/\n=0:=by exact aCA
 go_wp2;go_ret;exact⟨_,rfl,oV _ _ _ _,kk⟩):P:=h
theorem akR(h:P:=by
 rintro v2 w2⟨ho,k2⟩;obtain⟨qA,pw,rfl,hF⟩:=E5 ho;have dR:=hO.blk;have hz:=lA.size;replace hO:=hO.st k2;have ni:=lA.tr k2;have hr:=fL.new (S:=cL) (e:=128) (v:=av (cB x qA pw)) hF 0 (fw _);have dS:=hO.st ((K.rf w2).al (aq (cB x qA pw) 128));have eA:=ni.tr ((K.rf w2).al (aq (cB x qA pw) 128));go_wp2_with (at_builtin;refine j0 rfl _ _ 59 rfl _ 8 96 tH rfl rfl dS _ rfl x ?p1 ?p2 ?p3 ?_)
 case p1=>exact hr.less λk hk=>aj9
 case p2=>simp;omega
 case p3=>exact eA.size
 intro v9 w9 cX dW _ cV;rw[<- HT.aX]at cX;have kL:=eA.trans cV;exact ZT):P:=h
theorem ank(h:P:=by
 have zq:=kL.trans cV;go_wp2;go_roundw
 case rel=>exact⟨j+1,aZ,dh,by rw[<- jJ.aX,HP.aX];exact api,zq⟩
 case measure=>simp[aO];omega):P:=h
theorem aln(h:P:=by
 obtain⟨vf,ve,rfl,hf,he⟩:=h;obtain⟨A,c,rfl⟩:=dX hf;obtain⟨aS,d,rfl⟩:=bH he;have HI:Hid (ko (bE y) x=(decide (x.br=y.br)&&decide (x.life=y.life)&&decide (x.eY=y.eY))):=aY (agO (y.br,y.life,y.eY) x);have q:=hg.cells;have ka:=λo=>(K.rf w).al o
 generalize ko (bE y) x=R at *;obtain⟨yk,yb,yl,ys,yc,yu,yf,yes⟩:=y;obtain⟨k,b,l,s,cl,u,f,es⟩:=x;simp only at q HI|-;go_in;go_wp2;all_goals
  go_ret
  refine⟨?_,(K.rf w).al _⟩
  rw[HI.aX]
  show ak (ar _)=ak (ar _)
  rw[show decide (l=yl)=decide ((l:Int)=yl)from decide_eq_decide.2 aZ,show decide (s=ys)=decide ((s:Int)=ys)from decide_eq_decide.2 aZ]
  simp[*]):P:=h
theorem Zz(h:P:=by rintro e w5⟨rfl,hN⟩;refine⟨_,rfl,?_⟩;have hNN:=aY (hN.F6 kF HX.aX);apply bN.pure;rfl;simp[bR,aC,cP,aL,bT,go_sem];rfl;refine bN.e ?_;go_wp2;go_ret;exact⟨by first|rfl|(simp[cP];done),hNN.aX⟩):P:=h
theorem aj0(h:P:=by
 rintro s A B row⟨v,hv,hrow,hB,hz⟩ hg hr;have hne:∀g t cs,bn A g t cs->I g≠row:=λg t cs hb e=>by obtain⟨h1,o,h2,h3⟩:=hr g e.symm;unfold bn at hb;rw[hb]at h2;injection h2 with h2;rw[<- h2]at h3;cases h3
 refine⟨v,hv.kept hg (hne _ _ _ hv),KS hrow λg _ h1 h2=>hg.block g h1 ?_,⟨hg.os.trans hB.os,hg.tape.trans hB.tape,hg.output.trans hB.output,cQ hB.size hg.size,λk hk=>(hg.block k (cZ hk hB.size) λe=>?_).trans (hB.block k hk)⟩,cQ hz hg.size⟩;obtain⟨cur,hb⟩:=pH hrow h2;exact hne _ _ _ hb;obtain⟨h1,-⟩:=hr k e.symm;have:=k2.size;omega):P:=h
theorem Zg(h:P:=by
 go_wp2;go_roundw
 case rel=>exact⟨j+1,aZ,dh,cX,k9⟩
 case measure=>simp[aO];omega):P:=h
theorem K5(h:P:=by simp only[dN,bZ,cC,dK,dL,bS]at hp;exact⟨hp.1,hp.2.1.less λ_ h=>h⟩):P:=h
theorem aCz(h:P:=by
 have hb:=bn.new w 5 #[];have k1:=hb.cG;have ho:(aU w (aq #[] 5)).ownsRow (D (L w)) 5 1 (F (I ⟨D (L w),0,U⟩) 0 0) 0 [] :=
  ⟨rfl,aJ ⟨D (L w),0,_,rfl,bP _,hb,bP _,E3,bu,bu⟩⟩
 have mZ:=(hR.below k1 (bP _)).more k1.size;go_wp2_with (at_builtin;refine nZ rfl _ _ 118 rfl (D (L w)) 5 _ 1 1 TB _ 0 [] rfl ho _ (I ad) n c xs rfl mZ h1 ?p1 k1.size ?_)
 case p1=>omega
 exact Y9):P:=h
theorem ak6(h:P:=by
 have HR:Hid (kU a b=if a<b then -1 else if b<a then 1 else 0):=aY rfl;generalize kU a b=R at *;go_in;go_wp2_with fail
 apply bW (C1.aX a w);intro w2 k2;go_wp2_with fail
 apply eu (C1.aX b w2) k2;intro w3 k3 k;by_cases h1:a<b;have HE:Hid (R=-1):=aY akF;exact aaR;by_cases h2:b<a;have HE:Hid (R=1):=aY akG;exact aaR;have HE:Hid (R=0):=aY akH;exact aaR):P:=h
theorem TC(h:P:=by simp only[dN,bZ,cC,dK,dL,bS]at hp;obtain⟨⟨A,cc,e⟩,-⟩:=hp;exact aaD):P:=h
theorem K7(h:P:=by
 go_wp2;try rw[jE]
 exact anl):P:=h
theorem SU(h:P:=by
 have C1:=aY (Iy a b w hb hm);rw[hk]at C1;go_in;go_wp2_with fail
 apply bW C1.aX;rintro w' rfl;simp only[Option.getD_none,Option.isSome_none];go_wp2;go_ret;exact⟨rfl,rfl⟩):P:=h
theorem air(h:P:=by
 intro k;induction k with
 | zero=>intro _;exact⟨[],rfl,bu,bu⟩
 | succ k ih => intro hk;obtain⟨bw,h1,h2,h3⟩:=ih aZ;obtain⟨cs,h4,h5,h6⟩:=hex k aZ;refine⟨bw++[cs],by simp[h1],?_,λi j hik hj=>?_⟩;intro x hx;rcases List.mem_append.1 hx with hx|hx;exact h2 x hx;simp at hx;subst hx;exact⟨h4,h5⟩;by_cases aFL:i<k;rw[h3 i j aFL hj,List.getElem?_append_left aZ];obtain rfl:i=k:=aZ;rw[h6 j hj,List.getElem?_append_right aZ,h1];simp):P:=h
theorem ak7(h:P:=by
 have k1:=λo=>(K.rf w).al o
 have C1:=aY λW (k:K w W)=>awo s x v vf ve g W (aC4 h k) (hg.bM k)
 obtain⟨vs,rfl,hf⟩:=h;obtain⟨A,c,rfl⟩:=dX hf;have hb:=bn.new w 260 (qO s (F A (Z s.f) c));replace k1:=k1 (aq (qO s (F A (Z s.f) c)) 260);have aFM:=J1.bM k1;generalize lS s x=R at *;go_in;go_upto_region 1 with fail;generalize w.alloc _=w1 at *;have qa:=hb.cell;have qf:=aFM.cell;go_wp2_with fail
 apply eu (C1.aX w1 k1) k1;intro w2 k2 kF;go_wp2;go_ret;exact⟨dH,kF⟩):P:=h
theorem alL(h:P:=by rcases I9 with e|e;exact Dq.aX.2.2.2.2.1 k (e▸hk) h;rw[e]at hk;injection hk with hk;have:=Dq.aX.1.low k (aJ h);have h9:D (L Bz)<D (L (aU Bz (aq (cB x (F Af (Z x.f) cf) (F Ae (Z x.es) ce)) 128))):=bu;omega):P:=h
theorem NT(h:P:=by go_in;go_wp2;refine Na 0 rfl ?_;go_wp2;go_step3;refine⟨rfl,?_⟩;go_wp2;rw[jE];go_ret;exact⟨rfl,DZ _ rfl⟩):P:=h
theorem BV(h:P:=by go_wp2;go_ret;exact⟨jB,kk⟩):P:=h
theorem Ou(h:P:=by have cE:¬(j:Int)<Z l:=aZ;obtain rfl:j=Z l:=aZ;rw[pL]at hO;exact SY):P:=h
theorem YS(h:P:=by
 have k1:=K.ou w (aq (eO s vl vp va) 61) (aq #[G J a.1,G E a.2.1,G E a.2.2] 42);go_in;go_wp2_with fail
 generalize ay (ay w _) _=w1 at *;apply bW (C1.aX w1 k1);intro w2 k2;go_wp2;go_ret;exact⟨rfl,k1.tr k2⟩):P:=h
theorem Ox(h:P:=by
 go_wp2;go_roundw
 case rel=>exact⟨j+1,aZ,dh,by rw[<- jJ.aX,HP.aX];exact fC,iX⟩
 case measure=>simp[aO];omega):P:=h
theorem anl(h:P:=by go_ret2;exact⟨_,ru,IX,dt⟩):P:=h
theorem akL(h:P:=by
 have hst:=run_storeCells_at P g o t cells.toList 0 cur w hb aZ h1;simp only[Nat.add_zero,Array.length_toList]at hst;refine⟨_,?_,setRow_heap w g cur _ t _ hb,⟨rfl,rfl,rfl,bu,λk hk hne=>setRow_other w g k _ (λe=>hne IW)⟩⟩;cases hq:P.info? T with
 | none=>simp[hq]at hi
 | some i => have hz:cells.size=i.size:=bL;simp[aL,bT,hs,hx,Instr.storeAt,Instr.sureAddr,storeVar,sizeOf,typeInfo,hq,Value.cells,hz];rw[<- hz,hst];simp[Result.andThen]):P:=h
theorem IY(h:P:=by go_wp2;go_ret;exact⟨jB,by rw[HR.aX];exact HF.aX⟩):P:=h
theorem S0(h:P:=by rcases hx with hx|hx|hx;have:=HZ1.aX;have:=EC.aX;have:=P7.aX;omega;have:=(Bk.aX.blk gp hx).1;have:=P7.aX;omega;have:=Mk.aX gp hx;have:=EC.aX;omega):P:=h
theorem Zp(h:P:=by simp only[dN,bZ,cC,dK,dL,bS]at hp;obtain⟨⟨Mr,Ms,e3,hF⟩,h5,-⟩:=hp;simp[e3,h5,dI,bR,aC,fk,aL,bT,eP,go_sem];exact⟨_,_,rfl,G3.tx hF⟩):P:=h
theorem aCB(h:P:=by exact Rd.below (B:=D (L w)) hw.1 ((((eP _ _).setCell bu _).setCell bu _).setCell bu _) hg):P:=h
theorem aCA(h:P:=by rcases Nat.eq_zero_or_pos (Z xs)with h|h;refine⟨List.eq_nil_of_length_eq_zero h,?_⟩;have:=hR.1;omega;obtain⟨b,off,e,-⟩:=hR.2 h;cases e):P:=h
theorem aCx(h:P:=by
 have HQ:Hid (P'=(L1,lj)):=aY Z0;have HH:=aY (aB Ct (aB uR (aB G4 (aB G5 (aB GV qP)))));clear Ct uR G4 G5 GV qP sF u3 kJ QH xP;go_wp2;go_roundw
 case rel=>exact⟨j+1,p3,aZ,dh,Z3,HH.aX.2.1,HH.aX.2.2.1,HH.aX.2.2.2.1,HH.aX.2.2.2.2.1,by rw[<- jJ.aX,HQ.aX];exact HH.aX.2.2.2.2.2⟩
 case measure=>simp[aO];omega):P:=h
theorem ala(h:P:=by
 have aFN:=kH.blk;have C3:=aY (agb _ _ R v8 w8 kH hRl hRs);obtain⟨A8,c8,rfl⟩:=kH.slice;go_wp2_with fail
 apply bW C3.aX;rintro w9⟨cX,u9⟩;have sO:=Vw.size;have kF:=u9.k zl λk hk=>by have:=(aFN k hk).1;have:=pA.aX;omega
 have HO:Hid (bK (λk=>k<lo) lo 260 jZ R (F A8 (Z R) c8) w9):=aY ((cX.less λk hk=>aZ).low aZ);exact ZI):P:=h
theorem ak4(h:P:=by
 have Jj:=mq _ _ _ _ jH kr;generalize es[j]=ej at *;obtain⟨Ae,ce,rfl,hRe⟩:=Jj;have gT:Z (es.take j)<=1000000:=cN;have MT:=kr.size;go_wp2_with (at_builtin;refine nZ rfl _ _ 35 rfl (D (L wr)) 88 _ 4 48 TE _ 0 [] rfl (oV _ _ _ _) _ Ae (Z ej) ce (ej.flatMap nu) rfl hRe (XR ej) ?p1 (bP _) ?_)
 case p1=>omega
 intro v2 w4 gV _ _ hb2;have UW:=aY (s8.rel (show s8 w4 (D (L wr)) v2 ej from gV));obtain⟨A2,c2,rfl,-⟩:=(show s8 w4 (D (L wr)) v2 ej from gV).slice;have AY:=hO.blk;have fC:=hO.st hb2;have iX:=kr.tr hb2;obtain⟨bw,hown,hcl,xM⟩:=fC;have lr:=hb2.size;have kA:=K.new w4 (aq #[F A2 (Z ej) c2] 35);have hbase:D (L w)<=D (L (aU w4 (aq #[F A2 (Z ej) c2] 35))):=OD;go_wp2_with (at_builtin;refine nZ rfl _ _ 43 rfl (D (L w)) 35 _ 1 24 FT _ _ _ rfl (xj hown _) (D (L w4)+1) _ 1 1 [F A2 (Z ej) c2] rfl ?c1 ?c2 ?c3 hbase ?_)
 case c1=>exact Reads.new w4 [F A2 (Z ej) c2] 35 1 1 rfl
 case c2=>intro u hu;simp at hu;subst hu;rfl
 case c3=>omega
 intro v9 w9 mw dW gD cV;have k9:=(iX.tr kA).trans cV;have cX:cW (D (L w)) (D (L w)) 35 eB (es.take (j+1)) v9 w9:=by exact ani
 exact Zg):P:=h
theorem ZL(h:P:=by
 go_wp2_with fail
 apply eu C1.aX kr;intro w2 k2 kW;cases hx:q t;exact anm;have HE:=aY (HA.aX aab);go_wp2;go_ret;exact⟨_,rfl,kW,by rw[HE.aX];simp⟩):P:=h
theorem ai2(h:P:=by by_cases h1:xs.size<=100;exact aCC;have h1':(100:Int)<(xs.size:Int):=aZ;have HE:=aY (HF.aX aZ);exact tP):P:=h
theorem aly(h:P:=by
 have kL:=sQ.tr kA;have qv:=cQ k8.size kA.size;go_wp2_with (at_builtin;refine j0 rfl _ _ 59 rfl _ 8 96 tH rfl rfl uz.a _ rfl x ?p1 ?p2 ?p3 ?_)
 case p1 => exact hr.less λk hk=>by rcases hk with (hk|hk)|hk;omega;have:=gY k hk;omega;have:=wP k hk;omega
 case p2=>omega
 case p3=>exact cQ Pp qv
 exact alS):P:=h
theorem alr(h:P:=by
 have HE:=aY (by
  have:=hall.aX;rw[jq aZ]at this;exact this)
 go_wp2;go_ret;exact⟨_,rfl,kr,by rw[HE.aX];simp⟩):P:=h
theorem aak(h:P:=by
 rintro v4 w4⟨hs4,k4⟩;rw[<- HS.aX]at hs4;have Bo:=aY (pF xN.size hs4);have xO:=xN.tr k4;go_wp2;go_roundw
 case rel=>exact⟨j+1,aZ,dh,Bo,xO⟩
 case measure=>simp[aO];omega):P:=h
theorem aas(h:P:=by have u0:=(uj.tr u4).tr (bf.cz kA _);exact⟨sC.os.trans u0.os,sC.tape.trans u0.tape,sC.output.trans u0.output,cQ u0.size sC.size,λk hk hx=>(sC.block k hk).trans (u0.block k hk hx)⟩):P:=h
theorem Y6(h:P:=by
 have cE:¬(j:Int)<Z l:=aZ;have HR:Hid (R=aA):=aY (by
  have h1:=HT.aX;rw[jq aZ]at h1;rw[HI.aX,h1];simp[lF])
 go_wp2;go_ret;exact⟨jB,kr⟩):P:=h
theorem Tb(h:P:=by
 go_wp2;go_roundw
 case rel=>exact⟨j+1,_,aZ,dh,qi,by rw[<- jJ.aX,HQ.aX];exact EG,hat,uW⟩
 case measure=>simp[aO];omega):P:=h
theorem ZA(h:P:=by refine (C1.aX W (k1.tr kW)).mono ?_;rintro e w4⟨v4,rfl,hO,k4⟩;exact⟨_,rfl,⟨_,rfl,cW.low (cW.floor hO anh) anh⟩,k4⟩):P:=h
theorem ZN(h:P:=by
 obtain⟨A,c,rfl⟩:=bH h;generalize l.any q=R at *;go_in;go_wp2_with fail
 refine C1.aX.mono ?_;rintro e w2⟨i,rfl,k2,hR⟩;have HR:=aY hR;go_wp2;go_ret;exact⟨by rw[<- HR.aX];rfl,k2⟩):P:=h
theorem ann(h:P:=by rintro w' rfl;exact ams):P:=h
theorem aaC(h:P:=by simp only[dN,bZ,cC,dK,dL,bS]at hp;obtain⟨⟨p,code,e⟩,-⟩:=hp;exact aaD):P:=h
theorem Sk(h:P:=by go_in;go_wp2;go_ret;refine⟨?_,rfl⟩;rw[HE.aX];show ak (G _ _)=ak (G _ _);congr 2;all_goals omega):P:=h
theorem ZQ(h:P:=by
 go_wp2;go_roundw
 case rel=>exact⟨j+1,aZ,dh,by rw[<- jJ.aX,HP.aX];exact cX,zq⟩
 case measure=>simp[aO];omega):P:=h
theorem Ti(h:P:=by
 go_wp2_with (with_reducible refine agm rfl (.tmp 23) (.tmp 24) rfl a b rfl rfl ?_)
 exact DJ):P:=h
theorem Ow(h:P:=by
 go_wp2_with fail
 apply eu C1.aX k1;intro w2 k2 kF;go_wp2;go_ret;exact⟨jB,kF⟩):P:=h
theorem aCC(h:P:=by
 have h1':¬(100:Int)<(xs.size:Int):=aZ;by_cases h2:xt.size<=100
 .have Jy:¬(100:Int)<(xt.size:Int):=aZ;have hr:=aY (HT.aX ⟨h1,h2⟩);go_wp2;go_round
  case rel=>exact⟨k+1,aZ,dh,hr⟩
  case measure=>simp[aO];omega
 have Jy:(100:Int)<(xt.size:Int):=aZ;have HE:=aY (HF.aX aZ);exact tP):P:=h
theorem anm(h:P:=by have rN:Hid ((l.take (k+1)).any q=az):=aY Tj;exact K4):P:=h
theorem DJ(h:P:=by go_ret;exact⟨I0,kF⟩):P:=h
theorem La(h:P:=by rintro w' rfl;have Mx:=nF;go_wp2;go_ret;exact⟨ki,Mx⟩):P:=h
theorem aat(h:P:=by
 clear mw dW gD cV hown xM F3 Jp;go_wp2;go_roundw
 case rel=>exact⟨j+1,aZ,dh,es++[x],lk,Gk,Gl,Hm,abR,EB,u9⟩
 case measure=>simp[aO];omega):P:=h
theorem ajn(h:P:=by
 go_wp2_with fail
 apply eu (Nb x _ _ (Hi _ k1)) k1;intro w2 k2 dt;have e3:=azO x;cases he:dE x;exact ajk;exact ajl):P:=h
theorem Tw(h:P:=by
 go_in;go_wp2_with fail
 apply bW C1.aX;intro w2 hN;have HN:=aY hN;go_wp2;go_ret;exact⟨rfl,HN.aX⟩):P:=h
theorem Fa(h:P:=by go_wp2;go_ret;exact⟨ki,nF⟩):P:=h
theorem OG(h:P:=by go_wp2;go_ret;exact⟨jB,rfl⟩):P:=h
theorem alb(h:P:=by
 by_cases h1:a<b
 .have HE:Hid (kU a b=-1):=aY (by simp[kU,h1]);go_in;exact tP
 by_cases h2:b<a
 .have HE:Hid (kU a b=1):=aY (by simp[kU,h1,h2]);go_in;exact tP
 have HE:Hid (kU a b=0):=aY (by simp[kU,h1,h2]);go_in;exact tP):P:=h
theorem SP(h:P:=by simp only[dN,bZ,cC,dK,dL,bS]at hp;exact hp.1):P:=h
theorem amm(h:P:=by go_wp2;have e9:=cV.cell;rw[MA]at e9 Eu Bg MU;simp only[ei,Nat.reduceAdd,mr]at e9 Eu Bg MU;refine aM (v:=av (cB x (F A9 (Z x.f) c9) (F D9 (Z x.es) d9))) (by simp[results,results244,go_sem,e9]) rfl ?_;exact⟨_,rfl,Eu,Bg,MU⟩):P:=h
theorem ZT(h:P:=by
 go_wp2;go_roundw
 case rel=>exact⟨j+1,aZ,dh,cX,kL⟩
 case measure=>simp[aO];omega):P:=h
theorem YH(h:P:=by simp only[aL,bT,resolve,invoke,builtin,Sem.run_bind,Sem.run_pure,Result.andThen_ok,List.map_toArray,mN,List.map_nil,hrun]):P:=h
theorem DC(h:P:=by go_in;go_wp2;go_ret;exact⟨rfl,rfl⟩):P:=h
theorem akp(h:P:=by
 go_wp2;go_roundw
 case rel=>exact⟨j+1,aZ,dh,EB⟩
 case measure=>simp[aO];omega):P:=h
theorem SF(h:P:=by go_wp2;go_ret;exact⟨jB,dt⟩):P:=h
theorem aaH(h:P:=by
 have q:=gj.cell;have HK:=aY kA;go_in;go_wp2_with fail
 apply bW C1.aX;intro w2 hN;have HF:=aY (eW.k HK.aX hN);exact IY):P:=h
theorem YF(h:P:=by rintro ⟨g,cap,cur,g1,g2,g3,g4⟩;exact⟨g,cap,cur,g1,g2,(u.block g g2 (aG.1 g3).1 bu).trans g3,g4⟩):P:=h
theorem Fe(h:P:=by exact absurd (hb2.jK hb) bG):P:=h
theorem aip(h:P:=by go_wp2;generalize W3.alloc _=W4 at *;have LN:(if (decide (3<k)||true||!(kK (k:Int) N ⟨s.toArray⟩))=aA then (((0,0,[]),l3,aA):(Int×Int×List UInt8)×List UInt8×Bool)else (((k:Int),N,s),l3,az))=((0,0,[]),l3,aA):=bu;exact anj):P:=h
theorem aaD(h:P:=by simp[dI,bR,aC,e,fk,aL,bT,eP,go_sem]):P:=h
theorem ang(h:P:=by
 go_upto_region 28 with fail;go_quiet (fail);go_wp2;go_roundw
 case rel=>exact⟨t+1,dd,gT,dh,aY ⟨(HN.aX _ (below_drewN kX _)).1,by have:=HJ.aX.2.1;omega,(HN.aX _ (below_drewN kX _)).2.2⟩⟩
 case measure=>simp[aO];omega):P:=h
theorem Y9(h:P:=by intro v4 w4 iA _ _ hb4;have HO:=aY (by simpa using iA);have k4:=k1.trans hb4;go_wp2;go_ret;exact⟨_,rfl,HO.aX,k4⟩):P:=h
theorem aiz(h:P:=by
 cases y with
 | tmp t => simp only[beq_iff_eq]at h4;simp only[Cy,bR,h4]
 | const v=>rfl
 | global g=>rfl
 | func f=>rfl):P:=h
theorem ajv(h:P:=by have iB:=Rz mH;have HN:=aY (afo (HQ.aX.1 mH));rw[iB.1];clear mH iB;have q:=DE.rv.cell;have z:=DE.rv.frozen;go_upto_region 9 with fail;generalize wd.alloc _=we at *;clear aS;have aS:=DE;clear DE;exact YQ):P:=h
theorem IP(h:P:=by go_wp2;go_ret;exact⟨I0,fY⟩):P:=h
theorem ZS(h:P:=by intro v9 w9 cX dW gD cV;have api:=(uz.swap.push cX dW BS).swap;exact ank):P:=h
theorem Oe(h:P:=by go_wp2;go_ret;exact⟨ru,k1⟩):P:=h
theorem ait(h:P:=by
 intro q hq;have e:q=q/C*C+q%C:=by rw[Nat.mul_comm];exact (Nat.div_add_mod q C).symm
 have js:=Nat.div_lt_of_lt_mul (by rwa [Nat.mul_comm]at hq);have rK:q%C<C:=Nat.mod_lt _ hC0;rw[e,h3 _ _ js rK,hfg _ _ js rK]):P:=h
theorem aaK(h:P:=by simp only[dN,bZ,cC,dK,dL,bS]at hp;exact⟨hp.1,hp.2.1⟩):P:=h
theorem akB(h:P:=by
 go_in;go_wp2_with fail
 generalize w.alloc _=w1 at *;refine (C1.aX w1 k1).mono ?_;rintro e w2⟨v2,rfl,hO,k2⟩;have HW:=aY (cW.low (cW.floor hO k1.size) k1.size);go_wp2;go_ret2;exact⟨_,rfl,HW.aX,k1.tr k2⟩):P:=h
theorem YZ(h:P:=by have Cg:(16:Int)<(Z l:Int):=aZ;have HR:Hid (R=az):=aY (by rw[HI.aX];simp[lF]);exact BV):P:=h
theorem aaL(h:P:=by simp only[dN,bZ,cC,dK,dL,bS]at hp;exact⟨rfl,hp.2.1⟩):P:=h
theorem ak1(h:P:=by
 have qh:Hid ((l.take (j+1)).filter q=(l.take j).filter q):=aY ZG;rw[<- qh.aX]at fq;go_wp2;go_roundw
 case rel=>exact⟨j+1,aZ,dh,fq,ni⟩
 case measure=>simp[aO];omega):P:=h
theorem aiR(h:P:=by
 have qv:D (L w1)<=D (L w9):=by have:=cV.size;simp at this;omega
 clear mw dW gD cV;go_wp2;go_roundw
 case rel=>exact⟨k+1,aZ,dh,anp,fF,aoc,qv⟩
 case measure=>simp[aO];omega):P:=h
theorem Tx(h:P:=by exact⟨e,anH hat h1 (λh=>by rw[h,hda,Wl]at h3;cases h3),h2,h3,h4⟩):P:=h
theorem aju(h:P:=by exact⟨_,by rw[HN.aX.1],by rw[HN.aX.2];exact λW' u'=>⟨_,_,rfl,Es.aX.1 _ (U9.tr (u'.more (by omega) (λ_ _ _=>by simp))),Es.aX.2 _ (U9.tr (u'.more (by omega) (λ_ _ _=>by simp)))⟩,P9.2.1⟩):P:=h
theorem aj7(h:P:=by
 have HB:Hid (Cn m=G1 (k'+1) s0):=aY (by rw[G1,<- HM.aX]);clear hB ha h1;go_wp2;go_round
 case rel=>exact⟨k'+1,aZ,dh,Cn m,by rw[HX.aX],hl,HB⟩
 case measure=>simp[aO];omega):P:=h
theorem al6(h:P:=by apply dP (aeT R _ w H2.aX HS.aX oI);rintro v2 w2⟨hO,k2⟩;clear H2 HS oI;have HO:=aY hO;obtain⟨A2,c2,rfl⟩:=bH hO.bD;clear hO;exact Zf):P:=h
theorem Lf(h:P:=by exact⟨Om,by rw[HR.aX];exact hF⟩):P:=h
theorem SE(h:P:=by unfold bN;rw[hg,bV (show dI V U=aA from rfl),hx];exact h):P:=h
theorem ajP(h:P:=by rw[Bool.eq_false_iff];intro hh;obtain⟨y,hy,e⟩:=IH.1 hh;simp only[List.map_append,mN]at h;exact (List.nodup_append.1 h).2.2 (bE y) (List.mem_map_of_mem hy) (bE x) bu e):P:=h
theorem aiX(h:P:=by
 intro l;induction l with
 | nil=>simp
 | cons y l ih => exact aCD):P:=h
theorem aiq(h:P:=by intro i hil;obtain⟨cs',hc,ht⟩:=hi i aZ;rw[hC]at hc;obtain⟨_,hcl,hat⟩:=World.cells?_some hc;refine⟨cs',hcl,hE _ _ _ hcl ht,λj hj=>?_⟩;rw[<- Go.Deep.add_add];exact hat j hj):P:=h
theorem ajF(h:P:=by rw[TP,List.flatten_cons,List.flatten_cons,ih,List.take_append,jq (l:=c) Sn,hc,show (k+1)*n-n=k*n by rw[Nat.succ_mul];omega]):P:=h
theorem ajd(h:P:=by unfold Oper.wp aL;simp only[ho,resolve,invoke,builtin,Sem.run_bind,Sem.run_pure,Result.andThen_ok,List.map_toArray,mN,List.map_nil,hs,hx,hrun];exact hK _ _ (h v' w' h1 h2 h3 h4)):P:=h
theorem S7(h:P:=by
 go_wp2;try rw[jE]
 exact S8):P:=h
theorem YR(h:P:=by
 go_wp2;go_roundw
 case rel=>exact⟨j+1,aZ,dh,qh,Ma⟩
 case measure=>simp[aO];omega):P:=h
theorem Y5(h:P:=by
 go_wp2;go_roundw
 case rel=>exact⟨j+1,aZ,dh,qh,xO⟩
 case measure=>simp[aO];omega):P:=h
theorem Oj(h:P:=by go_wp2;go_ret;exact⟨ki,kr⟩):P:=h
theorem S8(h:P:=by go_ret;exact⟨ki,hb2⟩):P:=h
theorem ako(h:P:=by
 have e9:=cV.cell;try rw[jE]
 refine aM (v:=au #[av oK,G J co]) (by simp[results,results47,go_sem,e9,eZ]) rfl ?_;exact⟨_,_,_,rfl,aDN _ _,k9⟩):P:=h
theorem aaj(h:P:=by simp only[fg,sc]at this|-;have:min j (Z l)<=16:=aZ;omega):P:=h
theorem aam(h:P:=by obtain⟨j,hj,rfl⟩:=List.getElem_of_mem hx;obtain⟨A,d,e,-⟩:=(q4 j hj aZ).2.now;grind):P:=h
theorem am3(h:P:=by
 intro X2 k2 ni;refine⟨_,rfl,?_⟩;have qs:=trivial;refine bN.p ?_;refine bN.h ?_;go_wp2;go_roundw
 case rel=>exact⟨j+1,aZ,dh,ni⟩
 case measure=>simp[aO];omega):P:=h
theorem TA(h:P:=by exact⟨Om,jB,by rw[HR.aX];exact hP,hU⟩):P:=h
theorem ali(h:P:=by
 go_in;go_upto_region 1 with fail;generalize w.alloc _=w1 at *;have q:=hb.cell;have q2:=hg1.cell;go_wp2_with fail
 apply eu C1.aX k1;exact Z6):P:=h
theorem akx(h:P:=by simp only[dN,bZ,cC,dK,dL,bS]at hp;obtain⟨⟨Mr,Ms,e3,hF⟩,-⟩:=hp;show tD _ _ _ (V 6) _;rw[e3];exact⟨rfl,hF⟩):P:=h
theorem al0(h:P:=by rcases List.mem_append.1 h with h|h;exact aI h;simp at h;exact aJ ⟨x,bu,h⟩):P:=h
theorem akU(h:P:=by simp only[dN,bZ,cC,dK,dL,bS]at hp;obtain⟨⟨qA,pw,e6,hF⟩,-⟩:=hp;simp[bR,aC,e6];exact⟨rfl,hF⟩):P:=h
theorem ajI(h:P:=by
 generalize ax W _ _=w5 at *;go_wp2_with fail
 apply bW C3.aX;rintro w3⟨hs,hb⟩;have HS:=aY hs;go_wp2;go_ret;exact Ex.yes HR.aX HS.aX (U0.trans hb)):P:=h
theorem amg(h:P:=by
 rw[aaZ g1 g2];split
 .next hj =>
  have:=hU j i amh h1 (((h.ls j _ g2).1.trans hj).trans h3.symm);subst this;exact Prod.ext rfl nB.symm
 rfl):P:=h
theorem akD(h:P:=by intro V W kW hA;simp only[bZ,cC,dF,bS,Nat.reduceAdd]at hA;refine bN.h ?_;have kF:=k2.tr kW;go_wp2;go_ret;exact⟨ru,kF⟩):P:=h
theorem alH(h:P:=by simp only[dN,bZ,cC,dK,dL,bS]at hp;simp[dI,bR,aC,fk,aL,bT,eP,go_sem];exact hp.1):P:=h
theorem Lc(h:P:=by go_in;go_wp2;go_ret;exact⟨rfl,K.rf w⟩):P:=h
theorem am9(h:P:=by go_wp2;obtain⟨hP,hU,e9⟩:=jb.aX;refine aM (v:=av (oP x (F U 0 0))) (by simp[results,results77,go_sem,e9]) rfl ?_;exact⟨rfl,gI,hP,hU⟩):P:=h
theorem aax(h:P:=by go_wp2;go_ret3;exact⟨_,I0,ZO,k1⟩):P:=h
theorem aja(h:P:=by
 unfold Instr.findAsking i6;rw[h1];by_cases hk:p.1=k
 .simp_all
 have hk':¬k=p.1:=λe=>hk e.symm
 simp[Sem.run_bind,he,Result.andThen,hk,hk',ih r (i+1) h3]):P:=h
theorem ajV(h:P:=by
 have hu:=underlying155;have hg:(getObj c).run aR w=.ok (.chan 8 l.toArray az s r az) w:=by simp[getObj,Sem.run,hc]
 simp[Builtin.len_,hu,hg,go_sem]):P:=h
theorem aar(h:P:=by have h0:=Jp.st kA;exact⟨h0.1.below sC ia,h0.2.1.below sC aZ,h0.2.2⟩):P:=h
theorem ajg(h:P:=by
 have hch:(oG vk vn vs != 0)=true:=by simp[oG,hv]
 go_wp2;rw[jE];go_ret;exact⟨by rw[tZ.aX (by rw[hT.aX];simp[mX,hv])];rfl,DZ.aX _ tE⟩):P:=h
theorem S5(h:P:=by rw[BW aZ];exact h.pre j hj ZE):P:=h
theorem Oh(h:P:=by go_wp2;go_ret2;exact⟨ru,k1⟩):P:=h
theorem alx(h:P:=by
 have uz:=aY Dn;go_wp2;go_roundw
 case rel=>exact⟨j+1,aZ,dh,TD,rM⟩
 case measure=>simp[aO];omega):P:=h
theorem alu(h:P:=by
 have uz:=aY EL;go_wp2;go_roundw
 case rel=>exact⟨j+1,aZ,dh,TD,iX⟩
 case measure=>simp[aO];omega):P:=h
theorem alv(h:P:=by
 have uz:=aY Ge;go_wp2;go_roundw
 case rel=>exact⟨j+1,aZ,dh,TD,oJ⟩
 case measure=>simp[aO];omega):P:=h
theorem alw(h:P:=by
 have uz:=aY xQ;go_wp2;go_roundw
 case rel=>exact⟨j+1,aZ,dh,TD,qU⟩
 case measure=>simp[aO];omega):P:=h
theorem aku(h:P:=by simp only[dN,bZ,cC,dK,dL,bS]at hp;exact⟨rfl,amG⟩):P:=h
theorem akv(h:P:=by simp only[dN,bZ,cC,dK,dL,bS]at hp;exact⟨rfl,amH⟩):P:=h
theorem ame(h:P:=by have g1:=fu (cO a.1) (jm _);have g2:=fu a.2.1 h.2.1;have g3:=fu a.2.2 h.2.2;unfold iG;simp only[fg];omega):P:=h
theorem akT(h:P:=by rintro v2 w4⟨ho,k4⟩;exact⟨_,rfl,by obtain⟨qA,pw,e,hF⟩:=E5 ho;exact⟨qA,pw,e,hF.less λk hk=>cZ hk kW.size⟩,k4⟩):P:=h
theorem aii(h:P:=by refine⟨h.1,h.2.imp id ?_⟩;rintro ⟨g,cap,cur,h1,h2,h3,h4⟩;exact⟨g,cap,cur,h1,h2,(hb.block g (aG.1 h3).1).trans h3,h4⟩):P:=h
theorem ajj(h:P:=by
 have e3:((Z es:Int)==0)=false:=by rw[TS,PH]
 have HB:Hid (ai=110):=aY (by rw[HE.aX,PH];rfl);go_wp2;go_ret;exact⟨IQ,dt⟩):P:=h
theorem aj8(h:P:=by have HR:Hid (R=30/\ag=[]):=aY ⟨HC.aX,HF.aX⟩;go_wp2;go_ret2;exact⟨_,by rw[HR.aX.1];rfl,by rw[HR.aX.2];exact oV _ _ _ _,kk⟩):P:=h
theorem al4(h:P:=by intro w2 k2 kW;cases hx:q x;exact anm;have HE:=aY (MO.aX aab);exact Zt):P:=h
theorem aiE(h:P:=by
 have h':=h;rcases h.2 with ⟨rfl,h0⟩|⟨g,cap,cur,rfl,_,_,hn,hc,_⟩
 .grind [List.eq_nil_of_length_eq_zero,Reads.B4]
 grind [Reads.B4]):P:=h
theorem aiL(h:P:=by
 have HE:=aY (tZ.aX (by
  rw[HT.aX,bQ cN,bQ cN];simp;omega))
 go_wp2;go_ret;exact⟨ki,hb0⟩):P:=h
theorem aiT(h:P:=by obtain⟨HE,HL⟩:=UH.aX az K2;go_wp2;go_ret2;exact⟨_,ki,Sw,abe⟩):P:=h
theorem ajf(h:P:=by go_wp2;rw[jE];go_ret;exact⟨by rw[tZ.aX (by rw[hT.aX];simp[mX,hn])];rfl,DZ.aX _ ((eP _ _).alloc (bP _) _)⟩):P:=h
theorem ajD(h:P:=by
 refine aY λh x hx=>?_
 rw[iY hlt]at hx;rcases List.mem_append.1 hx with hx|hx;exact hall.aX x hx;grind):P:=h
theorem Tp(h:P:=by
 go_in;go_wp2_with fail
 apply bW C1.aX;exact ann):P:=h
theorem aiS(h:P:=by obtain⟨HE,HL⟩:=UH.aX az YP;go_wp2;go_ret2;exact⟨_,ki,Sw,hb⟩):P:=h
theorem akJ(h:P:=by
 have HO:=aY gL;go_wp2;go_roundw
 case rel=>exact⟨j+1,aZ,dh,by rw[HQ.aX];exact HO.aX,k5⟩
 case measure=>simp[aO];omega):P:=h
theorem aiN(h:P:=by intro x hx;rw[iY h]at hx;rcases List.mem_append.1 hx with hx|hx;exact ha x hx;simp at hx;rw[hx];exact hb):P:=h
theorem am8(h:P:=by simp only[dN,bZ,cC,dK,dL,bS]at hp;simp[bR,aC,hp,aL,bT,go_sem]):P:=h
theorem aCD(h:P:=by
 intro hl;have h1:=ih λt ht=>hl t bL
 obtain⟨g1,g2⟩:=hl y bu;grind [mz,azC,fg,gH]):P:=h
theorem ajh(h:P:=by
 go_wp2;go_roundw
 case rel=>exact⟨k+1,aZ,dh,dh,hr,DZ.aX _ (below_drewN tE _)⟩
 case measure=>simp[aO];omega):P:=h
theorem ajo(h:P:=by
 go_in;go_wp2_with fail
 apply bW hch.aX;intro w1 cK;go_wp2;go_ret2;exact⟨_,rfl,YL,cK⟩):P:=h
theorem aje(h:P:=by clear hR;generalize Z l=n at *;go_in;go_wp2;go_step3;go_wp2;rw[jE];go_ret;exact⟨ki,eP _ _⟩):P:=h
theorem al5(h:P:=by
 have gW:¬(k:Int)<Z l:=aZ;have HE:=aY (by
  have:=hall.aX;rw[jq aZ]at this;exact this)
 exact Oj):P:=h
theorem SN(h:P:=by rw[bQ aZ];exact⟨rfl,eP _ _⟩):P:=h
theorem YM(h:P:=by have:=hcell 0 bG;rw[kr.cell aZ];simpa [eB]using this):P:=h
theorem ajR(h:P:=by have z3:=TK e3;have HQ:Hid (ku m=130):=aY (by unfold ku;rw[show fT m=az from by simp[fT,uZ,e3]];rfl);exact Oe):P:=h
theorem ajS(h:P:=by have z4:=TK e4;have HQ:Hid (ku m=130):=aY (by unfold ku;rw[show fT m=az from by simp[fT,uZ,e4]];rfl);exact Oe):P:=h
theorem amp(h:P:=by simp[dI,bR,aC,hp,fk,aL,bT,bS,q2,Wb,xV,go_sem];refine (C3.aX W kW).mono ?_;rintro e w4⟨rfl,k4⟩;grind):P:=h
theorem ain(h:P:=by refine⟨rfl,?_,?_⟩;exact aCB;exact BN (BN (BN (rm hgr hw.2) bu _) bu _) bu _):P:=h
theorem ai9(h:P:=by simp[Builtin.delete_,hts,run_underlying hT,MapKept.run_getObj_map h1,KG.oG,hf,MapKept.run_setObj_map _ h1,Result.andThen,setBlock]):P:=h
theorem alq(h:P:=by
 go_wp2;go_roundw
 case rel=>exact⟨j+1,aZ,dh,by rw[<- jJ.aX,HP.aX];exact gL,oJ⟩
 case measure=>simp[aO];omega):P:=h
theorem aji(h:P:=by have HE:Hid (ai=110):=aY (by rw[<- Aj];exact ID (by simp[dE];omega));exact YI):P:=h
theorem akC(h:P:=by rintro v3 w3⟨hO,k3⟩;have HW:=aY (cW.low (cW.floor hO dt.size) dt.size);replace dt:=dt.tr k3;go_wp2;exact anl):P:=h
theorem alA(h:P:=by simp[dI,bR,aC,hp,fk,aL,bT,bS,q2,Dd,go_sem];refine (C4.aX W kW).mono ?_;rintro e w4⟨rfl,k4⟩;grind):P:=h
theorem aiU(h:P:=by obtain⟨HE,HL⟩:=UH.aX aA K2;go_wp2;go_ret2;exact⟨_,ki,by rw[HL.aX];exact TR,abe⟩):P:=h
theorem akg(h:P:=by
 unfold DP jG;split
 .rename_i h;simp only[fI,decide_eq_true_eq]at h;rw[E1,Be];omega
 simp):P:=h
theorem ajL(h:P:=by
 go_wp2;go_roundw
 case rel=>exact⟨j+1,aZ,dh,aY ⟨_,_,_,HS9.aX⟩,k9⟩
 case measure=>simp[aO];omega):P:=h
theorem akY(h:P:=by refine (C5.aX W kW).mono ?_;rintro e w4⟨v4,rfl,hO,k4⟩;exact alY):P:=h
theorem amB(h:P:=by
 rw[hu]at HR C2;go_in;go_wp2_with fail
 apply bW C1.aX;rintro w' rfl;go_wp2_with fail
 apply bW C2.aX;exact ann):P:=h
theorem aiJ(h:P:=by rw[ih aZ];simp only;rw[hd,yp,gA,C.fwd _ hx,iY hk']):P:=h
theorem aim(h:P:=by
 go_wp2;all_goals
  go_ret
  refine⟨rfl,DZ _ _ _ aZ (λhpos=>?_) aZ aZ⟩
  first|rfl|omega):P:=h
theorem Ta(h:P:=by go_wp2;go_ret;exact⟨I0,kG⟩):P:=h
theorem aau(h:P:=by clear HO HJ iu HQ;go_wp2;go_ret;exact⟨_,rfl,HL.aX,F3,uj⟩):P:=h
theorem amM(h:P:=by go_wp2;go_ret2;exact⟨_,_,jB,by rw[HR.aX];exact λ_ _=>iJ _ _,by rw[HR.aX];exact HF.aX.m⟩):P:=h
theorem am7(h:P:=by obtain⟨A1,c1,rfl⟩:=bH h1;obtain⟨A2,c2,rfl⟩:=bH h2;rw[hg];go_in;go_wp2;go_ret;exact⟨rfl,kk⟩):P:=h
theorem aiw(h:P:=by have hn:Hid (vQ s=az):=aY (by simp[vQ];omega);go_in;go_wp2;go_ret;exact⟨by rw[hn.aX];rfl,rfl⟩):P:=h
theorem ZI(h:P:=by go_wp2;go_ret;exact⟨_,rfl,by rw[pA.aX];exact HO.aX,kF⟩):P:=h
theorem OI(h:P:=by go_wp2;go_ret;exact⟨rfl,HF.aX⟩):P:=h
theorem aav(h:P:=by
 go_wp2;go_meet
 case rel=>exact⟨_,_,_,_,_,_,_,_,_,_,aS,HD⟩):P:=h
theorem Tt(h:P:=by simp[bR,aC,aL,bT,go_sem]):P:=h
theorem akh(h:P:=by
 rw[HF.aX];split
 .rename_i ho;have:=afu rs;rw[af5 ho]at this;simp only;omega
 simp):P:=h
theorem Tu(h:P:=by exact absurd (h.blk.jK hb) bG):P:=h
theorem aiK(h:P:=by rw[List.flatMap_append,yp,List.flatMap_nil,List.append_nil,gA,<- e1];exact e2):P:=h
theorem alS(h:P:=by intro v9 w9 cX dW gD cV;have api:=uz.push cX dW BS;exact ank):P:=h
theorem SA(h:P:=by go_wp2;go_ret;exact⟨by rw[hR];rfl,k1⟩):P:=h
theorem YX(h:P:=by simp at e;obtain⟨rfl,rfl⟩:=e;exact⟨_,_,rfl,h1,h2⟩):P:=h
theorem akr(h:P:=by rcases hx with hx|hx|hx;omega;have:=(Bk.aX.blk k hx).1;have:=HZ1.aX;right;omega;exact aI hx):P:=h
theorem ami(h:P:=by split;exact⟨⟨List.prefix_refl _,List.prefix_refl _,rfl⟩,⟨h.ab,h.bF⟩⟩;grind [ix.rf]):P:=h
theorem aj3(h:P:=by
 have:=kj hown' (bf.dx (X:=λk=>k=B0) rfl 0 v') λb hb e=>Pg (by rw[hb,e])
 simpa using this):P:=h
theorem akK(h:P:=by rw[jq aZ]at hO;have HO:=aY hO;exact Zq):P:=h
theorem alI(h:P:=by exact hr.less λk hk=>by rcases hk with hk|hk;exact hk;have:=Ur k hk;exact aJ aZ):P:=h
theorem SX(h:P:=by exact absurd (h1.jK hx2) bG):P:=h
theorem alJ(h:P:=by rcases I9 with e|e;exact aI (aJ (e▸h));rw[e]at h;injection h with h;simp at hk;omega):P:=h
theorem ai1(h:P:=by
 refine aY λh j hj hjk=>?_
 by_cases e:j=k;subst e;exact h;exact hall.aX j hj aZ):P:=h
theorem aj2(h:P:=by obtain⟨cur,hb⟩:=pH Ll ej;unfold bn at hb;rw[hb]at hj;injection hj with hj;rw[<- hj];rfl):P:=h
theorem Zm(h:P:=by exact⟨_,_,rfl,rfl,rfl,λV W _ _=>ayf _ _ _⟩):P:=h
theorem ajb(h:P:=by
 cases bC with
 | nil=>simp[Instr.findKey,run_underlying hu,Instr.findNow,i6]
 | cons p r=>simp at h):P:=h
theorem ajp(h:P:=by
 go_wp2;go_roundw
 case rel=>exact⟨k+1,aZ,dh,iA,PC⟩
 case measure=>simp[aO];omega):P:=h
theorem SV(h:P:=by go_ret;exact⟨by rw[kN.aX];rfl,k1⟩):P:=h
theorem aaf(h:P:=by go_wp2;go_ret;exact⟨_,rfl,HS.aX,k1.tr (k2.tr k3)⟩):P:=h
theorem amC(h:P:=by simp[dI,aL,bT,fk];exact⟨⟨_,rfl,kW.size,0,0,heap_alloc_new W _⟩,(K.rf W).al _⟩):P:=h
theorem aih(h:P:=by refine⟨h.1,h.2.imp id ?_⟩;rintro ⟨g,cap,cur,h1,h2,h3⟩;exact⟨g,cap,cur,h1,aZ,h3⟩):P:=h
theorem Yy(h:P:=by simp at hu;rcases hu with rfl|rfl|rfl|rfl|rfl <;> rfl):P:=h
theorem ZB(h:P:=by exact⟨by rw[Vs.aX],by rw[Vs.aX];exact HF.aX⟩):P:=h
theorem Sv(h:P:=by go_ret;exact⟨ki,hb⟩):P:=h
theorem ale(h:P:=by have:=hall.aX l[j] (List.mem_take_iff_getElem.2 ⟨j,aZ,rfl⟩);rw[h1]at this;cases this):P:=h
theorem amj(h:P:=by have:=h.cA;have:=h.calls;exact⟨h1,h.fit.same h2.1 ⟨h2.2.1,h2.2.2.1⟩,bL,aZ⟩):P:=h
theorem aiC(h:P:=by rintro v w w'⟨A,c,rfl,hr⟩ hb;exact⟨A,c,rfl,(hr.below hb (bP _)).more hb.size⟩):P:=h
theorem aiO(h:P:=by go_wp2;go_ret2;exact⟨_,ki,Sw,fY⟩):P:=h
theorem YJ(h:P:=by go_wp2;go_ret;exact⟨IQ,dt.tr k3⟩):P:=h
theorem ZM(h:P:=by have gW:¬(k:Int)<Z l:=aZ;exact alr):P:=h
theorem amk(h:P:=by
 cases l with
 | nil=>exact aI rfl
 | cons x l=>exact aJ ⟨aw x.1,bu,bu⟩):P:=h
theorem SY(h:P:=by go_wp2;go_ret;exact⟨_,rfl,hO,kr⟩):P:=h
theorem aij(h:P:=by exact⟨v',w',hrun,h2,h3,h5,(eP _ _).grown h3 hbase λk hk=>(hown.lt k hk).1⟩):P:=h
theorem Yq(h:P:=by simp[Act.put,Array.getElem?_setIfInBounds_ne hne]):P:=h
theorem Zl(h:P:=by exact⟨⟨kW.size,fP.new W⟩,(K.rf W).al _⟩):P:=h
theorem alN(h:P:=by rcases QH k hk with h|h;exact Kk.aX k h;have:=VJ.aX.size;exact aJ aZ):P:=h
theorem al9(h:P:=by rcases List.mem_append.1 hg with hg|hg;exact VQ g hg;simp at hg;subst hg;exact FI):P:=h
theorem amT(h:P:=by gi_wp2;exact⟨⟨HF.aX.1 _ (aI hz2.symm),HF.aX.1 _ (aJ aZ)⟩,HF.aX.2⟩):P:=h
theorem Zi(h:P:=by clear cX dW gD cV q5 HI hr kW;exact akp):P:=h
theorem Tk(h:P:=by exact ho s (List.mem_filter.1 hs).1):P:=h
theorem aj1(h:P:=by rcases hown'.2 with ⟨-,h0⟩|⟨g',cap',cur',e,-⟩;omega;exact⟨g',cap',e⟩):P:=h
theorem ak3(h:P:=by intro v9 w9 cX dW _ cV;rw[<- qh.aX]at cX;have kL:=eA.trans cV;exact ZT):P:=h
theorem alp(h:P:=by go_wp2;go_end0;exact⟨rfl,_,HB.aX,by rw[<- Vx.aX];exact Kf.aX,wI.aX,HU.aX⟩):P:=h
theorem aao(h:P:=by exact⟨this.1,this.2.up u λk e=>e▸hM⟩):P:=h
theorem akq(h:P:=by intro b hb;obtain⟨r,hr,rfl⟩:=List.mem_map.1 hb;exact XZ (hG.ie r hr).2.2):P:=h
theorem Tv(h:P:=by exact⟨rfl,bf.rf _ _,gm,bC,h⟩):P:=h
theorem ai0(h:P:=by obtain⟨vf,ve,rfl,h1,h2⟩:=h;exact⟨vf,ve,rfl,fO _ _ _ _ h1 k,cM h2 k⟩):P:=h
theorem YI(h:P:=by go_wp2;go_ret;exact⟨ki,dt⟩):P:=h
theorem Y2(h:P:=by go_wp2;go_ret;exact⟨jB,xO⟩):P:=h
theorem Z6(h:P:=by intro w2 k2 kF;go_wp2;go_ret;exact⟨rfl,kF⟩):P:=h
theorem akV(h:P:=by rw[xh aZ]at hL;rw[BW aZ,xh aZ];exact h.al hL):P:=h
theorem Zt(h:P:=by go_wp2;go_ret;exact⟨ki,kW⟩):P:=h
theorem amW(h:P:=by have hE:=aY (HF.aX _ _ _ hQ aZ);go_wp2;go_ret;exact⟨rfl,hE.aX⟩):P:=h
theorem alO(h:P:=by rcases QH k h with h|h;exact Dp.aX k hk h;have:=(HBL.aX k hk).2;omega):P:=h
theorem aaR(h:P:=by go_wp2;go_ret;exact⟨ki,k⟩):P:=h
theorem ajz(h:P:=by split;unfold gU;split;exact hl;exact hl.erase _;exact hl):P:=h
theorem alZ(h:P:=by split at h;exact aI h;split at h;exact aI h;exact al0):P:=h
theorem aj4(h:P:=by obtain⟨cur,hb⟩:=pH hrow h2;unfold bn at hb;rw[e,hK]at hb;cases hb):P:=h
theorem ajO(h:P:=by rcases hk with ⟨g,_⟩|⟨_,g,_⟩|⟨g,_⟩;omega;exact g;omega):P:=h
theorem Zb(h:P:=by go_in;go_wp2;go_ret;exact⟨bu,rfl⟩):P:=h
theorem Ze(h:P:=by exact absurd (h1.jK h.blk) bG):P:=h
theorem amY(h:P:=by replace C:=aY C;generalize FA b=n at *;have hw:=hw.aX;exact amX):P:=h
theorem ajw(h:P:=by obtain⟨_,_,he,h1,_⟩:=abo.aX _ (UX.tr u);simp at he;rw[he.1];exact h1):P:=h
theorem ajx(h:P:=by obtain⟨_,_,he,_,h1⟩:=abo.aX _ (UX.tr u);simp at he;rw[he.2];exact h1):P:=h
theorem ajJ(h:P:=by go_wp2;go_ret;exact⟨ru,by rw[HQ.aX];exact HS.aX,rG⟩):P:=h
theorem alg(h:P:=by exact ((fY.setCell bu _).setCell bu _).setCell bu _):P:=h
theorem ZZ(h:P:=by exact⟨rfl,by rw[HF.aX];exact HN.aX⟩):P:=h
theorem ajW(h:P:=by have HR:=aY (no.aX λh=>by have:=rr h;omega);exact BV):P:=h
theorem ane(h:P:=by simp[dI,bR,aC,e,fk,aL,bT,bS,eP,go_sem]):P:=h
theorem Zf(h:P:=by go_wp2;go_ret;exact⟨_,rfl,HO.aX,k2⟩):P:=h
theorem Zq(h:P:=by go_wp2;go_ret;exact⟨_,rfl,HO.aX,kr⟩):P:=h
theorem Zy(h:P:=by go_wp2;go_ret;exact⟨_,rfl,HF.aX,kF⟩):P:=h
theorem akX(h:P:=by go_wp2;go_ret;exact⟨by rw[HRF.aX];rfl,by rw[HRF.aX];exact HF.aX⟩):P:=h
theorem al3(h:P:=by intro w2 k2 kF;go_wp2;go_ret;exact⟨by rw[HR.aX];first|done|rfl,kF⟩):P:=h
theorem aal(h:P:=by go_wp2;go_ret;exact⟨_,rfl,HS.aX,kr⟩):P:=h
theorem amv(h:P:=by go_wp2;go_ret;exact⟨by rw[HQ2.aX];rfl,by rw[HQ2.aX];exact HN.aX⟩):P:=h
theorem amq(h:P:=by
 refine bN.e ?_;go_wp2_with fail
 go_meet
 case rel=>exact⟨rfl,kW⟩):P:=h
theorem amy(h:P:=by have HR:=aY (show R=aA by rw[HI.aX];simp[h0,h1]);exact OG):P:=h
theorem am1(h:P:=by
 split
 .next e0=>subst e0;rw[Lo hy,hyn]at ha;exact ha
 exact ha):P:=h
theorem ajA(h:P:=by simp at hu;rcases hu with rfl|rfl|rfl|rfl|rfl|rfl|rfl|rfl|rfl <;> rfl):P:=h
theorem ajG(h:P:=by have:=congrArg (List.drop 1) h.post;simpa [List.drop_drop]using this):P:=h
theorem ajX(h:P:=by have HR:Hid (R=az):=aY (by rw[HC.aX];simp[h0]);exact BV):P:=h
theorem ajY(h:P:=by
 go_wp2;try rw[jE]
 go_ret;exact⟨jB,k1⟩):P:=h
theorem ams(h:P:=by go_wp2;go_ret;exact⟨jB,by rw[HR.aX];exact HN.aX⟩):P:=h
theorem amQ(h:P:=by exact⟨v,_,rfl,aI ⟨rfl,by grind [nH],h.T1 hv h2 u⟩⟩):P:=h
theorem ajq(h:P:=by have h4:=List.all_eq_true.1 h1.2 y (by simpa using hy);exact aiz):P:=h
theorem amb(h:P:=by have:=Nat.mul_le_mul_right S.size (show j+1<=Z l from hj);grind):P:=h
theorem amz(h:P:=by have HR:=aY (show R=az by rw[HI.aX];simp[h1]);exact OG):P:=h
theorem amA(h:P:=by have HR:=aY (show R=az by rw[HI.aX];simp[h0]);exact OG):P:=h
theorem amI(h:P:=by
 go_in;go_wp2_with fail
 apply bW C1.aX;rintro w' rfl;exact OG):P:=h
theorem am2(h:P:=by
 go_wp2_with (go_quiet (fail))
 go_ret;exact⟨rfl,below_drewN k9 _⟩):P:=h
theorem ajk(h:P:=by have HR:Hid (R=az):=aY (by rw[HO.aX,he];rfl);exact SF):P:=h
theorem alK(h:P:=by exact cZ (LA.aX.low k (aI (aI h))) AB.size):P:=h
theorem als(h:P:=by intro v9 w9 cX dW gD cV;have zq:=sQ.trans cV;exact ZQ):P:=h
theorem aiu(h:P:=by have:=World.block_lt_of_cell? w _ Cx;simpa [Addr.add]using this):P:=h
theorem aiZ(h:P:=by simp at hu;rcases hu with rfl|rfl|rfl|rfl|rfl|rfl|rfl|rfl <;> rfl):P:=h
theorem aky(h:P:=by have HW:=aY (cW.low (cW.floor hO pr) pr);exact K7):P:=h
theorem akQ(h:P:=by go_wp2;go_ret2;exact⟨_,rfl,by rw[<- hlo.aX];exact HO.aX,kF⟩):P:=h
theorem amd(h:P:=by
 clear hr;go_wp2_with fail
 go_meet
 case rel=>exact⟨e.aX,rfl⟩):P:=h
theorem aiV(h:P:=by obtain⟨bw,h1,h2,h3⟩:=h;exact⟨bw,pF hb h1,h2,h3⟩):P:=h
theorem ajl(h:P:=by have HR:Hid (R=m):=aY (by rw[HO.aX,he];rfl);exact SF):P:=h
theorem ake(h:P:=by go_ret;exact⟨_,jB,by rw[HR.aX];exact hV,hU⟩):P:=h
theorem amV(h:P:=by exact⟨KX _ _ _,KY hf (by simp at h0|-;omega)⟩):P:=h
theorem aiQ(h:P:=by rw[HF.aX];unfold lV;simpa [List.flatMap_append]using mw):P:=h
theorem alm(h:P:=by simp only[binOp,Sem.run_bind,h,Result.andThen_ok,Sem.run_pure]):P:=h
theorem ajM(h:P:=by exact⟨_,_,_,rfl,H9.aX.1.less λk h=>aZ,H9.aX.2⟩):P:=h
theorem ai3(h:P:=by exact⟨ve,vf,rfl,mq _ _ _ _ h1 k,fO _ _ _ _ h2 k⟩):P:=h
theorem alY(h:P:=by exact⟨_,rfl,cW.low (cW.floor hO kW.size) kW.size,k4⟩):P:=h
theorem aiv(h:P:=by rw[iY h,List.all_append];simp):P:=h
theorem ajQ(h:P:=by go_in;go_wp2;go_ret;exact⟨by rw[HR.aX];simp[h0,h1],k1⟩):P:=h
theorem ajN(h:P:=by rw[iY h,List.map_append];rfl):P:=h
theorem aik(h:P:=by have:=(aF.1 hu).1;simpa using this):P:=h
theorem ak5(h:P:=by have kk:=K.rf w;go_in;go_wp2;go_ret;exact⟨bu,kk⟩):P:=h
theorem alP(h:P:=by rcases hk with h|h;exact aI (aI h);exact aJ h):P:=h
theorem amf(h:P:=by rintro e w4⟨v4,rfl,hO,k4⟩;exact⟨_,rfl,hO.now,k4⟩):P:=h
end Go.Proofs.YtcjlnlcpodcldaaGreat
