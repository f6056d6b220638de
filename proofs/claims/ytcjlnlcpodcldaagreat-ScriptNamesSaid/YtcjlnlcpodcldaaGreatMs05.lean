/-
  The walk of the closure of broker's Tick: a message is laid behind the others (layer 20). Conditions: numbers that fit.
-/
import Derived.Test.YtcjlnlcpodcldaaGreatMs04
import Derived.Test.YtcjlnlcpodcldaaGreatMsz
set_option maxRecDepth 100000
set_option maxHeartbeats 16000000
set_option linter.all false
namespace Go.Proofs.YtcjlnlcpodcldaaGreat
open Go Go.RowKit _root_.Go.Proofs.Tryz
open List renaming length→Q
open _root_.Array renaming size→Z
open Go.World renaming heap→D,alloc→aU,setCell→aV
open Go.Value renaming ownBlock→aW
open Go.Value renaming int→G,slice→F,pointer→aj,bool→ar,tuple→au,agg→av,string→aw
open Go.IntKind renaming i64→J,u64→E
open Option renaming none→U,some→I
open Go.Ending renaming returned→ak
open Go.Obj renaming cells→aq
open Go.World renaming setCell→ax,alloc→ay
open Bool renaming false→az,true→aA
open And renaming intro→aB
open List renaming lookup→aC,getElem?_eq_getElem→aE,getElem?_eq_some_iff→aF
open _root_.Array renaming getElem?_toList→aD,getElem?_eq_some_iff→aG
open Nat renaming le_succ→aH
open Or renaming inl→aI,inr→aJ
open Go renaming Calls→aK,execOp→aL,bodyPost_ret→aM,World→aP,Value→aQ
open Go.RowKit renaming Below→aN,intOf→aO
def Dt:fE (Int×List UInt8) where
 size:=2
 rel x cs w:=∃v,cs=[G J x.1,v]/\sl x.2 v w
 len:=by rintro _ _ _⟨v,rfl,_⟩;rfl
 one:=by rintro x _ _⟨v,rfl,A,c,rfl,_⟩ u j;simp at j;rcases j with rfl|rfl <;> rfl
 st:=by rintro _ _ _ _⟨v,rfl,h⟩ k;exact⟨v,rfl,pQ _ _ _ _ h k⟩
theorem aBx:(prog.info? 193).map (λi=>(i.zero,i.size,i.bytes))=I (I (av #[G J 0,F U 0 0]),2,32):=by rfl
theorem aEK:ir prog 190 193 (av #[G J 0,F U 0 0]) 2 32:=⟨underlying190,aBx,rfl,bC⟩
def xc(j:Int)(m:gM):List (Int×List UInt8):=if fI m then [(j,iZ m)]else []
theorem afq{base gb outs o w} j m C(hb:bn w gb 190 #[o])(Y:bK (λk=>k<base) base 193 Dt outs o w)(hm:nG m C w)(hfit:pW m)(hgb:gb<base)(hz:base<=Z (D w))(hn:Q outs<=1000) :
 aK prog 159 #[G J j,C,aj (I ⟨gb,0,U⟩)] w λe w'=>e=ak (au #[])/\∃o',bn w' gb 190 #[o']/\bK (λk=>k<base) base 193 Dt (outs++xc j m) o' w'/\bf (λk=>k=gb∨aW o=I k) w w'/\∀k,aW o'=I k->aW o=I k∨Z (D w)<=k:=by
 have HR:Hid (xc j m=if fI m then [(j,iZ m)]else []):=aY rfl
 have HC:Hid (jY m=if fI m then 0 else 130):=aY rfl
 have HM:Hid (Oi m=if fI m then iZ m else []):=aY rfl
 have C1:=aY λW (k:K w W)=>asm m C W (aav hm k) hfit
 obtain⟨v1,v2,v3,v4,v5,v6,rfl,h1,h2,h3,h4,h5,h6⟩:=hm
 obtain⟨A1,c1,rfl⟩:=bD h1
 obtain⟨A2,c2,rfl⟩:=bD h2
 obtain⟨A3,c3,rfl⟩:=bD h3
 obtain⟨A4,c4,rfl⟩:=bD h4
 obtain⟨A5,c5,rfl⟩:=bD h5
 obtain⟨A6,c6,rfl⟩:=bD h6
 have t:=bn.new w 239 (mK m (F A1 (Q m.dU) c1) (F A2 (Q m.asks) c2) (F A3 (Q m.entries) c3) (F A4 (Q m.gu) c4) (F A5 (Q m.fA) c5) (F A6 (Q m.ends) c6))
 have k1:=t.cC
 obtain⟨y,z,rfl⟩:=Y.slice
 generalize xc j m=SM at *
 generalize jY m=CK at *
 generalize Oi m=EM at *
 go_in
 go_upto_region 1 with fail
 generalize w.alloc _=w1 at *
 have:=t.cell
 have C2:=aY (C1.aX w1 k1)
 go_wp2_with fail
 refine C2.aX.mono ?_
 rintro e w2⟨v7,rfl,R,k2⟩
 have A:=k1.tr k2
 have eE:=Y.st A
 have hb2:=hb.bF A
 have:=k1.size
 have:=A.size
 have dt:=Y.blk
 cases hk:fI m
 ·obtain rfl:CK=130:=by rw[HC.aX,hk];rfl
  have V:Hid (SM=[]):=aY (by rw[HR.aX,hk];rfl);go_wp2;go_end0;exact⟨rfl,_,hb2,by rw[V.aX,List.append_nil];exact eE,bf.bS A _,λ_ h=>aI h⟩
 obtain rfl:CK=0:=by rw[HC.aX,hk];rfl
 obtain rfl:EM=iZ m:=by rw[HM.aX,hk];rfl
 have V:Hid (SM=[(j,iZ m)]):=aY (by rw[HR.aX,hk];rfl)
 have:=hb2.cell
 have ox:Fx (λk=>k<base∨aW (F y (Q outs) z)=I k) (λW=>Dt.rel (j,iZ m) (av #[G J j,v7]).cells.toList W) w2:=λW u=>⟨v7,rfl,gD (ke R u λk hk t=>by
  have:=(R.lt k hk).1;rcases t with t|t
  ·omega
  ·have:=(dt k t).2;omega)⟩
 obtain⟨L,c7,rfl,-⟩:=gD R
 have hr:=fL.new (S:=Dt) (e:=193) (v:=av #[G J j,F L (Q (iZ m)) c7]) ox 0 (eO _)
 have T:=K.new w2 (aq #[G J j,F L (Q (iZ m)) c7] 193)
 have dH:=eE.st T
 have dy:=hb2.bF T
 have sy:=A.tr T
 have mf:=sy.size
 go_wp2_with (at_builtin;refine kI rfl _ _ 190 rfl _ 2 32 aEK rfl rfl dH _ rfl (j,iZ m) ?p1 ?p2 ?p3 ?_)
 case p1=>exact hr
 case p2=>omega
 case p3=>exact cI hz mf
 intro v9 w9 H dF fO cN
 have u9:bf (λk=>k=gb∨aW (F y (Q outs) z)=I k) (aU w2 (aq #[G J j,F L (Q (iZ m)) c7] 193)) w9:=bf.gy dF λk hk=>aJ hk
 have hat:∀k,aW v9=I k->aW (F y (Q outs) z)=I k∨Z (D w)<=k:=λk hk=>by
  rcases fO with e|e
  ·exact aI (e▸hk)
  ·rw[e]at hk;injection hk with hk;exact aJ aZ
 have s7:=aY hat
 have:=λk hk=>(H.blk k hk).1
 have B:=dy.cA (bf.gy (X:=λk=>aW (F y (Q outs) z)=I k) dF λk hk=>hk) λhk=>by have:=(dt gb hk).1;omega
 obtain⟨N,M,rfl⟩:=H.slice
 generalize Q (outs++[(j,iZ m)])=O at *
 have:=B.cell
 have:=B.frozen
 have hbF:=B.cz 0 (F N O M)
 have uF:=((bf.bS sy (λk=>k=gb∨aW (F y (Q outs) z)=I k)).tr u9).tr (bf.dc (X:=λk=>k=gb∨aW (F y (Q outs) z)=I k) (aI rfl) 0 (F N O M))
 have hOF:=aY (H.up (Y':=λk=>k=gb) (bf.dc (X:=λk=>k=gb) rfl 0 (F N O M)) (λk e=>by subst e;exact hgb) λk e=>by subst e;exact hgb)
 have UF:=aY uF
 have BF:=aY hbF
 go_wp2
 go_end0
 exact⟨rfl,_,BF.aX,by rw[V.aX];exact hOF.aX,UF.aX,s7.aX⟩
structure anz(B B':cJ):Prop where
 me:B'.me=B.me
 par:B'.par=B.par
 bj:B'.bj=B.bj
 calls:B'.calls=B.calls
 dq:B'.dq=B.dq
 refused:B'.refused=B.refused
 told:B'.told=B.told
 life:B'.st.life=B.st.life
theorem pr.w{B B'}(h:pr B B'):anz B B':=⟨h.me,h.par,h.bj,h.calls,h.dq,h.refused,h.told,h.life⟩
theorem MQ{B}(z:cX B):anz B (iX B):=by
 have A:=z.open';unfold iX;split
 ·have y:=J1 z λx t=>(A.2.1 x t).2
  have C:=MO (kids:=fg B) (p:=(Bg B,[])) y.1 λx t=>(A.1 x t).2
  have j:=y.2.tr C.2.1;exact⟨j.me,j.par,j.bj,j.calls,j.dq,j.refused,j.told,j.life⟩
 ·exact (pr.rf B).w
def vI(B:cJ):List (Int×List UInt8):=if pn B then []else xc (yh B) (CI B)
def vJ(B:cJ)(l:List Int):List (Int×List UInt8):=l.flatMap λk=>xc k (wN B k)
def xd(B:cJ):List (Int×List UInt8):=vI B++vJ B (rR B)
theorem agP k m:Q (xc k m)<=1:=by grind [xc]
theorem Xu B:∀l:List Int,Q (vJ B l)<=Q l
 | []=>by simp[vJ]
 | k :: l=>by have:=agP k (wN B k);have:=Xu B l;simp only[vJ,xV,eU,fY]at *;omega
theorem agQ B:Q (vI B)<=1:=by grind [vI,agP]
theorem aBy{B}{m:Nat}(t:B.me=(m:Int))(j:m<Q B.par):yh B=B.par[m]:=by
 grind [yh]
theorem auW{M p B w}(h:cS M p B w)(hG:cX B)(hF:mT B)(iO:Q B.told<=800000) :
 aK prog 103 #[aj (I ⟨p.g,0,U⟩)] w λe w'=>∃v' p',e=ak v'/\cS (λk=>M k∨cO p' k) p' (iX B) w'/\bf (cO p) w w'/\p'.key=p.key/\(∀k,cO p' k->cO p k∨Z (D w)<=k)/\Fx (λk=>M k∨cO p' k) (λW=>bw Dt (xd (iX B)) v' W) w':=by
 have C1:=aY (afj h hG)
 have hS:=MQ hG
 have z:=MP hG
 have Qj:=Rx hG hF
 have htW:Q (iX B).told<=800000:=by rw[hS.told];exact iO
 generalize iX B=t at *
 obtain⟨g,hg⟩:∃g,g=p.g:=⟨_,rfl⟩
 rw[<- hg]at C1⊢
 have HG:=aY hg
 clear h hG hF iO hS hg
 go_in
 go_wp2_with fail
 refine C1.aX.mono ?_
 rintro e L⟨rfl,hN⟩
 obtain⟨p',rH,S,jJ,yP⟩:=hN
 have fS:=bn.new L 190 #[F U 0 0]
 have kA:=fS.cC
 have IH:Z (D (aU L (aq #[F U 0 0] 190)))=Z (D L)+1:=bq
 have DU:cS (λk=>(M k∨cO p' k)∨k=Z (D L)) p' t (aU L (aq #[F U 0 0] 190)) :=
  rH.far (X:=λ_=>False) (bf.bS kA _) (λ_ h=>h.elim) (λ_ h=>h.elim) (λk hk H=>H.resolve_right aZ) (λk hk=>aI (aJ hk)) λk hk=>by
   rcases hk with hk|hk
   ·have:=rH.low k hk;omega
   ·omega
 have Vr:=aY kA
 have O:=rH.low
 have u1s:=S.size
 clear C1 rH
 go_upto_region 5 with fail
 generalize L.alloc _=w2 at *
 generalize Ug:Z (D L)=gb at *
 have mW:=(DY jJ).trans HG.aX.symm
 obtain⟨base,hbase⟩:∃base,base=Z (D w2):=⟨_,rfl⟩
 have hgb:gb<base:=aZ
 have VQ:Hid (∀W,bf (λk=>k=gb∨base<=k) w2 W->cS (λk=>(M k∨cO p' k)∨k=gb) p' t W):=aY λW u =>
  have u':bf (λk=>k=gb) w2 W:=⟨u.os,u.tape,u.output,u.size,λk h1 h2=>u.block k h1 λh=>h.elim h2 λh=>aZ⟩
  DU.far u' (λk hk=>aJ hk) (λk hk H=>by have:=O k (aJ H);omega) (λ_ _ h=>h) (λk hk=>aI (aJ hk)) λk hk=>cQ (DU.low k hk) u.size
 have HV2:=aY DU
 have HX:=aY (aB S (aB jJ (aB yP (aB O Ug))))
 clear DU S jJ yP O Ug
 go_wp2_with fail
 have CR:=aY (Q6 HV2.aX)
 rw[mW]at CR
 refine CR.aX.mono ?_
 rintro e R⟨rfl,k3⟩
 have u3:bf (λk=>k=gb∨base<=k) w2 R:=bf.bS k3 _
 have K0:=fS.bF k3
 have Eb:=aY u3
 have jK:=bK.nil (λk=>k<base) base 193 Dt R
 have mf:=k3.size
 clear CR fS
 go_upto_if 14 with fail
 go_cut [13,14]from 15 to 48 (fun _ _ W=>∃o,bn W gb 190 #[o]/\bK (fun k=>k<base) base 193 Dt (vI t) o W/\bf (fun k=>k=gb∨base<=k) w2 W)
 case first =>
  have HR:Hid (vI t=if pn t then []else xc (yh t) (CI t)):=aY rfl;generalize vI t=OU at *;cases hr:pn t
  ·have HO:Hid (OU=xc (yh t) (CI t)):=aY (by rw[HR.aX,hr];rfl);clear hr HR;have C:=VQ.aX R u3;have q:=C.q;have ko:=z.dk.len;have hrl:=z.ie;have BS:=z.me;have hpl:=(ud z.tr).2;have sW:Q (fg t)<=16:=by unfold fg;rw[List.length_map];exact cI (J6 _ _) (ud z.tr).2
   simp only[iJ,fB,decide_eq_true_eq]at BS;obtain⟨mn,zx⟩:=Int.eq_ofNat_of_zero_le BS.1;have Qk:mn<Q t.par:=aZ;have VR:=aY (aBy zx Qk);have CL:=aY λW (k:K R W)=>WS (C.st k) z
   have CA:=aY λW (k:K R W)=>afi (C.st k) z
   have HD:=aY λW (k:K R W)=>C.df.at k
   have OS:=C.df.now.par;have hs1:=bD C.df.now.list;have gH:=bD C.df.now.prom;have iI:=bD C.df.now.ie;have HV3:=aY C;rw[mW]at q CL CA;obtain⟨g',gl,gd,gr,gt,vd,vr,vp,vh,vl,vq,va,vt,vf,vw,kr⟩:=p';simp only at q HD OS hs1 gH iI;simp only[Jg,zx]at q;obtain⟨Al,cl,rfl⟩:=hs1;obtain⟨Aq,cq,rfl⟩:=gH;obtain⟨Af,cf,rfl⟩:=iI;obtain⟨Ap,cp,rfl,Uh,-⟩:=OS;obtain⟨bp,op,rfl,hcell⟩:=ints_at Uh aZ;have qp:=λW (k:K R W)=>hcell W k mn Qk
   have wI:(mn:Int)<Q t.par:=aZ;have hw:=ank (Q t.st.list) aZ;clear C hcell Uh BS zx u3;go_wp2_with fail
   have qs:=aB q (aB qp (aB wI hw));refine eQ 33 ?_;iterate 28 refine bA.i ?_
   refine bA.op (λv W=>bw Aj (fg t) v W) (λ_ _ _ h k=>cH h k) (λV W kW hp=>?_) ?_
   ·(try simp only[dE,bU,bZ,dA,dB,bM]at hp)
    simp[dC,bP,aC,hp,eH,aL,bR,q,qp,wI,hw,go_sem];refine (CL.aX W kW).mono ?_;exact alD
   refine bA.op (λv W=>bw qj (KD t.st.prom t.refused (fg t)) v W) (λ_ _ _ h k=>cH h k) (λV W kW hp=>?_) ?_
   ·(try simp only[dE,bU,bZ,dA,dB,bM]at hp)
    simp[dC,bP,aC,hp,eH,aL,bR,q,qp,wI,hw,go_sem];refine (auG t.st.prom t.refused (fg t) _ _ _ W (HD.aX W kW).prom (HD.aX W kW).ie hp.2.2.1 aZ aZ aZ (λm hm=>by have:=(z.last hm).2.1;omega)).mono ?_;rintro e w4⟨v4,rfl,hO,k4⟩;exact⟨_,rfl,hO.bw,k4⟩
   refine bA.i ?_;refine bA.op (λv W=>bw cF (nt t) v W) (λ_ _ _ h k=>cH h k) (λV W kW hp=>?_) ?_
   ·(try simp only[dE,bU,bZ,dA,dB,bM]at hp)
    simp[dC,bP,aC,hp,eH,aL,bR,q,qp,wI,hw,go_sem];refine (CA.aX W kW).mono ?_;exact alD
   refine bA.op (λv W=>nG (CI t) v W) (λ_ _ _ h k=>aav h k) (λV W kW hp=>?_) ?_
   ·simp only[dE,bU,bZ,dA,dB,bM]at hp;obtain⟨LX,h29,h31,-⟩:=hp;obtain⟨A29,c29,e29⟩:=bD h29;obtain⟨A31,c31,e31⟩:=bD h31;simp[dC,bP,aC,LX,e29,e31,eH,aL,bR,ed,go_sem];rw[e29]at h29;rw[e31]at h31;exact⟨_,_,_,_,_,_,rfl,h29,h31,gN _ _,gN _ _,gN _ _,gN _ _⟩
   clear qs;intro V W kW hA;simp only[bU,bZ,dx,bM,Nat.reduceAdd]at hA;obtain⟨f0,f1,f2,f3,f4,f5,f6,f7,f8,f9,f10,f11,f12,f13,f14,f15,f16,f17,f18,f19,f20,f21,f22,f23,f24,f25,f26,f27,f28,f29,f30,f31,f32,-⟩:=hA;have cN:=K0.bF kW;have qA:=kW.size;have CS:=aY (afq (yh t) (CI t) _ cN (jK.st kW) f32 (afn z Qj) hgb aZ bq);rw[VR.aX]at CS;clear f1 f2 f3 f4 f5 f6 f7 f8 f9 f11 f12 f13 f14 f15 f16 f17 f18 f19 f20 f21 f22 f23 f24 f25 f26 f27 f28 f29 f30 f31 f32 CL CA q qp;refine bJ.call _ _ rfl (by simp[bP,aC,cK,f0,f10,aL,bR,go_sem];exact⟨rfl,rfl⟩) ?_;refine CS.aX.mono ?_;rintro e w5⟨rfl,o',jI,T,u5,-⟩;refine⟨_,rfl,?_⟩;refine bJ.nil ?_;simp only[iu,Act.put,ue,tC,tB,Nat.reduceAdd,cK];have U5:=aY ((Eb.aX.tr (bf.bS kW (λk=>k=gb∨base<=k))).tr (u5.more λk hk=>hk.imp id λh=>sH));rw[bU,<- VR.aX,<- HO.aX]at T;clear CS f0 f10 u5;go_wp2_with fail
   go_meet
   case rel=>exact⟨_,jI,T,U5.aX⟩
  ·have HO:Hid (OU=[]):=aY (by rw[HR.aX,hr];rfl);clear hr HR;go_wp2_with fail
   go_meet
   case rel=>exact⟨_,K0,by rw[HO.aX];exact jK,Eb.aX⟩
 case rest =>
  obtain⟨o,hbo,hO,u4⟩:=hcut;have Mf:=VQ.aX wc u4;have CK:=aY (WN Mf z);rw[mW]at CK;have sW:Q (rR t)<=16:=cI (J6 _ _) (ud z.tr).2;have h0l:=agQ t;have HX0:Hid (xd t=vI t++vJ t (rR t)):=aY rfl;have hwz:=u4.size;clear Mf K0 jK k3 u3 Eb mf;go_wp2_with fail
  refine CK.aX.mono ?_;rintro e w5⟨v5,rfl,T,k5⟩;generalize rR t=y at *;obtain⟨A5,c5,rfl⟩:=T.slice;have nc:=aY (T.fx λ_ h=>h);have dt:=hO.blk;have jI:=hbo.bF k5;have KY:bK (λk=>k<base) base 193 Dt (vI t++vJ t (y.take 0)) o w5:=by have:=hO.st k5;simpa [vJ]using this
  have u5:=aY (u4.tr (bf.bS k5 _));have hU5:=bf.rf (λk=>k=gb∨aW o=I k) w5;clear CK T hbo hO u4;go_wp2_with fail
  go_loopw [6,52] (fun _ i W=>∃(j:Nat) (o2:aQ),j<=Q y/\i=G J j/\bn W gb 190 #[o2]/\bK (fun k=>k<base) base 193 Dt (vI t++vJ t (y.take j)) o2 W/\bf (fun k=>k=gb∨aW o=I k) w5 W/\∀k,aW o2=I k->aW o=I k∨Z (D w5)<=k) (fun _ i _=>Q y-(aO i).toNat)
  case atStart=>exact⟨0,o,aZ,rfl,jI,KY,hU5,λ_ h=>aI h⟩
  case round =>
   clear jI KY hU5;obtain⟨j,o2,hj,rfl,hb,hO,u,nE⟩:=hrel;have jL:=u5.aX.tr (u.more λk hk=>hk.imp id λh=>(dt k h).1);have aJK:=jL.size;have hus:=u.size;by_cases hlt:j<Q y
   ·have cd:(j:Int)<Q y:=aZ;have hl:=(nc.aX.up u λk hk=>by rcases hk with hk|hk;omega;exact (dt k hk).2).now;obtain⟨A,c,e,hl,-⟩:=hl;injection e with e1 e2 e3;subst e1;clear e2 e3;obtain⟨b,off,rfl,hcell⟩:=ints_at hl aZ;have cj:=hcell wr (K.rf _) j hlt;have hV:=VQ.aX wr jL;have Y:=asj hV z Qj.nd htW y[j];have hcf:=aeU z y[j];have HS:Hid (vI t++vJ t (y.take (j+1))=(vI t++vJ t (y.take j))++xc y[j] (wN t y[j])):=aY (by
     unfold vJ;rw[ix hlt,List.flatMap_append,<- fN];simp only[xV,List.flatMap_nil,List.append_nil])
    have G1:=Xu t (y.take j);have Ai:Q (vI t++vJ t (y.take j))<=1000:=by rw[eU];rw[qN]at G1;omega
    rw[mW]at Y;have Y:=aY Y;generalize y[j]=kd at *;generalize vI t++vJ t (y.take j)=os at *;generalize wN t kd=cm at *;clear hcell hl hV G1;go_wp2_with fail
    refine Y.aX.mono ?_;rintro e w6⟨v6,rfl,zw,k6⟩;have lQ:=hb.bF k6;have BL:=k6.size;have C7:=aY (afq kd cm v6 lQ (hO.st k6) zw hcf hgb aZ Ai);obtain⟨m1,m2,m3,m4,m5,m6,rfl,-⟩:=zw;clear Y cj hb hO;go_wp2_with fail
    refine C7.aX.mono ?_;rintro e w7⟨rfl,o7,lh,jh,u7,Lj⟩;rw[<- HS.aX]at jh;have hU7:=aY ((u.tr (bf.bS k6 _)).iA u7 λk hk H=>H.imp id λh=>(nE k h).resolve_right aZ);have hN7:=aY λk hk=>(Lj k hk).elim (λh=>nE k h) λh=>aJ aZ
    clear C7 Lj u7 nE;go_wp2;go_roundw
    case rel=>exact⟨j+1,o7,aZ,cU,lh,jh,hU7.aX,hN7.aX⟩
    case measure=>simp[aO];omega
   ·have cd:¬(j:Int)<Q y:=aZ;obtain rfl:j=Q y:=aZ;rw[nN,<- HX0.aX]at hO;obtain⟨Ao,co,rfl⟩:=hO.slice;have q:=hb.cell;obtain⟨S,hkey,kO,O,Ug⟩:=HX.aX;have HF:=aY (show cS (λk=>M k∨cO p' k) p' t wr from (VQ.aX wr jL).less (λk hk=>aJ hk) λk hk=>aI hk);have hUF:=((S.tr (bf.bS Vr.aX _)).iA jL λk hk H=>by
     have:=O;rcases H with H|H <;> omega)
    have HU:=aY hUF;have Cd:=aY ((hO.fx λ_ h=>h).less (N:=λk=>M k∨cO p' k) λk hk=>by have:=O k hk;omega);have HK:=aY hkey;have GI:=aY kO;clear hO S hkey kO O Ug jL hUF;go_wp2;go_ret;first|exact⟨_,rfl,p',HF.aX,HU.aX,HK.aX,GI.aX,Cd.aX⟩|exact⟨_,p',rfl,HF.aX,HU.aX,HK.aX,GI.aX,Cd.aX⟩
abbrev lu:=(Int×Int)×List (List UInt8)
def nI(L:List lu)(k:Int×Int):Option (List (List UInt8)):=(L.find? λp=>decide (p.1=k)).map (·.2)
def jV(L:List lu)(k:Int×Int)(l:List (List UInt8)):List lu:=L.map λp=>if p.1=k then (p.1,l)else p
def xg(L:List lu)(k:Int×Int)(b:List UInt8):List lu:=match nI L k with
 | some l=>if Q l<8 then jV L k (l++[b])else L
 | none=>L
structure JL where
 up:Option cJ
 dk:rC
structure cP where
 par:List Int
 bj:List Int
 dR:List lu
 gq:List JL
 cur:List Int
 got:List (List (List (List dW)))
structure pY(O:cP):Prop where
 tr:iQ O.par=aA
 hm:nV O.par O.bj=aA
 ln:Q O.gq=Q O.par
 lc:Q O.cur=Q O.bj
 lg:Q O.got=Q O.bj
def mq(O:cP)(n:Int):Bool:=iJ O.par n
def eF(O:cP)(n:Int):Option cJ:=if mq O n then (O.gq[n.toNat]?).bind (·.up)else U
def oL(O:cP)(n:Int)(x:JL):cP:={ O with gq:=O.gq.set n.toNat x }
def rZ(O:cP)(n:Int)(B:cJ):cP:=oL O n ⟨I B,B.dk⟩
def mO(O:cP)(c:Int):Bool:=decide (0<=c)&&decide (c<(Q O.bj:Int))
def oH(O:cP)(c:Int):Int:=(O.bj[c.toNat]?).getD 0
def tF{α:Type}(O:cP)(c:Int)(z:α)(f:cJ->cJ×α×Int):cP×α×Int :=
 if mO O c then (match eF O (oH O c)with|none=>(O,z,210)|some B=>(rZ O (oH O c) (f B).1,(f B).2))else (O,z,1)
def xF{α:Type}(O:cP)(c:Int)(a:cB)(z:α)(f:cJ->cJ×α×Int):cP×α×Int :=
 if mO O c&&(eF O (oH O c)).isSome&&decide (a.1≠oH O c)then (O,z,1)else tF O c z f
def ph(O:cP)(c:Int):cP×cB×Int:=tF O c (0,0,0) λB=>y5 B c
def qY(O:cP)(c:Int)(n:Nat)(f:List eT):cP×cB×Int:=tF O c (0,0,0) λB=>Bt B c n f
def qL(O:cP)(c:Int)(n:Nat):cP×cB×Int:=tF O c (0,0,0) λB=>Bb B c n
def jB(O:cP)(c:Int)(a:cB)(f:List fT->List fT×Int):cP×Unit×Int:=xF O c a () λB=>((fV B (f B.bH)).1,(),(fV B (f B.bH)).2)
def xQ(O:cP)(c:Int)(a:cB):Int×Int:=let r:=xF O c a (0:Int) λB=>(B,Ib B a,0);r.2
def jE(O:cP)(c:Int):cP×List (List dW)×Int :=
 if mO O c then (match eF O (oH O c)with
  | none=>(O,[],210)
  | some B =>
   let r:=nu B c ((O.cur[c.toNat]?).getD 0)
   if r.2.2=0 then ({ O with cur:=O.cur.set c.toNat r.2.1,got:=if r.1=[]then O.got else O.got.modify c.toNat λg=>g++[r.1] },r.1,0)else (O,[],r.2.2))
 else (O,[],1)
def pw(O:cP)(n:Int):cP×Int :=
 if mq O n then (match eF O n with
  | none=>(O,210)
  | some B=>({ rZ O n (iX B)with dR:=(xd (iX B)).foldl (λL m=>xg L (n,m.1) m.2) O.dR },0))
 else (O,1)
def nJ(O:cP)(a b:Int):cP×Int:=match nI O.dR (a,b)with
 | none=>(O,140)
 | some []=>(O,141)
 | some (m :: l) =>
  let P:={ O with dR:=jV O.dR (a,b) l }
  match eF O b with
  | none=>(P,210)
  | some B=>(rZ P b (jr B a m).1,(jr B a m).2)
def pz(O:cP)(a b:Int):Nat:=Q ((nI O.dR (a,b)).getD [])
def Be(a b:Int):Nat->cP->cP
 | 0,O=>O
 | k+1,O=>Be a b k (nJ O a b).1
def vK(O:cP)(n:Nat):cP:=if (pw O n).2=0 then (List.range (Q O.par)).foldl (λO (t:Nat)=>if t=n then O else Be n t (pz O n t) O) (pw O n).1 else O
def EF(O:cP):cP:=((List.range (Q O.par)).reverse++List.range (Q O.par)).foldl vK O
def Dc(O:cP)(n:Int):cP×Int:=if mq O n then (match eF O n with|none=>(O,210)|some B=>(oL O n ⟨U,B.dk⟩,0))else (O,1)
def G2(d:rC):fe:=(lf eP d.gQ).getD eP
def tG(O:cP)(n:Int):cP×Int :=
 let d:=((O.gq[n.toNat]?).map (·.dk)).getD ⟨[],0⟩
 if jQ (eY (eJ (G2 d)))<=d.room then (rZ O n (wZ n O.par O.bj ⟨eY (eJ (G2 d)),d.room⟩ (eJ (G2 d))),0)else (O,90)
def Cw(O:cP)(n:Int):cP×Int:=if mq O n then (if (eF O n).isSome then (O,210)else tG O n)else (O,1)
def oC(O:cP)(n:Int):fe:=if mq O n then (match eF O n with|some B=>B.st|none=>((O.gq[n.toNat]?).map λx=>G2 x.dk).getD eP)else eP
def Dk(O:cP)(n:Int):Nat:=Q (oC O n).prom+(match eF O n with|some B=>Q (B.bH.filter (·.asked))+Q B.waits|none=>0)
def Im(par:List Int):List lu:=(List.range (Q par)).tail.flatMap λ(k:Nat)=>let p:=(par[k]?).getD 0;[(((k:Int),p),[]),((p,(k:Int)),[])]
def lZ(par bj:List Int)(room:Nat):cP :=
 ⟨par,bj,Im par,(List.range (Q par)).map λ(n:Nat)=>let d:rC:=⟨eY (eJ eP),room⟩;⟨I (wZ n par bj d (eJ eP)),d⟩,bj.map λ_=>0,bj.map λ_=>[]⟩
structure iL(B B':cJ):Prop where
 list:B.st.list <+: B'.st.list
 ab:B.st.ab <+: B'.st.ab
 life:B'.st.life=B.st.life
theorem iL.rf B:iL B B:=⟨List.prefix_refl _,List.prefix_refl _,rfl⟩
theorem iL.tr{A B C}(h:iL A B)(k:iL B C):iL A C:=⟨h.list.trans k.list,h.ab.trans k.ab,k.life.trans h.life⟩
structure jH(B:cJ):Prop where
 ab:∀a∈B.st.ab,dI B.st.list a=az
 prom:Q B.st.prom<=6
theorem awp{l a b}(h:fD l a=az)(hb:b∈l):b≠a:=by
 grind [fD]
theorem aBz{s t r}(hk:r.kind≠1)(e:fR s r=I t)(z:∀a∈s.ab,dI s.list a=az):s.list <+: t.list/\s.ab <+: t.ab/\t.life=s.life/\(∀a∈t.ab,dI t.list a=az)/\(Q t.prom<=Q s.prom+(if r.kind=3 then 1 else 0)):=by
 have j:=ak1 hk e;unfold fR at e;rw[bO hk]at e;split at e
 ·rename_i y;unfold zB at e;split at e
  ·cases e
  split at e
  ·cases e
  split at e
  ·cases e
  rename_i A C;injection e with e;subst e;refine⟨List.prefix_append _ _,List.prefix_refl _,rfl,λa B=>?_,?_⟩
  ·grind [dI,Bool.or_eq_false_iff,awp]
  ·grind [fR,dI,bB,kK]
 split at e
 ·grind [fR,dI,zC]
 split at e
 ·grind [fR,dI,zD,jW,kK]
 ·grind [fR,dI,BW,jW,kK]
theorem agR{B r}(hk:r.kind≠1)(z:∀a∈B.st.ab,dI B.st.list a=az):iL B (fk B r).1/\(∀a∈(fk B r).1.st.ab,dI (fk B r).1.st.list a=az)/\Q (fk B r).1.st.prom<=Q B.st.prom+(if r.kind=3 then 1 else 0):=by
 unfold fk;split
 ·split
  ·grind [iL.rf]
  ·rename_i t A;obtain⟨C,y,H,L,j⟩:=aBz hk A z;exact⟨⟨C,y,H⟩,L,j⟩
 ·grind [iL.rf]
theorem RP{B r}(hk:r.kind≠1)(j:r.kind≠3)(h:jH B):iL B (fk B r).1/\jH (fk B r).1:=by obtain⟨a,b,c⟩:=agR hk h.ab;rw[bO j]at c;exact⟨a,⟨b,cI c h.prom⟩⟩
theorem ahA{B}(h:jH B) x:iL B (oG B x).1/\jH (oG B x).1:=RP CZ CZ h
theorem ax4{B}(h:jH B) a:iL B (pO B a).1/\jH (pO B a).1:=by
 have:=RP (B:=B) (r:=lE 4 a) FP FP h;unfold pO;split
 ·exact⟨⟨this.1.list,this.1.ab,this.1.life⟩,⟨this.2.ab,this.2.prom⟩⟩
 ·grind [iL.rf]
theorem af1{B}(h:jH B) a:iL B (lA B a)/\jH (lA B a):=by
 grind [lA,RP,lE,iL.rf]
theorem XU{α:Type}{f}(j:∀B x,jH B->iL B (f B x)/\jH (f B x)):∀(l:List α) (B:cJ),jH B->iL B (l.foldl f B)/\jH (l.foldl f B):=by
 intro l
 induction l with
 | nil=>intro B h;exact⟨iL.rf _,h⟩
 | cons x l t => intro B h;obtain⟨a,b⟩:=j B x h;obtain⟨c,d⟩:=t (f B x) b;exact⟨a.tr c,d⟩
theorem ax5{kids p x}(h:jH p.1):iL p.1 (mP kids p x).1/\jH (mP kids p x).1:=by
 grind [mP,ahA,iL.rf,ax4]
theorem ax6{kids}:∀(l:List bW) (p:cJ×List bW),jH p.1->iL p.1 (l.foldl (mP kids) p).1/\jH (l.foldl (mP kids) p).1:=by
 intro l
 induction l with
 | nil=>intro p h;exact⟨iL.rf _,h⟩
 | cons x l j => intro p h;obtain⟨a,b⟩:=ax5 (kids:=kids) (x:=x) h;obtain⟨c,d⟩:=j (mP kids p x) b;exact⟨a.tr c,d⟩
theorem ahB{B}(h:jH B):iL B (iX B)/\jH (iX B):=by
 unfold iX;split
 ·obtain⟨a,b⟩:=XU (f:=λb x=>(oG b x).1) (λB x h=>ahA h x) (qK B.st B.waits (nt B)).2 B h;obtain⟨c,d⟩:=ax6 (kids:=fg B) (qK B.st B.waits (nt B)).1 (Bg B,[]) b;exact⟨⟨(a.tr c).list,(a.tr c).ab,(a.tr c).life⟩,⟨d.ab,d.prom⟩⟩
 ·grind [iL.rf]
theorem ax7:∀(l:List bW) (B:cJ) (n:Nat),jH B->iL B (nP B n l)/\jH (nP B n l):=by
 intro l
 induction l with
 | nil=>intro B n h;exact⟨iL.rf _,h⟩
 | cons x l j =>
  intro B n h;unfold nP;split
  ·split
   ·obtain⟨a,b⟩:=RP (B:=B) (r:=oJ n x) CZ CZ h;obtain⟨c,d⟩:=j (fk B (oJ n x)).1 ((n+1)%18446744073709551616) b;exact⟨a.tr c,d⟩
   ·grind [iL.rf]
  ·grind
theorem ax8{B}(h:jH B) a:iL B (po B a)/\jH (po B a):=by
 unfold po;split
 ·grind [iL.rf]
 ·have j:jH { B with told:=B.told++[a],bH:=iq B.bH a }:=⟨h.ab,h.prom⟩;obtain⟨b,c⟩:=af1 j a;exact⟨⟨b.list,b.ab,b.life⟩,c⟩
theorem atL{s}(j:Q s.prom<=6):∀(l:List bW) (p:List bW×List cB),Q s.prom+Q p.1<=6->Q s.prom+Q (l.foldl (lJ s) p).1<=6:=by
 intro l
 induction l with
 | nil=>intro p h;exact h
 | cons x l t =>
  grind [lJ]
theorem ax9:∀(l:List bW) (p:cJ×List cB),(∀a∈p.1.st.ab,dI p.1.st.list a=az)->Q p.1.st.prom+Q l<=6->iL p.1 (l.foldl kJ p).1/\jH (l.foldl kJ p).1:=by
 intro l
 induction l with
 | nil=>intro p j t;exact⟨iL.rf _,⟨j,bG⟩⟩
 | cons x l z =>
  intro p j t;simp only[fY]at t;have hn:=agR (B:=p.1) (r:=xm x) FR j;have y:iL p.1 (kJ p x).1/\(∀a∈(kJ p x).1.st.ab,dI (kJ p x).1.st.list a=az)/\Q (kJ p x).1.st.prom<=Q p.1.st.prom+1:=by
   unfold kJ;split
   ·grind
   ·simp_all [iL.rf,aH]
  obtain⟨a,b⟩:=z (kJ p x) y.2.1 aZ;exact⟨y.1.tr a,b⟩
theorem az3{B}(h:jH B) l:iL B (vH B l)/\jH (vH B l):=by have j:=atL h.prom (nU B l) ([],[]) (by simpa using h.prom);obtain⟨a,b⟩:=ax9 (pK B.st (nU B l)).1 (B,vQ B l++(pK B.st (nU B l)).2) h.ab j;unfold vH tE;exact⟨⟨a.list,a.ab,a.life⟩,⟨b.ab,b.prom⟩⟩
theorem az4{B}(h:jH B) m:iL B (sM B m)/\jH (sM B m):=by obtain⟨t,y⟩:=ax7 m.entries B m.got h;obtain⟨j,A⟩:=XU (f:=po) (λB x h=>ax8 h x) m.fA _ y;obtain⟨H,C⟩:=XU (f:=lA) (λB x h=>af1 h x) m.ends _ A;obtain⟨L,z⟩:=az3 C m.gu;exact⟨((t.tr j).tr H).tr L,z⟩
theorem af2{B}(h:jH B) j b:iL B (jr B j b).1/\jH (jr B j b).1:=by
 unfold jr;split
 ·split
  ·grind [iL.rf]
  ·rename_i m _;split
   ·have t:jH { B with dq:=oB B.dq j m }:=⟨h.ab,h.prom⟩;obtain⟨a,c⟩:=ahB t;exact⟨⟨a.list,a.ab,a.life⟩,c⟩
   ·grind [az4,iL.rf]
 ·grind [iL.rf]
theorem az5{B}(h:jH B) c j:iL B (jR B c j).1/\jH (jR B c j).1:=by
 unfold jR;split
 ·exact alE
 ·grind [iL.rf]
theorem az6{B}(h:jH B) r:iL B (fV B r).1/\jH (fV B r).1:=by unfold fV;exact alE
def ji(l:List fT):Prop:=∀t∈l,t.asked=az->t.e.kind=1
theorem ji.nil:ji []:=λt h=>by simp at h
theorem ji.erase{l}(h:ji l) k:ji (l.eraseIdx k):=λt j=>h t (List.mem_of_mem_eraseIdx j)
theorem ji.settle{l}(h:ji l) a:ji (iq l a):=by
 unfold iq;split
 ·exact h
 ·exact h.erase _
theorem ji.add{l}(h:ji l) t(y:t.asked=aA∨t.e.kind=1):ji (x8 l t).1:=by
 unfold x8
 repeat' split
 all_goals first|exact h|skip
 intro s j
 rcases List.mem_append.1 j with j|j
 ·exact h s j
 grind
theorem ji.set{l}(h:ji l) k t(A:t.asked=aA∨t.e.kind=1):ji (l.set k t):=λs y=>by
 rcases List.mem_or_eq_of_mem_set y with y|rfl
 ·exact h s y
 ·intro z;rcases A with j|j
  ·rw[z]at j;cases j
  ·exact j
theorem ji.Kx{l}(h:ji l) a e:ji (jq l a e).1:=by
 unfold jq;split
 ·exact h
 ·split
  ·exact h
  ·rename_i k t j;repeat' split
   all_goals first|exact h|skip
   refine h.set _ _ ?_;cases hk:t.asked
   ·exact aJ (h t (List.mem_of_getElem? j) hk)
   ·simp
theorem ji.KH{l}(h:ji l) a:ji (jN l a).1:=by
 unfold jN;split
 ·exact h
 ·split
  ·exact h
  ·exact h.set _ _ (aI rfl)
theorem ji.abort{l}(h:ji l) a:ji (jO l a).1:=by
 unfold jO;split
 ·exact h.settle a
 ·exact h
structure iz(B:cJ):Prop extends cX B where
 vu:ji B.bH
theorem cX.put{B}(j:cX B){l n}(t:lG l)(hn:n<4611686018427387904):cX { B with bH:=l,calls:=n } :=
 ⟨j.tr,j.me,j.hm,j.dk,t,hn,j.dq,j.told,j.ie,j.waits,j.BB⟩
theorem iz.put{B}(t:iz B){l n}(j:lG l)(hk:ji l)(hn:n<4611686018427387904):iz { B with bH:=l,calls:=n } :=
 ⟨t.tocX.put j hn,hk⟩
theorem iz.call{B}(t:iz B)(hn:B.calls+1<4611686018427387904) c{j}(y:lG j.1)(hk:ji j.1):iz (jR B c j).1:=by
 unfold jR;split
 ·split
  ·exact t.put y hk hn
  ·exact t
 ·exact t
theorem iz.begin{B}(j:iz B)(hn:B.calls+1<4611686018427387904){c}(y:cV c):iz (y5 B c).1:=by have t:=j.new;exact j.call hn c (Sj j.tx _ ⟨by simp[x9,cV],t.1,y,t.2.1,t.2.2,Kq,Kq,Kq⟩) (j.vu.add _ (aJ rfl))
theorem iz.ask{B}(j:iz B)(hn:B.calls+1<4611686018427387904){k c}(hk:cV k)(C:cV c){n}(z:n<18446744073709551616){f}(A:∀t∈f,jF t):iz (jR B c (rV B.bH (ki B k c n f))).1:=by have y:=j.new;exact j.call hn c (Sj j.tx _ ⟨hk,y.1,C,y.2.1,y.2.2,z,A,by simp[ki]⟩) (j.vu.add _ (aI rfl))
theorem iz.keep{B}(j:iz B){r}(t:lG r.1)(hk:ji r.1):iz (fV B r).1:=by
 unfold fV;split
 ·exact j.put t hk j.calls
 ·exact j
theorem iz.Kx{B}(j:iz B){a e}(t:∀x∈e,ny x)(y:dX a):iz (fV B (jq B.bH a e)).1 :=
 j.keep (XI (l:=B.bH) j.tx ⟨2,a,0,e,fo⟩ y tg t Ht j.vu) (j.vu.Kx a e)
theorem iz.KH{B}(j:iz B){a}(t:dX a):iz (fV B (jN B.bH a)).1 :=
 j.keep (XI (l:=B.bH) j.tx ⟨3,a,0,[],fo⟩ t tg bq Ht j.vu) (j.vu.KH a)
theorem iz.abort{B}(j:iz B){a}(t:dX a):iz (fV B (jO B.bH a)).1 :=
 j.keep (XI (l:=B.bH) j.tx ⟨4,a,0,[],fo⟩ t tg bq Ht j.vu) (j.vu.abort a)
theorem Xv{B}(h:ji B.bH) r:ji (fk B r).1.bH:=by
 unfold fk;split
 ·split
  ·exact h
  ·show ji (if r.kind=2 then iq B.bH (bB r.e)else B.bH);split
   ·exact h.settle _
   ·exact h
 ·exact h
theorem awq{B}(h:ji B.bH) a:ji (pO B a).1.bH:=by
 unfold pO;split
 ·exact (Xv h _).settle _
 ·exact h
theorem aya{l:List bW}:∀ {B:cJ},ji B.bH->ji (l.foldl (λb x=>(oG b x).1) B).bH:=by
 induction l with
 | nil=>intro B h;exact h
 | cons x l j=>intro B h;exact j (Xv h _)
theorem ayb{kids}{l:List bW}:∀ {p:cJ×List bW},ji p.1.bH->ji (l.foldl (mP kids) p).1.bH:=by
 induction l with
 | nil=>intro p h;exact h
 | cons x l j =>
  intro p h
  refine j ?_
  unfold mP
  repeat' split
  all_goals first|exact h|exact Xv h _|exact awq h _
theorem iz.work{B}(j:iz B):iz (iX B):=by
 refine⟨MP j.tocX,?_⟩;unfold iX;split
 ·exact ayb (p:=(Bg B,[])) (aya j.vu)
 ·exact j.vu
section
variable {P:cJ->Prop}
theorem Xw(j:∀B r,P B->P (fk B r).1):∀ {l:List bW} {B:cJ} {n:Nat},P B->P (nP B n l)
 | [],B,n,h=>h
 | x :: l,B,n,h=>by
  unfold nP;split
  ·split
   ·exact Xw j (j _ _ h)
   ·exact h
  ·exact Xw j h
theorem afr(j:∀B r,P B->P (fk B r).1){B}(h:P B) a:P (lA B a):=by
 grind [fk,lA]
theorem Xx{α:Type}{f:cJ->α->cJ}(j:∀B a,P B->P (f B a)):∀ {l:List α} {B:cJ},P B->P (l.foldl f B)
 | [],_,h=>h
 | a :: l,B,h=>Xx j (l:=l) (j B a h)
theorem agS(j:∀B r,P B->P (fk B r).1):∀ {l:List bW} {p:cJ×List cB},P p.1->P (l.foldl kJ p).1
 | [],_,h=>h
 | x :: l,p,h=>by
  refine agS j (l:=l) ?_;unfold kJ;split
  ·exact j _ _ h
  ·exact h
theorem agT(j:∀B r,P B->P (fk B r).1)(y:∀B a,P B->P { B with told:=B.told++[a],bH:=iq B.bH a })(t:∀B l,P B->P { B with refused:=l }){B}(h:P B) m:P (sM B m):=by
 unfold sM vH;refine t _ _ ?_;unfold tE;refine agS j ?_;refine Xx (P:=P) (f:=lA) (λB a h=>afr j h a) ?_;refine Xx (P:=P) (f:=po) (λB a h=>?_) (Xw j h);unfold po;split
 ·exact h
 ·simp_all [afr]
end
def Tv(c:Nat)(B:cJ):Prop:=B.calls=c/\ji B.bH
theorem atM{c} B r(h:Tv c B):Tv c (fk B r).1:=by
 unfold fk;split
 ·split
  ·exact h
  ·refine⟨h.1,?_⟩;show ji (if r.kind=2 then iq B.bH (bB r.e)else B.bH);split
   ·exact h.2.settle _
   ·exact h.2
 ·exact h
theorem atO{c B}(h:Tv c B) m:Tv c (sM B m) :=
 agT atM (λ_ _ h=>⟨h.1,h.2.settle _⟩) (λ_ _ h=>h) h m
theorem Xe{B}(h:mT B)(t:iz B) j b(z:Q B.told+16<=1000000):iz (jr B j b).1/\(jr B j b).1.calls=B.calls:=by
 have H:=(afm h t.tocX j b z).2.1;suffices y:ji (jr B j b).1.bH/\(jr B j b).1.calls=B.calls from ⟨⟨H,y.1⟩,y.2⟩
 unfold jr;split
 ·split
  ·exact⟨t.vu,rfl⟩
  ·rename_i m hm;have C:=(Ru hm).2;have hfit:=RI hm;split
   ·have g:=Rz (k:=j) t.tocX C hfit;have A:iz { B with dq:=oB B.dq j m }:=⟨g,t.vu⟩;exact⟨A.work.vu,(MQ g).calls⟩
   ·split
    ·have:=atO (c:=B.calls) ⟨rfl,t.vu⟩ m;exact⟨this.2,this.1⟩
    ·exact⟨t.vu,rfl⟩
 ·exact⟨t.vu,rfl⟩
structure mC(B:cJ)(n:Nat):Prop where
 inv:jH B
 fit:mT B
 told:Q B.told<=16*n
 calls:B.calls<=n
section
variable {B:cJ} {n:Nat}
theorem mC.call(h:mC B n) c j:mC (jR B c j).1 (n+1):=by
 have h1:=(az5 h.inv c j).2;have h2:(jR B c j).1.told=B.told/\(jR B c j).1.refused=B.refused/\(jR B c j).1.dq=B.dq/\(jR B c j).1.calls<=B.calls+1:=by
  grind [jR]
 exact alF
theorem mC.keep(h:mC B n) r:mC (fV B r).1 (n+1):=by
 have h1:=(az6 h.inv r).2;have h2:(fV B r).1.told=B.told/\(fV B r).1.refused=B.refused/\(fV B r).1.dq=B.dq/\(fV B r).1.calls=B.calls:=by
  grind [fV]
 exact alF
theorem mC.work(h:mC B n)(j:cX B):mC (iX B) (n+1):=by have t:=MQ j;have:=h.told;have:=h.calls;exact⟨(ahB h.inv).2,Rx j h.fit,by rw[t.told];omega,by rw[t.calls];omega⟩
theorem mC.handle(h:mC B n)(t:iz B) j b(hn:n<=50000):mC (jr B j b).1 (n+1):=by have:=h.told;have:=h.calls;have y:=afm h.fit t.tocX j b aZ;have:=Xe h.fit t j b aZ;exact⟨(af2 h.inv j b).2,y.1,aZ,aZ⟩
end
theorem agU{α:Type}[DecidableEq α]{k:α}:∀ {bu:List (α×aQ)} {i:Nat},iG k bu i=U->∀p∈bu,p.1≠k
 | [],_,_=>bq
 | q :: r,i,h=>by
  unfold iG at h;split at h
  ·cases h
  ·rename_i j;intro p hp;rcases List.mem_cons.1 hp with rfl|hp
   ·exact j
   ·exact agU h p hp
theorem EV.put{l bu W}(h:EV l bu W)(hn:(l.map (·.1)).Nodup){k m v}(hm:nG m v W):EV (oB l k m) (uo bu k v) W:=by
 have A:=h.1
 cases hi:iG k bu 0 with
 | none =>
  have t:=agU hi;have B:¬(l.any λp=>decide (p.1=k))=true:=by rw[List.any_eq_true];rintro ⟨p,hp,e⟩;obtain⟨j,hj,rfl⟩:=List.mem_iff_getElem.1 hp;have:=(h.2 j aZ hj).1;exact t _ (dG (show j<Q bu by omega)) (this.trans Ny)
  unfold oB uo;rw[hi,bO B];refine⟨by simp[A],λj M h4=>?_⟩;by_cases hj:j<Q l
  ·rw[List.getElem_append_left (show j<Q bu by omega),List.getElem_append_left hj];exact h.2 j _ _
  ·have e:j=Q l:=by simp at h4;omega
   subst e;rw[List.getElem_append_right aZ,List.getElem_append_right aZ];simpa [A]using hm
 | some x =>
  obtain⟨i,N⟩:=x;obtain⟨-,t⟩:=Xn hi;rw[Nat.sub_zero]at t;obtain⟨H,t⟩:=aF.1 t;have z:i<Q l:=aZ;have hk:l[i].1=k:=by rw[<- (h.2 i H z).1,t]
  have B:(l.any λp=>decide (p.1=k))=true:=by rw[List.any_eq_true];exact⟨l[i],dG z,vD⟩
  unfold oB uo;rw[hi,bT B];refine⟨by simp[A],λj M h4=>?_⟩;have hj:j<Q l:=Kh;rw[List.getElem_modify,List.getElem_map];by_cases e:i=j
  ·subst e;rw[bT rfl,bT hk,t];exact⟨rfl,hm⟩
  ·have L:l[j].1≠k:=λC=>e (by
    have:=List.nodup_iff_pairwise_ne.1 hn;rw[List.pairwise_iff_getElem]at this;rcases Nat.lt_trichotomy i j with y|y|y
    ·have g:=this i j (by simpa using z) Es y;simp[hk,C]at g
    ·exact y
    ·have g:=this j i Es (by simpa using z) y;simp[hk,C]at g)
   rw[bO e,bO L];exact h.2 j _ _
theorem cS.report{M p B w w'}(h:cS M p B w){k m v}(hm:fC encI w' p.gr (uo p.kr k v))(hg:w.grownBy w' (I p.gr))(hn:(B.dq.map (·.1)).Nodup)(A:Fx M (λW=>nG m v W) w):cS M { p with kr:=uo p.kr k v } { B with dq:=oB B.dq k m } w':=by
 obtain⟨z,H,N,C,L⟩:=h.apart;have u:bf (λk=>k=p.gr) w w':=bf.gy hg λk e=>bG
 have t:=u.more λk hk=>h.sub k (hk▸aJ (aI rfl))
 refine⟨h.blk.cA u z,h.lg.cA u λk hk e=>C (e▸hk),hm,h.yJ.cA u λe=>h.ne e.symm,λW y=>?_,h.sub,λk hk=>cQ (h.low k hk) u.size,h.ne⟩;have j:=h.df W (t.tr y);exact⟨j.par,j.bj,j.list,j.prom,j.ab,j.bH,j.ie,j.waits,j.dq.put hn (A W (t.tr y))⟩
theorem awr{M p B w}(h:cS M p B w) k{m v}(hn:(B.dq.map (·.1)).Nodup)(y:Fx M (λW=>nG m v W) w) :
 ∃w',(Instr.mapUpdate 159 (.map (I p.gr)) (G J k) v).run prog w=.ok () w'/\cS M { p with kr:=uo p.kr k v } { B with dq:=oB B.dq k m } w'/\bf (λk=>k=p.gr) w w':=by
 obtain⟨w',z,t,j⟩:=FK (Dn (P:=prog) (kt:=3) underlying3) underlying159 h.rep k v
 exact⟨w',z,h.report t j hn y,bf.gy j λk e=>bG⟩
section
variable {P:Program} {aR:Exit->Act->aP->Prop}
theorem KL.aEL{ops a0 C A y Le t z} H(hpl:tk ops H=aA)
 (hg:∀W W',C W->aN (Z (D W)) W W'->C W') (hg0:∀W W',A W->aN (Z (D W)) W W'->A W') (hg1:∀W W',y W->aN (Z (D W)) W W'->y W')
 (st:∀f∈t,∀v w w',f v w->aN (Z (D w)) w w'->f v w') (st2:∀j,j≠z->sR H z (Q H) j=az->∀v w w',tab t j v w->Le w w'->tab t j v w') :
 ∀(l:List Oper) (k:Nat) (B:List (List Nat×List (Nat×Nat))),KL P a0 C A y Le (tab t) z k l B->KK P ops a0 (Oe C A y t z) k l B:=by
 intro l
 induction l with
 | nil=>intro k B _;exact trivial
 | cons o r ih =>
  intro k B h
  cases B with
  | nil=>exact False.elim h
  | cons x xs =>
   refine⟨?_,ih _ _ h.2⟩;intro L V w N hcl X ⟨R,O,hp⟩;by_cases M:k=z
   ·subst M;have ob:=h.1;rw[bT rfl]at ob;obtain⟨hgd,ob⟩:=ob;rw[N]at O;simp only[Bool.false_eq_true,if_false]at O;have ob:=ob V w R O λj hj=>hp j (X j hj)
    have next:∀v w',tab t k v w'->C w'->y w'->Le w w'->Oe C A y t k (upd L k) (cK V k v) w':=by
     intro v w' hv S Y hb;have:upd L k k=true:=by simp[upd]
     refine⟨S,bG,λj hj=>?_⟩;unfold cK;by_cases hjk:j=k
     ·grind
     ·rw[bO hjk];have T:=(AK hj).resolve_left hjk;refine st2 j hjk ?_ _ _ _ (hp j T) hb;cases hf:sR H k (Q H) j with
      | false=>rfl
      | true=>rw[J5 hpl hcl _ _ hf T]at N;cases N
    rw[hgd,bT (show dC V U=aA from rfl)];generalize (aL (bP x.2 a0 V) (bR o.op o.type)).run P w=q at *;cases q with
    | ok n w' =>
     cases n <;> simp only[TP]at ob <;> simp only[lO]
     case value v=>exact next _ _ ob.1 ob.2.1 ob.2.2.1 ob.2.2.2
     case skip=>exact next _ _ ob.1 ob.2.1 ob.2.2.1 ob.2.2.2
     case enter f args =>
      apply dD ob
      rintro v w''⟨hv,S,Y,hb⟩
      grind
    | halt x w'=>simp only[TP]at ob
   ·have ob:=h.1;rw[bO M]at ob;have ob:=ob V w R λj hj=>hp j (X j hj)
    have next:∀v w',tab t k v w'->aN (Z (D w)) w w'->Oe C A y t z (upd L k) (cK V k v) w':=by
     intro v w' hv hb;have:upd L k z=L z:=by simp[upd,Ne.symm M]
     refine⟨hg _ _ R hb,?_,λj hj=>?_⟩
     ·grind
     ·exact alG
    exact alH
end
section
variable {P:Program} {aR:Exit->Act->aP->Prop}
theorem lO.imp{R t}(h:∀v w,R v w->t v w){q}(j:lO P R q):lO P t q:=by
 cases q with
 | ok n w' =>
  cases n <;> simp only[lO]at j⊢
  case value v=>exact h _ _ j
  case skip=>exact h _ _ j
  case enter f args =>
   apply dD j
   intro v y z
   grind
 | halt x w'=>simp only[lO]at j
end
section
variable {P:Program} {aR:Exit->Act->aP->Prop}
def aDu(P:Program)(y:Act)(C t:aP->Prop)(z:(Nat->Bool)->(Nat->aQ)->aP->Prop)(φ:Nat->aQ->aP->Prop)(k:Nat)(op:Op)(ty:TypeId)(gd:Option (Nat×Bool))(al:List Nat)(rd:List (Nat×Nat)):Prop :=
 gd=U/\∀(L:Nat->Bool) (V:Nat->aQ) (w:aP),(∀j∈al,L j=aA)->C w->t w->(∀j,L j=aA->φ j (V j) w)->lO P (λv w'=>z (upd L k) (cK V k v) w') ((aL (bP rd y V) (bR op ty)).run P w)
def aDv(P:Program)(y:Act)(t:(Nat->Bool)->(Nat->aQ)->aP->Prop)(k:Nat)(op:Op)(ty:TypeId)(gd:Option (Nat×Bool))(al:List Nat)(rd:List (Nat×Nat)):Prop :=
 gd=U/\∀(L:Nat->Bool) (V:Nat->aQ) (w:aP),L k=az->(∀j∈al,L j=aA)->t L V w->lO P (λv w'=>t (upd L k) (cK V k v) w') ((aL (bP rd y V) (bR op ty)).run P w)
def KO(P:Program)(j:Act)(C H t:aP->Prop)(Le:aP->aP->Prop)(A:(Nat->Bool)->(Nat->aQ)->aP->Prop)(φ:Nat->aQ->aP->Prop)(z y:Nat)(L B:List Nat):Nat->List Oper->List (List Nat×List (Nat×Nat))->Prop
 | _,[],_=>True
 | _,_ :: _,[]=>False
 | k,o :: r,x :: xs=>(if k=y then aDu P j C t A φ k o.op o.type o.guard x.1 x.2 else (if L.contains k=aA then True else aDv P j A k o.op o.type o.guard x.1 x.2)/\(if B.contains k=aA then True else KL P j C H t Le φ z k [o] [x]))/\KO P j C H t Le A φ z y L B (k+1) r xs
def Bh(C j A:aP->Prop)(t:List (aQ->aP->Prop))(z y:Nat)(B:(Nat->Bool)->(Nat->aQ)->aP->Prop)(L:Nat->Bool)(V:Nat->aQ)(w:aP):Prop:=if L y=aA then B L V w else Oe C j A t z L V w
theorem KO.toP{ops a0 C R N Le ag t z y T Ec} B(hpl:tk ops B=aA)
 (hb:∀k∈T,sR B k (Q B) y=aA) (ha:∀k∈Ec,sR B y (Q B) k=aA) (hz:z∈T) (hzy:z≠y)
 (hg:∀W W',C W->aN (Z (D W)) W W'->C W') (hg0:∀W W',R W->aN (Z (D W)) W W'->R W') (hg1:∀W W',N W->aN (Z (D W)) W W'->N W')
 (st:∀f∈t,∀v w w',f v w->aN (Z (D w)) w w'->f v w') (st2:∀j,j≠z->sR B z (Q B) j=az->∀v w w',tab t j v w->Le w w'->tab t j v w') :
 ∀(l:List Oper) (k:Nat) (O:List (List Nat×List (Nat×Nat))),(∀i,ops[k+i]?=l[i]?)->(∀i,B[k+i]?=O[i]?) ->
  KO P a0 C R N Le ag (tab t) z y T Ec k l O->KK P ops a0 (Bh C R N t z y ag) k l O:=by
 intro l
 induction l with
 | nil=>intro k O _ _ _;exact trivial
 | cons o r ih =>
  intro k O ho hq h
  cases O with
  | nil=>exact False.elim h
  | cons x xs =>
   have hxk:B[k]?=I x:=hq 0;refine⟨?_,ih _ _ (λi=>by have:=ho (i+1);simpa [Nat.add_assoc,Nat.add_comm 1 i]using this) (λi=>by have:=hq (i+1);simpa [Nat.add_assoc,Nat.add_comm 1 i]using this) h.2⟩;have before:∀ {L:Nat->Bool} {j:Nat},Closed ops L->(∀i∈x.1,L i=aA)->sR B j (Q B) k=aA->L j=true:=by
    intro L j X S M
    cases hn:Q B with
    | zero=>rw[hn]at M;cases M
    | succ n =>
     rw[hn]at M;unfold sR at M;rw[hxk]at M;simp only[Bool.or_eq_true,List.contains_iff_mem,List.any_eq_true]at M;rcases M with M|⟨i,hi,M⟩
     ·grind
     ·grind [J5]
   intro L V w Y X S H;by_cases hky:k=y
   ·subst hky;have A:=h.1;rw[bT rfl]at A;obtain⟨hgd,A⟩:=A;unfold Bh at H;rw[Y]at H;simp only[Bool.false_eq_true,if_false]at H;obtain⟨hc,hd,hp⟩:=H;have hLz:=before X S (hb z hz);rw[bT hLz]at hd;have A:=A L V w S hc hd hp;rw[hgd,bT (show dC V U=aA from rfl)];have hkk:upd L k k=true:=by simp[upd]
    refine lO.imp ?_ A;intro v w' h9;unfold Bh;rw[bT hkk];exact h9
   ·have A:=h.1;rw[bO hky]at A;obtain⟨ob1,ob2⟩:=A;cases Mk:L y with
    | true =>
     have vW:T.contains k=false:=by
      cases hc:T.contains k with
      | false=>rfl
      | true => have:=J5 hpl X _ _ (hb k Ev) Mk;rw[Y]at this;cases this
     rw[vW]at ob1;simp only[Bool.false_eq_true,if_false]at ob1;obtain⟨hgd,A⟩:=ob1;unfold Bh at H;rw[bT Mk]at H;have A:=A L V w Y S H;rw[hgd,bT (show dC V U=aA from rfl)];have Ji:upd L k y=true:=by simp[upd,Mk]
     refine lO.imp ?_ A;intro v w' h9;unfold Bh;rw[bT Ji];exact h9
    | false =>
     have hna:Ec.contains k=false:=by
      cases hc:Ec.contains k with
      | false=>rfl
      | true => have:=before X S (ha k Ev);rw[Mk]at this;cases this
     rw[hna]at ob2;simp only[Bool.false_eq_true,if_false]at ob2;have e:=(KL.aEL B hpl hg hg0 hg1 st st2 [o] k [x] ob2).1;unfold Bh at H;rw[Mk]at H;simp only[Bool.false_eq_true,if_false]at H;have e:=e L V w Y X S H;have Ji:upd L k y=false:=by simp[upd,Ne.symm hky,Mk]
     have key:∀v w',Oe C R N t z (upd L k) (cK V k v) w'->Bh C R N t z y ag (upd L k) (cK V k v) w':=by intro v w' h9;unfold Bh;rw[Ji];simpa using h9
     by_cases hw:dC V o.guard=aA
     ·rw[bT hw]at e⊢;exact lO.imp key e
     ·rw[bO hw]at e⊢;exact key _ _ e
theorem ar2{id ops H w} z y L O C A B Le M l t
 n (hn:H.tmps.size=n) (hm:P.follows .mixedOrders=aA) (hok:rL ops n=aA) (R:tk ops t=aA) (T:L.contains z=aA) (hzy:z≠y) (hy:y<ops.size)
 (aEM:L.all (λk=>sR t k (Q t) y)=aA) (aEN:O.all (λk=>sR t y (Q t) k)=aA)
 (hg:∀W W',C W->aN (Z (D W)) W W'->C W') (hg0:∀W W',A W->aN (Z (D W)) W W'->A W') (hg1:∀W W',B W->aN (Z (D W)) W W'->B W') (hC:C w.drew) (hD:A w.drew)
 (st:∀f∈l,∀v w w',f v w->aN (Z (D w)) w w'->f v w') (st2:∀x∈l.zipIdx,(x.2==z||sR t z (Q t) x.2)=aA∨∀v w w',x.1 v w->Le w w'->x.1 v w')
 (Y:KO P H C A B Le M (tab l) z y L O 0 ops.toList t)
 (fin:∀(V:Nat->aQ) (w:aP),M (λj=>decide (j<ops.size)) V w->aR .normal (iu V ops.toList 0 H) w) :
 (Code.region id ops aA).wp P aR H w:=by
 have X:∀j,j≠z->sR t z (Q t) j=az->∀v w w',tab l j v w->Le w w'->tab l j v w':=by
  intro j hjz hf v w w' N hm
  unfold tab at *
  cases hj:l[j]? with
  | none=>simp[List.getD_eq_getElem?_getD,hj]
  | some f =>
   simp only[List.getD_eq_getElem?_getD,hj,Option.getD_some]at N⊢;rcases st2 (f,j) (List.mem_zipIdx_iff_getElem?.2 hj)with S|S
   ·grind
   ·exact S v w w' N hm
 refine QM (Bh C A B l z y M) n hn hm hok ?_ (agc t R (KO.toP t R (λk hk=>List.all_eq_true.1 aEM k hk) (λk hk=>List.all_eq_true.1 aEN k hk) (by simpa using T) hzy hg hg0 hg1 st X _ _ _ (λi=>bq) (λi=>bq) Y)) λV w h=>fin V w ?_
 ·unfold Bh;simp only[Bool.false_eq_true,if_false];exact⟨hC,ic,λ_ h=>sH⟩
 ·unfold Bh at h;simpa [hy]using h
end
def RW(gw g:Nat)(n:Int)(l:List UInt8)(wr j:Bool)(W:aP):Prop:=bn W gw 320 #[aj (I ⟨g,0,U⟩),G J n,ar j]/\Rd W g l wr/\g<gw
abbrev XW(gw g:Nat):Nat->Prop:=λk=>k=g∨k=gw
section
variable {gw g:Nat} {n:Int} {l l':List UInt8} {wr bd wr' Ml:Bool} {W W':aP} {X:Nat->Prop}
theorem RW.st(h:RW gw g n l wr bd W)(k:K W W'):RW gw g n l wr bd W':=⟨h.1.bF k,h.2.1.bF k,h.2.2⟩
theorem RW.lt(h:RW gw g n l wr bd W):gw<Z (D W):=h.1.lt
theorem bf.went(H:pU g l' wr' W W')(j:X g):bf X W W':=bf.gy H.2 (by rintro k e;cases e;exact j)
theorem RW.went(h:RW gw g n l wr bd W)(H:pU g l' wr' W W'):RW gw g n l' wr' bd W':=⟨h.1.went H (by have:=h.2.2;omega),H.1,h.2.2⟩
theorem RW.bad(h:RW gw g n l wr bd W):RW gw g n l wr aA (aV W ⟨gw,2,U⟩ (ar aA)) :=
 ⟨h.1.cz 2 _,h.2.1.set h.2.2 2 _,h.2.2⟩
theorem RW.far(h:RW gw g n l wr bd W){b}(hb:gw<b) i u:RW gw g n l wr bd (aV W ⟨b,i,U⟩ u) :=
 ⟨h.1.far cG u,h.2.1.set (by have:=h.2.2;omega) i u,h.2.2⟩
end
theorem JW gw g n l wr t(j:Nat) w(h:RW gw g n l wr t w)(_:j<18446744073709551616) :
 aK prog 240 #[aj (I ⟨gw,0,U⟩),G E j] w λe w' =>
  e=ak (G E ((nA j l wr t).1:Int))/\RW gw g n (nA j l wr t).2.1 (nA j l wr t).2.2.1 (nA j l wr t).2.2.2 w'/\bf (XW gw g) w w':=by
 have C:=aY (vC g l wr w h.2.1)
 unfold nA
 generalize bE l wr=a at *
 obtain⟨x,O,N⟩:=a
 simp only at C⊢
 have q:=h.1.cell
 by_cases H:x<j
 ·have L:¬(j:Int)<=x:=aZ;rw[bT H];simp only;go_in;go_wp2_with fail
  apply bN C.aX;intro M A;have y:=h.went A;have B:=bf.went (X:=XW gw g) A (aI rfl);go_wp2;go_ret;exact⟨rfl,y,B⟩
 ·have L:(j:Int)<=x:=aZ;rw[bO H];simp only;go_in;go_wp2_with fail
  apply bN C.aX;intro M A;have y:=h.went A;have B:=bf.went (X:=XW gw g) A (aI rfl);have q:=y.1.cell;have z:=y.1.frozen;go_wp2;go_ret;exact⟨rfl,y.bad,B.tr (bf.dc (X:=XW gw g) (aJ rfl) 2 _)⟩
theorem aeD gw g n l wr t w(h:RW gw g n l wr t w) :
 aK prog 246 #[aj (I ⟨gw,0,U⟩)] w λe w' =>
  e=ak (av (dZ (jX l wr t).1))/\RW gw g n (jX l wr t).2.1 (jX l wr t).2.2.1 (jX l wr t).2.2.2 w'/\bf (XW gw g) w w':=by
 have A:=λW hW=>JW gw g n l wr t 16 W hW aZ
 have hlt:=CG 16 aZ l wr t
 unfold jX Gb nO ET
 generalize nA 16 l wr t=a at *
 obtain⟨x,l1,gK,il⟩:=a
 simp only at A hlt⊢
 have M:=vC g l1 gK
 generalize bE l1 gK=a at *
 obtain⟨y,l2,wr2⟩:=a
 simp only at M⊢
 have L:=vC g l2 wr2
 generalize bE l2 wr2=a at *
 obtain⟨z,l3,E3⟩:=a
 simp only at L⊢
 rw[show ((16:Nat):Int)=16 from rfl]at A
 replace A:=aY A
 replace M:=aY M
 replace L:=aY L
 have:J.wrap (x:Int)=x:=EA
 have fH:=bn.new w 42 #[G J 0,G E 0,G E 0]
 have h0:=h.st ((K.rf w).al (aq #[G J 0,G E 0,G E 0] 42))
 have u0:=bf.al (XW gw g) w (aq #[G J 0,G E 0,G E 0] 42)
 have Y:=h.lt
 have:=h.2.2
 go_in
 go_wp2_with fail
 generalize w.alloc _=w1 at *
 apply bN (A.aX w1 h0)
 rintro B⟨h2,S⟩
 have:=fH.lt
 have cZ:=fH.cA S aZ
 have u02:=u0.tr S
 have:=S.size
 have iH:=bn.new B 42 #[G J x,G E 0,G E 0]
 have fP:=cZ.alloc (aq #[G J x,G E 0,G E 0] 42)
 have N:=h2.st ((K.rf B).al (aq #[G J x,G E 0,G E 0] 42))
 have u03:=u02.tr (bf.al (XW gw g) B (aq #[G J x,G E 0,G E 0] 42))
 go_upto_region 2 with fail
 generalize B.alloc _=w3 at *
 generalize Z (D B)=j at *
 have q:=N.1.cell
 go_wp2_with fail
 apply bN (M.aX w3 N.2.1)
 intro w4 H
 have h4:=N.went H
 have gF:=fP.went H aZ
 have O:=iH.went H aZ
 have u04:=u03.tr (bf.went (X:=XW gw g) H (aI rfl))
 have q:=O.cell
 have z1:=O.frozen
 go_upto_region 3 with fail
 have gh:bn (aV w4 ⟨j,1,U⟩ (G E y)) j 42 #[G J x,G E y,G E 0]:=O.cz 1 _
 have V:=h4.far (b:=j) aZ 1 (G E y)
 have j0:=gF.far (p:=⟨j,1,U⟩) cG (G E y)
 have u05:=u04.fresh (b:=j) aZ 1 (G E y)
 generalize w4.setCell _ _=w5 at *
 have q:=V.1.cell
 go_wp2_with fail
 apply bN (L.aX w5 V.2.1)
 intro w6 C
 have h6:=V.went C
 have rq:=j0.went C aZ
 have T:=gh.went C aZ
 have u06:=u05.tr (bf.went (X:=XW gw g) C (aI rfl))
 have q:=T.cell
 have z1:=T.frozen
 go_upto_region 4 with fail
 have sg:bn (aV w6 ⟨j,2,U⟩ (G E z)) j 42 #[G J x,G E y,G E z]:=T.cz 2 _
 have h7:=h6.far (b:=j) aZ 2 (G E z)
 have R:=rq.far (p:=⟨j,2,U⟩) cG (G E z)
 have u07:=u06.fresh (b:=j) aZ 2 (G E z)
 generalize w6.setCell _ _=w7 at *
 have q:=sg.cell
 have:=R.cell
 have z1:=R.frozen
 go_wp2
 have eV:=((R.cz 0 (G J x)).cz 1 (G E y)).cz 2 (G E z)
 have h9:=((h7.far (b:=Z (D w)) Y 0 (G J x)).far (b:=Z (D w)) Y 1 (G E y)).far (b:=Z (D w)) Y 2 (G E z)
 have u09:=((u07.fresh (b:=Z (D w)) (bL _) 0 (G J x)).fresh (b:=Z (D w)) (bL _) 1 (G E y)).fresh (b:=Z (D w)) (bL _) 2 (G E z)
 have e9:=eV.cell
 refine aM (v:=av #[G J x,G E y,G E z]) (by simp[results,results246,go_sem,e9]) rfl ?_
 exact⟨rfl,h9,u09⟩
theorem ar3 gw g n l wr A w(h:RW gw g n l wr A w) :
 aK prog 242 #[aj (I ⟨gw,0,U⟩)] w λe w' =>
  e=ak (av (jn (pC l wr A).1))/\RW gw g n (pC l wr A).2.1 (pC l wr A).2.2.1 (pC l wr A).2.2.2 w'/\bf (XW gw g) w w':=by
 have C:=λW X=>aeD gw g n l wr A W X
 unfold pC Gb nO
 generalize jX l wr A=a at *
 obtain⟨x,Y,S,V⟩:=a
 simp only at C⊢
 have B:=λW X=>JW gw g n Y S V 2 W X aZ
 have hlt:=CG 2 aZ Y S V
 generalize nA 2 Y S V=a at *
 obtain⟨y,l2,wr2,bd2⟩:=a
 simp only at B hlt⊢
 rw[show ((2:Nat):Int)=2 from rfl]at B
 replace C:=aY C
 replace B:=aY B
 obtain⟨b,hb⟩:∃b:Bool,b=decide (y=1):=⟨_,rfl⟩
 have:((y:Int)==1)=b:=by rw[hb,Bool.eq_iff_iff];simp;omega
 rw[<- hb]
 clear hb
 have fH:=bn.new w 300 #[G J 0,G E 0,G E 0,ar az]
 have h0:=h.st ((K.rf w).al (aq #[G J 0,G E 0,G E 0,ar az] 300))
 have u0:=bf.al (XW gw g) w (aq #[G J 0,G E 0,G E 0,ar az] 300)
 have O:=h.lt
 have:=h.2.2
 clear h
 obtain⟨j,z,t⟩:=x
 go_in
 go_wp2_with fail
 generalize w.alloc _=w1 at *
 apply bN (C.aX w1 h0)
 rintro L⟨h2,N⟩
 have:=fH.lt
 have cZ:=fH.cA N aZ
 have u02:=u0.tr N
 have:=N.size
 have iH:=bn.new L 300 #[G J j,G E z,G E t,ar az]
 have fP:=cZ.alloc (aq #[G J j,G E z,G E t,ar az] 300)
 have h3:=h2.st ((K.rf L).al (aq #[G J j,G E z,G E t,ar az] 300))
 have u03:=u02.tr (bf.al (XW gw g) L (aq #[G J j,G E z,G E t,ar az] 300))
 clear h0 fH u0 cZ h2 N u02 C
 go_upto_region 2 with fail
 generalize L.alloc _=w3 at *
 generalize Z (D L)=H at *
 go_wp2_with fail
 apply bN (B.aX w3 h3)
 rintro w4⟨h4,R⟩
 have gF:=fP.cA R aZ
 have M:=iH.cA R aZ
 have u04:=u03.tr R
 clear h3 fP iH u03 R B
 have q:=M.cell
 have z1:=M.frozen
 go_upto_region 3 with fail
 have gh:bn (aV w4 ⟨H,3,U⟩ (ar b)) H 300 #[G J j,G E z,G E t,ar b]:=M.cz 3 _
 have h5:=h4.far (b:=H) aZ 3 (ar b)
 have T:=gF.far (p:=⟨H,3,U⟩) cG (ar b)
 have u05:=u04.fresh (b:=H) aZ 3 (ar b)
 clear q z1 M h4 gF u04
 generalize w4.setCell _ _=w5 at *
 have q:=gh.cell
 have:=T.cell
 have z1:=T.frozen
 go_wp2
 have eV:=(((T.cz 0 (G J j)).cz 1 (G E z)).cz 2 (G E t)).cz 3 (ar b)
 have h9:=(((h5.far (b:=Z (D w)) O 0 (G J j)).far (b:=Z (D w)) O 1 (G E z)).far (b:=Z (D w)) O 2 (G E t)).far (b:=Z (D w)) O 3 (ar b)
 have u09:=(((u05.fresh (b:=Z (D w)) (bL _) 0 (G J j)).fresh (b:=Z (D w)) (bL _) 1 (G E z)).fresh (b:=Z (D w)) (bL _) 2 (G E t)).fresh (b:=Z (D w)) (bL _) 3 (ar b)
 have e9:=eV.cell
 refine aM (v:=av #[G J j,G E z,G E t,ar b]) (by simp[results,results242,go_sem,e9]) rfl ?_
 exact⟨rfl,h9,u09⟩
theorem Xy{W W' b T C A n xs}(z:Reads W (Z (D W)) C A n xs)(hb:bn W b T gE)(H:xs=[]∨∃u∈xs,u∉gE.toList)
 (L:Z (D W)<=Z (D W')) (hk:∀k,k<Z (D W)->k≠b->W'.heap[k]?=W.heap[k]?):Reads W' (Z (D W')) C A n xs:=by
 refine⟨z.1,λM=>?_⟩
 obtain⟨g,y,e,hg,B⟩:=z.2 M
 have P:g≠b:=by
  rintro rfl;rcases H with rfl|⟨u,N,hn⟩
  ·grind
  ·obtain⟨j,t⟩:=List.mem_iff_getElem?.1 N;have O:=B j u t;rw[hb.cell]at O;grind
 refine⟨g,y,e,cQ hg L,λj u t=>?_⟩
 rw[World.cell?_of_block (w:=W) (w':=W') (a:=⟨g,y+j,U⟩) (hk g hg P)]
 exact B j u t
theorem aBA(l:List dW):l.flatMap lV=[]∨∃u∈l.flatMap lV,u∉gE.toList:=alI
theorem aBB(l:List eT):l.flatMap gT=[]∨∃u∈l.flatMap gT,u∉gE.toList:=alI
theorem aBC{W W' b T x v}(h:fc x v W)(S:∀e∈x.es,e≠[])(hb:bn W b T gE)
 (t:Z (D W)<=Z (D W')) (hk:∀k,k<Z (D W)->k≠b->W'.heap[k]?=W.heap[k]?):fc x v W':=by
 obtain⟨vf,ve,rfl,⟨A,c,rfl,H⟩,O,d,rfl,⟨css,j,M⟩,N⟩:=h
 refine⟨_,_,rfl,⟨A,c,rfl,Xy H hb (aBB _) t hk⟩,O,d,rfl,⟨css,⟨j.1,λi L R=>?_⟩,Xy M hb ?_ t hk⟩,N⟩
 ·obtain⟨v,e,y,c1,rfl,C⟩:=j.2 i L R;exact⟨_,e,y,c1,rfl,Xy C hb (aBA _) t hk⟩
 ·cases hes:x.es with
  | nil => refine aI (List.eq_nil_of_length_eq_zero ?_);rw[j.Gf,hes];rfl
  | cons V es =>
   have z:0<Q x.es:=bG;have B:0<Q css:=by rw[j.1];exact z
   obtain⟨v,e,y,c1,rfl,C⟩:=j.2 0 z B;refine aJ ⟨F y (Q x.es[0]) c1,List.mem_flatten.2 ⟨css[0],dG B,bG⟩,?_⟩;simp_all
theorem ayc b:∀e∈(nM b).es,e≠[]:=by
 unfold nM
 cases hd:jP b with
 | none=>simp[fo]
 | some x =>
  intro e j
  obtain⟨-,-,hk⟩:=FD (WY hd).2
  grind [nM,iC]
def BH(gb:Nat)(x:bW)(u:aQ)(W:aP):Prop:=∀W',bf (λk=>k<gb) W W'->fc x u W'
theorem alJ gb x:∀v w w',BH gb x v w->aN (Z (D w)) w w'->BH gb x v w':=by rintro v w w' h k;exact λW' u=>h W' ((bf.bS k _).tr u)
def Ui(gb:Nat)(x:bW)(c:Int)(v:aQ)(W:aP):Prop:=∃u,v=au #[u,G J c]/\BH gb x u W
theorem aBD gb x c:∀v w w',Ui gb x c v w->aN (Z (D w)) w w'->Ui gb x c v w':=by rintro v w w'⟨u,e,h⟩ k;exact⟨u,e,alJ _ _ _ _ _ h k⟩
def OT(gb:Nat)(T:TypeId)(v:aQ)(W:aP):Prop:=∃b,v=aj (I ⟨b,0,U⟩)/\gb<=b/\bn W b T gE
theorem aBE gb T:∀v w w',OT gb T v w->aN (Z (D w)) w w'->OT gb T v w':=by rintro v w w'⟨b,e,t,j⟩ k;exact⟨b,e,t,j.bF k⟩
theorem az7{gb g T}(hg:g<gb):∀v w w',OT gb T v w->w.grownBy w' (I g)->OT gb T v w':=by rintro v w w'⟨b,e,t,j⟩ k;exact⟨b,e,t,j.grown k bG⟩
theorem ahC{gb x u w w' b T}(h:BH gb x u w)(C:∀e∈x.es,e≠[])(hb:bn w b T gE)(hg:w.grownBy w' (I b)):BH gb x u w':=by
 intro j up;obtain⟨W3,y⟩:∃W3:aP,W3={ j with heap:=j.heap.setIfInBounds b (aq gE T (0,0)) }:=⟨_,rfl⟩;have:=cQ hb.lt (cI hg.size up.size);have z:bn W3 b T gE:=by grind [bn]
 have A:∀k,k≠b->W3.heap[k]?=j.heap[k]?:=by
  grind
 have L:Z (D W3)=Z (D j):=bG;have H:bf (λk=>k<gb) w W3:=by
  refine⟨?_,?_,?_,by rw[L];exact cI hg.size up.size,λk hk B=>?_⟩
  ·rw[y];exact up.os.trans hg.os
  ·rw[y];exact up.tape.trans hg.tape
  ·rw[y];exact up.output.trans hg.output
  ·by_cases t:k=b
   ·subst t;exact z.trans hb.symm
   ·rw[A k t,up.block k (cQ hk hg.size) B];exact hg.block k hk bG
 exact aBC (h W3 H) C z aZ (λk _ t=>(A k t).symm)
theorem auX{P ρ w} s x T ty t g o cur cells(hs:ρ s=aj (I ⟨g,o,U⟩))(hx:ρ x=av cells)(hb:bn w g t cur)
 (j:(P.info? T).map (·.size)=I cells.size) (A:o+cells.size<=cur.size) (z:∀u∈cells.toList,u.oneCell'=aA) :
 ∃w',(aL ρ (bR (.store T s x) ty)).run P w=.ok .skip w'/\bn w' g t (cur.toList.take o++cells.toList++cur.toList.drop (o+cells.size)).toArray/\w.grownBy w' (I g):=by
 have hst:=run_storeCells_at P g o t cells.toList 0 cur w hb aZ z
 simp only[Nat.add_zero,Array.length_toList]at hst
 refine⟨_,?_,setRow_heap w g cur _ t _ hb,⟨rfl,rfl,rfl,bq,λk hk y=>setRow_other w g k _ (λe=>y FO)⟩⟩
 cases hq:P.info? T with
 | none=>simp[hq]at j
 | some i => exact akb
theorem arT gw g n l wr t w(h:RW gw g n l wr t w)(hl:Q l<=1000000000)(hn0:0<=n)(fF:n<=1000000000) :
 aK prog 244 #[aj (I ⟨gw,0,U⟩)] w λe w' =>
  ∃v,e=ak v/\BH (Z (D w)) (kN n l wr t).1 v w'/\RW gw g n (kN n l wr t).2.1 (kN n l wr t).2.2.1 (kN n l wr t).2.2.2 w'/\bf (XW gw g) w w':=by
 have C1:=λW (hW:Rd W g l wr)=>MY g l wr n W hW hl aZ aZ
 have Mm:=J9 n l wr
 unfold kN
 generalize bY n l wr=a at *
 obtain⟨bs,l1,gK⟩:=a
 simp only at C1 Mm⊢
 have hne:=ayc bs
 have C2:=λW v (hv:sl bs v W)=>Wv bs v W hv aZ
 obtain⟨j,Iu⟩:∃j,j=AX bs:=⟨_,rfl⟩
 obtain⟨x,R⟩:∃x,x=nM bs:=⟨_,rfl⟩
 have HC:Hid (j=0/\(t||(jP bs).isNone)=t∨j=110/\(t||(jP bs).isNone)=aA):=aY (by
  rw[Iu];unfold AX;cases jP bs <;> simp)
 simp only[<- Iu,<- R]at C2 hne⊢
 clear Iu R
 generalize (t||(jP bs).isNone)=bd9 at *
 have C1:=aY C1
 have C2:=aY C2
 have HN:=aY hne
 clear hne
 have fH:=bn.new w 128 gE
 have h0:=h.st ((K.rf w).al (aq gE 128))
 have u0:=bf.al (XW gw g) w (aq gE 128)
 have gL:=h.lt
 have hgg:=h.2.2
 clear h
 go_in
 go_upto_region 1 with fail
 generalize w.alloc _=w1 at *
 obtain⟨gb,hgb⟩:∃gb,gb=Z (D w1):=⟨_,rfl⟩
 have Pb:Z (D w)<gb:=by rw[hgb];exact fH.lt
 obtain⟨C,S⟩:∃C:aP->Prop,C=λW=>bf (XW gw g) w W/\gb<=Z (D W)/\bn W (Z (D w)) 128 gE/\bn W gw 320 #[aj (I ⟨g,0,U⟩),G J n,ar t]:=⟨_,rfl⟩
 have hg:∀W W',C W->aN (Z (D W)) W W'->C W':=by subst S;rintro W W'⟨A,h2,h3,h4⟩ hb;exact⟨A.tr (bf.bS hb _),cI h2 hb.size,h3.bF hb,h4.bF hb⟩
 have hc0:C w1:=by rw[S];exact⟨u0,by omega,fH,h0.1⟩
 obtain⟨ag,hF⟩:∃ag:(Nat->Bool)->(Nat->aQ)->aP->Prop,ag=λL V W=>C W/\RW gw g n l1 gK t W/\(∃u,V 10=au #[u,G J j])/\(L 12=aA->V 12=G J j)/\(L 15=aA->V 15=G J j) /\
  ∃b vf ve,V 13=aj (I ⟨b,0,U⟩)/\gb<=b/\bn W b 128 (bQ x vf ve)/\BH gb x (av (bQ x vf ve)) W:=⟨_,rfl⟩
 refine ar2 8 14 [0,1,2,3,4,5,6,7,8,9,10,11,13] [15] C (λW=>RW gw g n l wr t W) (λW=>RW gw g n l1 gK t W) (λW W'=>W.grownBy W' (I g)) ag [bM (aj (I ⟨gw,0,U⟩)),
  bM (aj (I ⟨gw,0,U⟩)),
  bM (aj (I ⟨gw,0,U⟩)),
  bM (aj (I ⟨g,0,U⟩)),
  bM (aj (I ⟨gw,0,U⟩)),
  bM (aj (I ⟨gw,0,U⟩)),
  bM (aj (I ⟨gw,1,U⟩)),
  bM (G J n),
  sl bs,
  Ui gb x j,
  Ui gb x j,
  BH gb x,
  bM (G J j),
  OT gb 128,
  TQ,
  bM (G J j)]
  [([],[]),([0],[(6,0)]),([1],[(7,1)]),([2],[(8,2)]),([],[]),([4],[(10,4)]),([5],[(11,5)]),([6],[(12,6)]),([3,7],[(9,3),(13,7)]),([8],[(14,8)]),([9],[(15,9)]),([10],[(5,10)]),([10],[(5,10)]),([],[]),([10,13,11],[(3,13),(16,11)]),([12,14],[(17,12)])] 24 rfl cY cY cY bC bC bC cY cY hg (λW W' h k=>h.st k) (λW W' h k=>h.st k) alK (h0.st (Below.drew (ed _ _))) ?st ?st2 ?ow ?_
 case st =>
  simp only[dE]
  and_intros
  all_goals first|exact am3 _|exact aAJ|exact pQ _|exact aBD _ _ _|exact alJ _ _|exact aBE _ _|simp
 case st2 =>
  simp only[List.zipIdx_cons,List.zipIdx_nil,dE,ng,Nat.reduceAdd]
  and_intros
  all_goals first|exact aI rfl|exact aJ (λ_ _ _ h _=>h)|exact aJ (az7 aZ)|simp
 case ow =>
  simp only[KO,KL,List.contains_cons,List.contains_nil,Nat.reduceBEq,Bool.or_false,Bool.or_true,Bool.false_eq_true,if_true,if_false,Nat.reduceEqDiff,Nat.reduceAdd,and_true,true_and]
  and_intros
  all_goals try trivial
  all_goals
   first
   | (intro V w' z hp
      rw[S]at z
      obtain⟨B,K4,M,fw⟩:=z
      have q:=fw.cell
      try simp only[dE,dA,dB,bM]at hp
      try (simp[dC,bP,aC,hp,dA,dB,eH,aL,bR,bM,undef,ed,q,go_sem];done))
   | skip
  ·have hD:=hp;intro hp2;simp only[dE,dA,dB,bM]at hp2;simp[bP,aC,hp2,dA,dB,TP,aL,bR,go_sem];refine (C1.aX w' hD.2.1).mono ?_;rintro e w2⟨v,rfl,p8,hw⟩;refine⟨v,rfl,p8,?_,hD.went hw,hw.2⟩;rw[S];exact⟨B.tr (bf.went hw (aI rfl)),cI K4 hw.2.size,M.went hw aZ,fw.went hw aZ⟩
  ·simp[dC,bP,aC,dA,dB,eH,aL,bR,go_sem];refine (C2.aX w' (V 8) hp.1).mono ?_;rintro e w2⟨v,rfl,T,k⟩;exact⟨_,rfl,⟨v,rfl,λW' u=>T W' (u.uE (λk A _ _ R=>aZ))⟩,k⟩
  ·obtain⟨⟨u,e9,A⟩,-⟩:=hp;simp[e9,dC,bP,aC,dA,dB,eH,aL,bR,go_sem];exact⟨A,ed _ _⟩
  ·intro L V w' s5 hal Ql;rw[hF]at Ql⊢;obtain⟨z,H,⟨u,e9⟩,-,JD,hrest⟩:=Ql;generalize hA:bP [(5,10)] _ V=N;have e5:N (.tmp 5)=au #[u,G J j]:=by rw[<- hA];exact e9
   have hrun:(aL N (bR (.extract (.tmp 5) 1) 29)).run prog w'=.ok (.value (G J j)) w':=by simp[e5,aL,bR,go_sem]
   rw[hrun];refine⟨z,H,⟨u,ic⟩,λ_=>cY,λh=>?_,?_⟩
   ·have:=JD ic;simpa [cK]using this
   ·assumption
  ·obtain⟨⟨u,e9,A⟩,-⟩:=hp;simp[e9,dC,bP,aC,dA,dB,eH,aL,bR,bM,ed,go_sem]
  ·simp[dC,dA,dB,eH,aL,bR,go_sem];exact⟨⟨Z (D w'),rfl,K4,bn.new _ _ _⟩,(K.rf w').al _⟩
  ·intro L V w' hal z H hp;have hd':=H;have f10:=hp 10 (hal 10 bq);have f11:=hp 11 (hal 11 bq);have f13:=hp 13 (hal 13 bq);have f12:=hp 12;have f15:=hp 15;simp only[dA,dB,bM]at f10 f11 f13 f12 f15;obtain⟨u10,iV,-⟩:=f10;obtain⟨b,Fh,rh,hblk⟩:=f13;obtain⟨vf,ve,tV,hf,T⟩:=f11 w' (bf.rf _ _);rw[tV]at f11;generalize hA:bP [(3,13),(16,11)] _ V=N;have es4:N (.tmp 3)=aj (I ⟨b,0,U⟩):=by rw[<- hA];exact Fh
   have ex4:N (.tmp 16)=av (bQ x vf ve):=by rw[<- hA];exact tV
   obtain⟨w'',hrun,hb2,y⟩:=auX (P:=prog) (ρ:=N) (.tmp 3) (.tmp 16) 128 0 128 b 0 gE (bQ x vf ve) es4 ex4 hblk cY bq (cF.one (x:=x) (w:=w') ⟨vf,ve,rfl,hf,T⟩);rw[hrun];rw[S]at z;obtain⟨B,K4,M,fw⟩:=z;have O:aN gb w' w'':=⟨y.os,y.tape,y.output,y.size,λi hi=>y.block i (cQ hi K4) bG⟩;show ag _ _ w'';rw[hF];refine⟨?_,⟨hd'.1.below O aZ,hd'.2.1.below O aZ,hd'.2.2⟩,⟨u10,ic⟩,λh=>?_,λh=>?_,b,vf,ve,ic,rh,hb2,ahC f11 HN.aX hblk y⟩
   ·rw[S];exact⟨⟨y.os.trans B.os,y.tape.trans B.tape,y.output.trans B.output,cI B.size y.size,λk hk R=>(O.block k aZ).trans (B.block k hk R)⟩,cI K4 y.size,M.below O aZ,fw.below O aZ⟩
   ·have:=f12 ic;simpa [cK]using this
   ·have:=f15 ic;simpa [cK]using this
  ·intro L V w' s5 hal Ql;rw[hF]at Ql⊢;obtain⟨z,H,T,h12,-,hrest⟩:=Ql;have zY:=h12 (hal 12 bq);generalize hA:bP [(17,12)] _ V=N;have e5:N (.tmp 17)=G J j:=by rw[<- hA];exact zY
   have hrun:(aL N (bR (.assign (.tmp 17)) 29)).run prog w'=.ok (.value (G J j)) w':=by simp[e5,aL,bR,go_sem]
   rw[hrun];refine⟨z,H,ic,λ_=>ic,λ_=>cY,ic⟩
 intro V W Qj
 rw[hF]at Qj
 obtain⟨z,H,-,-,JD,b,vf,ve,Fh,rh,hblk,Gp⟩:=Qj
 have uT:=JD bC
 rw[S]at z
 obtain⟨B,K4,M,-⟩:=z
 obtain⟨mh,Gy,e9,hf,T⟩:=Gp W (bf.rf _ _)
 obtain⟨rfl,rfl⟩:vf=mh/\ve=Gy:=by
  grind
 obtain⟨A9,c9,rfl⟩:=dK hf
 obtain⟨D9,d9,rfl⟩:=bD T
 have mV:=aY Gp
 clear hF S hg hc0 Gp hf T e9 JD h0 u0 fH C1 C2
 simp only[iu,Act.put,ue,tC,tB,Fh,uT]
 have aJL:Z (D w)<b:=aZ
 have fin:∀(W1:aP) (il:Bool),bf (XW gw g) w W1->bn W1 (Z (D w)) 128 gE->RW gw g n l1 gK il W1->BH (Z (D w)) x (av (bQ x (F A9 (Q x.f) c9) (F D9 (Q x.es) d9))) W1 ->
  ∃Y,Y=dL W1 (Z (D w)) 0 (bQ x (F A9 (Q x.f) c9) (F D9 (Q x.es) d9)).toList/\bn Y (Z (D w)) 128 (bQ x (F A9 (Q x.f) c9) (F D9 (Q x.es) d9))/\BH (Z (D w)) x (av (bQ x (F A9 (Q x.f) c9) (F D9 (Q x.es) d9))) Y/\RW gw g n l1 gK il Y/\bf (XW gw g) w Y:=by
  intro W1 il A h2 h3 h4
  have us:=bf.sets (X:=λk=>k=Z (D w)) (g:=Z (D w)) rfl (bQ x (F A9 (Q x.f) c9) (F D9 (Q x.es) d9)).toList 0 W1
  have eV:=(((((((h2.cz 0 (G J x.kind)).cz 1 (G J x.br)).cz 2 (G E x.life)).cz 3 (G E x.dN)).cz 4 (G J x.cl)).cz 5 (G E x.sub)).cz 6 (F A9 (Q x.f) c9)).cz 7 (F D9 (Q x.es) d9)
  have y:W1.grownBy (dL W1 (Z (D w)) 0 (bQ x (F A9 (Q x.f) c9) (F D9 (Q x.es) d9)).toList) (I (Z (D w))):=⟨us.os,us.tape,us.output,us.size,λk hk hne=>us.block k hk bG⟩
  have O:aN (Z (D w)) W1 (dL W1 (Z (D w)) 0 (bQ x (F A9 (Q x.f) c9) (F D9 (Q x.es) d9)).toList):=⟨us.os,us.tape,us.output,us.size,λk hk=>us.block k (Nat.lt_trans hk h2.lt) aZ⟩
  exact⟨_,rfl,eV,ahC h4 HN.aX h2 y,⟨h3.1.below O gL,h3.2.1.below O aZ,h3.2.2⟩,⟨us.os.trans A.os,us.tape.trans A.tape,us.output.trans A.output,cI A.size us.size,λk hk R=>(O.block k hk).trans (A.block k hk R)⟩⟩
 have aoz:=aY fin
 have anB:BH (Z (D w)) x (av (bQ x (F A9 (Q x.f) c9) (F D9 (Q x.es) d9))) W:=λW' up=>mV.aX W' ⟨up.os,up.tape,up.output,up.size,λk hk R=>up.block k hk aZ⟩
 clear fin mV
 rcases HC.aX with ⟨rfl,rfl⟩|⟨rfl,rfl⟩
 ·have q:=hblk.cell;have y1:=M.cell;have z1:=M.frozen;obtain⟨Y,LS,cN,DP,zK,Mn⟩:=aoz.aX W bd9 B M H anB;exact alL
 ·have q:=hblk.cell;have y1:=M.cell;have z1:=M.frozen;have q2:=H.1.cell;have z2:=H.1.frozen;have ub:=bf.dc (W:=W) (X:=λk=>k<Z (D w)) (b:=gw) gL 2 (ar aA);obtain⟨Y,LS,cN,DP,zK,Mn⟩:=aoz.aX (aV W ⟨gw,2,U⟩ (ar aA)) aA (B.tr (bf.dc (X:=XW gw g) (aJ rfl) 2 _)) (M.far (p:=⟨gw,2,U⟩) cG _) H.bad (λW' up=>anB W' (ub.tr up));exact alL
theorem aCN:(prog.info? 300).map (λi=>(i.zero,i.size,i.bytes))=I (I (av #[G J 0,G E 0,G E 0,ar az]),4,32):=by rfl
theorem aDw:ir prog 237 300 (av #[G J 0,G E 0,G E 0,ar az]) 4 32:=⟨underlying237,aCN,rfl,bC⟩
theorem aBF:(prog.info? 42).map (λi=>(i.zero,i.size,i.bytes))=I (I (av #[G J 0,G E 0,G E 0]),3,24):=by rfl
theorem TID:ir prog 53 42 (av #[G J 0,G E 0,G E 0]) 3 24:=⟨underlying53,aBF,rfl,bC⟩
theorem az8:(prog.info? 128).map (λi=>(i.zero,i.size,i.bytes))=I (I (av gE),8,96):=by rfl
theorem aCO:ir prog 59 128 (av gE) 8 96:=⟨underlying59,az8,rfl,bC⟩
def pZ{α:Type}(S:fE α)(gb:Nat)(l:List α)(v:aQ)(W:aP):Prop:=∀W',bf (λk=>k<gb) W W'->bw S l v W'
theorem ar4 gw g n l t y w(h:RW gw g n l t y w)(_:Q l<=1000000000)(_:0<=n)(_:n<=1000000000) :
 aK prog 241 #[aj (I ⟨gw,0,U⟩),.func (Fn.func 242) #[] #[]] w λe w' =>
  ∃v,e=ak v/\pZ qj (Z (D w)) (jk pC l t y).1 v w'/\RW gw g n (jk pC l t y).2.1 (jk pC l t y).2.2.1 (jk pC l t y).2.2.2 w'/\bf (XW gw g) w w':=by
 have O:=JW gw g n l t y 17 w h aZ
 have hlt:=CG 17 aZ l t y
 have ll:=(AJ 17 aZ).len l t y
 unfold jk
 generalize nA 17 l t y=a at *
 obtain⟨M,B,z,A⟩:=a
 simp only at O hlt ll⊢
 rw[show ((17:Nat):Int)=17 from rfl]at O
 have O:=aY O
 have gL:=h.lt
 have hgg:=h.2.2
 have HQ:=aY (λk=>M9 Rf k B z A)
 clear h
 have HR:Hid (iY pC M B z A=iY pC M B z A):=aY rfl
 generalize G3:iY pC M B z A=R at HR⊢
 have gZ:=aY G3
 clear G3 HR
 go_in
 go_wp2_with fail
 apply bN O.aX
 rintro w1⟨S,Y⟩
 go_wp2_with fail
 go_loopw [5,8] (fun o i W=>∃j:Nat,j<=M/\i=G E j/\∃es H C L,Hid (iY pC j B z A=(es,H,C,L))/\RW gw g n H C L W/\Hid (cE (Z (D w)) (Z (D w)) 300 qj es o W)/\bf (XW gw g) w W) (fun _ i _=>M-(aO i).toNat)
 case atStart=>exact⟨0,aZ,rfl,[],B,z,A,aY rfl,S,aY (cE.nil _ _ _ _ _),Y⟩
 case round =>
  clear S Y;obtain⟨j,hj,rfl,es,H,C,L,HJ,Fe,HO,uj⟩:=hrel;have T:=HQ.aX j;rw[HJ.aX]at T;simp only at T;obtain⟨gX,om⟩:=T;have anC:Q es<=17:=aZ;clear om;have hzj:=uj.size;by_cases tJ:j<M
  ·have cd:(j:Int)<M:=aZ;have DJ:Hid (iY pC (j+1) B z A=(es++[(pC H C L).1],(pC H C L).2)):=aY ZV;go_wp2_with fail
   apply bN (ar3 gw g n H C L wr Fe);rintro N⟨IL,u4⟩;generalize hX:pC H C L=X at *;obtain⟨x,lk,Fv,Fw⟩:=X;simp only at IL;have Gx:Hid (iY pC (j+1) B z A=(es++[x],lk,Fv,Fw)):=aY ZW;have fq:=HO.aX.up (bL _) (u4.uE (lo:=Z (D w)) (row:=U) (λk S _ _ hx=>aZ));have lq:=u4.size;obtain⟨css,hown,hcl,oR⟩:=fq;have kA:=K.new N (aq (jn x) 300);have hbase:Z (D w)<=Z (D (aU N (aq (jn x) 300))):=NT;clear HO HJ DJ hX;go_wp2_with (at_builtin;refine j9 rfl _ _ 237 rfl (Z (D w)) 300 _ 4 32 aDw _ _ _ rfl (sK hown _) (Z (D N)+1) _ 1 1 (jn x).toList rfl ?c1 ?c2 ?c3 hbase ?_)
   case c1=>exact Reads.new N (jn x).toList 300 4 1 rfl
   case c2=>and_intros <;> rfl
   case c3=>omega
   intro v9 V jc dF fO cN;have r7:aN (Z (D w)) (aU N (aq (jn x) 300)) V:=cN;have abB:RW gw g n lk Fv Fw V:=ZX;have u9:bf (XW gw g) w V:=ZY;have DV:=aY (cE.snoc (cs:=(jn x).toList) hcl (λw' u=>oR w' (bV.tr (bV.bS kA _ _) u)) jc dF vE (λw' u=>rfl));exact ZZ
  ·have cd:¬(j:Int)<M:=aZ;obtain rfl:j=M:=aZ;have hR:=HJ.aX.symm.trans gZ.aX;obtain rfl:=hR;have HL:Hid (pZ qj (Z (D w)) es u5 wr):=aY λW' u=>(HO.aX.up (bL _) (u.uE (lo:=Z (D w)) (row:=U) (λk S _ _ hx=>aZ))).bw
   exact Z0
theorem aeE gw g n l t y w(h:RW gw g n l t y w)(_:Q l<=1000000000)(_:0<=n)(_:n<=1000000000) :
 aK prog 245 #[aj (I ⟨gw,0,U⟩),.func (Fn.func 246) #[] #[]] w λe w' =>
  ∃v,e=ak v/\pZ dJ (Z (D w)) (jk jX l t y).1 v w'/\RW gw g n (jk jX l t y).2.1 (jk jX l t y).2.2.1 (jk jX l t y).2.2.2 w'/\bf (XW gw g) w w':=by
 have O:=JW gw g n l t y 17 w h aZ
 have hlt:=CG 17 aZ l t y
 have ll:=(AJ 17 aZ).len l t y
 unfold jk
 generalize nA 17 l t y=a at *
 obtain⟨M,B,z,A⟩:=a
 simp only at O hlt ll⊢
 rw[show ((17:Nat):Int)=17 from rfl]at O
 have O:=aY O
 have gL:=h.lt
 have hgg:=h.2.2
 have HQ:=aY (λk=>M9 FC k B z A)
 clear h
 have HR:Hid (iY jX M B z A=iY jX M B z A):=aY rfl
 generalize G3:iY jX M B z A=R at HR⊢
 have gZ:=aY G3
 clear G3 HR
 go_in
 go_wp2_with fail
 apply bN O.aX
 rintro w1⟨S,Y⟩
 go_wp2_with fail
 go_loopw [5,8] (fun o i W=>∃j:Nat,j<=M/\i=G E j/\∃es H C L,Hid (iY jX j B z A=(es,H,C,L))/\RW gw g n H C L W/\Hid (cE (Z (D w)) (Z (D w)) 42 dJ es o W)/\bf (XW gw g) w W) (fun _ i _=>M-(aO i).toNat)
 case atStart=>exact⟨0,aZ,rfl,[],B,z,A,aY rfl,S,aY (cE.nil _ _ _ _ _),Y⟩
 case round =>
  clear S Y;obtain⟨j,hj,rfl,es,H,C,L,HJ,Fe,HO,uj⟩:=hrel;have T:=HQ.aX j;rw[HJ.aX]at T;simp only at T;obtain⟨gX,om⟩:=T;have anC:Q es<=17:=aZ;clear om;have hzj:=uj.size;by_cases tJ:j<M
  ·have cd:(j:Int)<M:=aZ;have DJ:Hid (iY jX (j+1) B z A=(es++[(jX H C L).1],(jX H C L).2)):=aY ZV;go_wp2_with fail
   apply bN (aeD gw g n H C L wr Fe);rintro N⟨IL,u4⟩;generalize hX:jX H C L=X at *;obtain⟨x,lk,Fv,Fw⟩:=X;simp only at IL;have Gx:Hid (iY jX (j+1) B z A=(es++[x],lk,Fv,Fw)):=aY ZW;have fq:=HO.aX.up (bL _) (u4.uE (lo:=Z (D w)) (row:=U) (λk S _ _ hx=>aZ));have lq:=u4.size;obtain⟨css,hown,hcl,oR⟩:=fq;have kA:=K.new N (aq (dZ x) 42);have hbase:Z (D w)<=Z (D (aU N (aq (dZ x) 42))):=NT;clear HO HJ DJ hX;go_wp2_with (at_builtin;refine j9 rfl _ _ 53 rfl (Z (D w)) 42 _ 3 24 TID _ _ _ rfl (sK hown _) (Z (D N)+1) _ 1 1 (dZ x).toList rfl ?c1 ?c2 ?c3 hbase ?_)
   case c1=>exact Reads.new N (dZ x).toList 42 3 1 rfl
   case c2=>and_intros <;> rfl
   case c3=>omega
   intro v9 V jc dF fO cN;have r7:aN (Z (D w)) (aU N (aq (dZ x) 42)) V:=cN;have abB:RW gw g n lk Fv Fw V:=ZX;have u9:bf (XW gw g) w V:=ZY;have DV:=aY (cE.snoc (cs:=(dZ x).toList) hcl (λw' u=>oR w' (bV.tr (bV.bS kA _ _) u)) jc dF vE (λw' u=>rfl));exact ZZ
  ·have cd:¬(j:Int)<M:=aZ;obtain rfl:j=M:=aZ;have hR:=HJ.aX.symm.trans gZ.aX;obtain rfl:=hR;have HL:Hid (pZ dJ (Z (D w)) es u5 wr):=aY λW' u=>(HO.aX.up (bL _) (u.uE (lo:=Z (D w)) (row:=U) (λk S _ _ hx=>aZ))).bw
   exact Z0
theorem Wn gw g n l t y w(h:RW gw g n l t y w)(hl:Q l<=1000000000)(hn0:0<=n)(fF:n<=1000000000) :
 aK prog 243 #[aj (I ⟨gw,0,U⟩),.func (Fn.func 244) #[] #[]] w λe w' =>
  ∃v,e=ak v/\pZ cF (Z (D w)) (jk (kN n) l t y).1 v w'/\RW gw g n (jk (kN n) l t y).2.1 (jk (kN n) l t y).2.2.1 (jk (kN n) l t y).2.2.2 w'/\bf (XW gw g) w w':=by
 have C1:=JW gw g n l t y 17 w h aZ
 have hlt:=CG 17 aZ l t y
 have ll:=(AJ 17 aZ).len l t y
 unfold jk
 generalize nA 17 l t y=a at *
 obtain⟨M,B,z,A⟩:=a
 simp only at C1 hlt ll⊢
 rw[show ((17:Nat):Int)=17 from rfl]at C1
 have C1:=aY C1
 have gL:=h.lt
 have hgg:=h.2.2
 have HQ:=aY (λk=>M9 (Cu n) k B z A)
 clear h
 have HR:Hid (iY (kN n) M B z A=iY (kN n) M B z A):=aY rfl
 generalize G3:iY (kN n) M B z A=R at HR⊢
 have gZ:=aY G3
 clear G3 HR
 go_in
 go_wp2_with fail
 apply bN C1.aX
 rintro w1⟨Y,u1⟩
 go_wp2_with fail
 go_loopw [5,8] (fun o i W=>∃j:Nat,j<=M/\i=G E j/\∃es H C L,Hid (iY (kN n) j B z A=(es,H,C,L))/\RW gw g n H C L W/\Hid (cE (Z (D w)) (Z (D w)) 128 cF es o W)/\bf (XW gw g) w W) (fun _ i _=>M-(aO i).toNat)
 case atStart=>exact⟨0,aZ,rfl,[],B,z,A,aY rfl,Y,aY (cE.nil _ _ _ _ _),u1⟩
 case round =>
  clear Y u1;obtain⟨j,hj,rfl,es,H,C,L,HJ,Fe,HO,uj⟩:=hrel;have hq:=HQ.aX j;rw[HJ.aX]at hq;simp only at hq;obtain⟨gX,om⟩:=hq;have anC:Q es<=17:=aZ;clear om;have hzj:=uj.size;by_cases tJ:j<M
  ·have cd:(j:Int)<M:=aZ;have DJ:Hid (iY (kN n) (j+1) B z A=(es++[((kN n) H C L).1],((kN n) H C L).2)):=aY ZV;go_wp2_with fail
   apply dD (arT gw g n H C L wr Fe aZ hn0 fF);rintro v4 N⟨Gp,IL,u4⟩;generalize hX:kN n H C L=X at *;obtain⟨x,lk,Fv,Fw⟩:=X;simp only at Gp IL;obtain⟨vf,ve,rfl,hf,he⟩:=Gp N (bf.rf _ _);obtain⟨O,T,rfl⟩:=dK hf;obtain⟨S,V,rfl⟩:=bD he;have mV:=aY Gp;clear Gp hf he;have Gx:Hid (iY (kN n) (j+1) B z A=(es++[x],lk,Fv,Fw)):=aY ZW;have fq:=HO.aX.up (bL _) (u4.uE (lo:=Z (D w)) (row:=U) (λk Y _ _ hx=>aZ));have oQ:=HO.aX.blk;have lq:=u4.size;obtain⟨css,hown,hcl,oR⟩:=fq;have kA:=K.new N (aq (bQ x (F O (Q x.f) T) (F S (Q x.es) V)) 128);have hbase:Z (D w)<=Z (D (aU N (aq (bQ x (F O (Q x.f) T) (F S (Q x.es) V)) 128))):=NT;clear HO HJ DJ hX;go_wp2_with (at_builtin;refine j9 rfl _ _ 59 rfl (Z (D w)) 128 _ 8 96 aCO _ _ _ rfl (sK hown _) (Z (D N)+1) _ 1 1 (bQ x (F O (Q x.f) T) (F S (Q x.es) V)).toList rfl ?c1 ?c2 ?c3 hbase ?_)
   case c1=>exact Reads.new N (bQ x (F O (Q x.f) T) (F S (Q x.es) V)).toList 128 8 1 rfl
   case c2=>and_intros <;> rfl
   case c3=>omega
   intro v9 w9 jc dF fO cN;have r7:aN (Z (D w)) (aU N (aq (bQ x (F O (Q x.f) T) (F S (Q x.es) V)) 128)) w9:=cN;have abB:RW gw g n lk Fv Fw w9:=ZX;have u9:bf (XW gw g) w w9:=ZY;have DV:=aY (cE.snoc (cs:=(bQ x (F O (Q x.f) T) (F S (Q x.es) V)).toList) hcl (λw' u=>oR w' (bV.tr (bV.bS kA _ _) u)) jc dF vE (λw' u=>by
    obtain⟨vf,ve,e9,Y,h2⟩:=mV.aX w' ⟨u.os,u.tape,u.output,cI kA.size u.size,λk hk hx=>(u.block k aZ (cQ hk kA.size) bG).trans (kA.block k hk)⟩;simp only[Value.agg.injEq,Array.mk.injEq,List.cons.injEq,and_true,true_and]at e9;obtain⟨rfl,rfl⟩:=e9;exact⟨_,_,rfl,Y,h2⟩))
   exact ZZ
  ·have cd:¬(j:Int)<M:=aZ;obtain rfl:j=M:=aZ;have hR:=HJ.aX.symm.trans gZ.aX;obtain rfl:=hR;have HL:Hid (pZ cF (Z (D w)) es u5 wr):=aY λW' u=>(HO.aX.up (bL _) (u.uE (lo:=Z (D w)) (row:=U) (λk Y _ _ hx=>aZ))).bw
   exact Z0
abbrev zML:List aQ:=[G J 0,G E 0,F U 0 0,F U 0 0,F U 0 0,F U 0 0,F U 0 0,F U 0 0]
abbrev K5:Array aQ:=#[G J 0,G E 0,F U 0 0,F U 0 0,F U 0 0,F U 0 0,F U 0 0,F U 0 0]
theorem az9 w:nG yg (av K5) w:=⟨_,_,_,_,_,_,rfl,gN _ _,gN _ _,gN _ _,gN _ _,gN _ _,gN _ _⟩
structure DM(w0:aP)(r g gw h:Nat)(n:Int)(l:List UInt8)(wr bd:Bool)(cs:Array aQ)(W:aP):Prop where
 rw:RW gw g n l wr bd W
 x:bn W h 239 cs
 rv:bn W r 239 K5
 k:K w0 W
 o:Z (D w0)<=r/\r<g/\g<gw/\gw<h
section
variable {w0 W W':aP} {r g gw h:Nat} {n:Int} {l l':List UInt8} {wr bd wr' Ml:Bool} {cs:Array aQ}
theorem DM.cA(j:DM w0 r g gw h n l wr bd cs W)(u:bf (XW gw g) W W')(y:RW gw g n l' wr' Ml W'):DM w0 r g gw h n l' wr' Ml cs W':=by
 have o:=j.o;have k:=j.k;exact⟨y,j.x.cA u alM,j.rv.cA u alM,
  ⟨u.os.trans k.os,u.tape.trans k.tape,u.output.trans k.output,cI k.size u.size,λi t=>(u.block i (cQ t k.size) aZ).trans (k.block i t)⟩,o⟩
theorem DM.set(j:DM w0 r g gw h n l wr bd cs W) i u:DM w0 r g gw h n l wr bd (cs.setIfInBounds i u) (aV W ⟨h,i,U⟩ u):=by have o:=j.o;exact⟨j.rw.far o.2.2.2 i u,j.x.cz i u,j.rv.far bG u,j.k.setCell bG u,o⟩
theorem DM.st(j:DM w0 r g gw h n l wr bd cs W)(k:K W W'):DM w0 r g gw h n l wr bd cs W':=⟨j.rw.st k,j.x.bF k,j.rv.bF k,j.k.tr k,j.o⟩
theorem bf.mono{X j}(h:bf X W W')(A:∀k,X k->j k):bf j W W':=⟨h.os,h.tape,h.output,h.size,λk y t=>h.block k y (λz=>t (A k z))⟩
theorem pZ.less{α S gb j}{x:List α}{v}(t:pZ S gb x v W)(hg:j<=gb):pZ S j x v W:=λW' u=>t W' (u.mono (λk hk=>aZ))
theorem pZ.mv{α S gb}{x:List α}{v}(t:pZ S gb x v W)(u:bf (λk=>k<gb) W W'):pZ S gb x v W':=λj y=>t j (u.tr y)
theorem pZ.sl{α S gb}{x:List α}{v}(j:pZ S gb x v W):∃A c,v=F A (Q x) c:=bD (j W (bf.rf _ _))
theorem Ke{α}(S:fE α) gb W:pZ S gb [] (F U 0 0) W:=λ_ _=>gN _ _
end
def Qm(h:Nat)(m:gM)(t A y z B j:aQ)(W:aP):Prop:=pZ qj (h+1) m.dU t W/\pZ cF (h+1) m.asks A W/\pZ cF (h+1) m.entries y W/\pZ cF (h+1) m.gu z W/\pZ dJ (h+1) m.fA B W/\pZ dJ (h+1) m.ends j W
structure DL(w0:aP)(r g gw h:Nat)(n:Int)(l:List UInt8)(wr bd:Bool)(m:gM)(v1 v2 v3 v4 v5 v6:aQ)(W:aP):Prop where
 d:DM w0 r g gw h n l wr bd (mK m v1 v2 v3 v4 v5 v6) W
 m:Qm h m v1 v2 v3 v4 v5 v6 W
section
variable {w0 W W':aP} {r g gw h:Nat} {n:Int} {l l':List UInt8} {wr bd wr' Ml:Bool} {m m':gM} {v1 v2 v3 v4 v5 v6 u1 u2 u3 u4 u5 u6:aQ}
theorem Qm.mv(H:Qm h m v1 v2 v3 v4 v5 v6 W)(u:bf (λk=>k<h+1) W W'):Qm h m v1 v2 v3 v4 v5 v6 W' :=
 ⟨H.1.mv u,H.2.1.mv u,H.2.2.1.mv u,H.2.2.2.1.mv u,H.2.2.2.2.1.mv u,H.2.2.2.2.2.mv u⟩
theorem DL.go(j:DL w0 r g gw h n l wr bd m v1 v2 v3 v4 v5 v6 W)(u:bf (XW gw g) W W')(t:RW gw g n l' wr' Ml W'):DL w0 r g gw h n l' wr' Ml m v1 v2 v3 v4 v5 v6 W' :=
 ⟨j.d.cA u t,j.m.mv (u.mono λk hk=>by have:=j.d.o;rcases hk with hk|hk <;> omega)⟩
theorem DL.put(j:DL w0 r g gw h n l wr bd m v1 v2 v3 v4 v5 v6 W) i v(H:Qm h m' u1 u2 u3 u4 u5 u6 W)(e:(mK m v1 v2 v3 v4 v5 v6).setIfInBounds i v=mK m' u1 u2 u3 u4 u5 u6):DL w0 r g gw h n l wr bd m' u1 u2 u3 u4 u5 u6 (aV W ⟨h,i,U⟩ v) :=
 ⟨e▸j.d.set i v,H.mv (bf.dc (X:=λk=>k<h+1) (Nat.lt_succ_self h) i v)⟩
theorem DM.put(aT:DM w0 (Z (D w0)) g gw h n l wr bd (mK m v1 v2 v3 v4 v5 v6) W) us(j:Q us=8):bn (dL W (Z (D w0)) 0 us) (Z (D w0)) 239 us.toArray/\K w0 (dL W (Z (D w0)) 0 us)/\bf (λk=>k<h+1) W (dL W (Z (D w0)) 0 us) :=
 ⟨Cy aT.rv j,K.sets (bL _) _ _ _ aT.k,bf.sets (X:=λk=>k<h+1) YA _ _ _⟩
end
theorem asn b v w(hb:sl b v w)(hn:Q b<=1000000000) :
 aK prog 170 #[v] w λe w'=>∃v',e=ak (au #[v',G J (y6 b)])/\(∀W,bf (λk=>k<Z (D w)) w' W->nG (rQ b) v' W)/\K w w':=by
 obtain⟨A,c,rfl,t⟩:=hb
 have fH:=bn.new w 239 K5
 have k0:=fH.cC
 have DI:=(t.below k0 (bL _)).more k0.size
 obtain⟨n,Dx⟩:∃n:Int,n=(Q b:Int):=⟨_,rfl⟩
 have hn0:0<=n:=aZ
 have fF:n<=1000000000:=aZ
 obtain⟨k,l1,gK,H,sk⟩:∃k l1 gK H,nA 3 b az az=(k,l1,gK,H):=⟨_,_,_,_,rfl⟩
 obtain⟨got,O,R,uH⟩:∃got O R,bE l1 gK=(got,O,R):=⟨_,_,_,rfl⟩
 have hHd:i6 b az az=((k,got),O,R,H):=by simp only[i6,nO,ET,sk,uH]
 have lN:k<3:=by have:=CG 3 (by omega) b az az;rw[sk]at this;exact this
 have gj:Q O<=1000000000:=by have g1:=(AJ 3 aZ).len b az az;have g2:=pL l1 gK;rw[sk]at g1;rw[uH]at g2;simp only at g1 g2;omega
 have hwk:J.wrap (k:Int)=k:=EA
 have C1:=λgw g W h=>JW gw g n b az az 3 W h aZ
 have C2:=λg W h=>vC g l1 gK W h
 simp only[sk,uH]at C1 C2
 rw[show ((3:Nat):Int)=3 from rfl]at C1
 have IM:Hid (rX b=if !(ou n b az az).2.2.2&&(!(ou n b az az).2.2.1&&(ou n b az az).2.1.isEmpty)&&fI (ou n b az az).1 then I (ou n b az az).1 else U):=aY (by rw[Dx];rfl)
 have JM:=aY hHd
 have C1:=aY C1
 have C2:=aY C2
 have Qi:Hid (y6 b=if (rX b).isSome then 0 else 130):=aY rfl
 have HMX:Hid (rQ b=(rX b).getD yg):=aY rfl
 generalize y6 b=CK at *
 generalize rQ b=MX at *
 have hzz:Z (D w)<Z (D (aU w (aq K5 239))):=bq
 clear hHd sk uH t
 go_in
 go_wp2_with fail
 generalize w.alloc _=w1 at *
 refine (MV A _ c b w1 _ DI (bL _) hn).mono ?_
 rintro e w2⟨g,rfl,hg,rm,k2⟩
 have cZ:=fH.bF k2
 have hrg:=cQ hzz hg
 replace k0:=k0.tr k2
 have iR:=rm.lt
 clear DI k2 fH hzz hg
 have hw3:RW (Z (D w2)) g n b az az (aU w2 (aq #[aj (I ⟨g,0,U⟩),G J (Q b),ar az] 320)):=by rw[<- Dx];exact⟨bn.new _ _ _,rm.al _,iR⟩
 have kA:=K.new w2 (aq #[aj (I ⟨g,0,U⟩),G J (Q b),ar az] 320)
 go_upto_region 2 with fail
 generalize w2.alloc _=w3 at *
 have fP:=cZ.bF kA
 have Y:=k0.tr kA
 generalize gL:Z (D w2)=gw at *
 clear kA cZ k0 rm gL
 go_wp2_with fail
 refine (C1.aX gw g w3 hw3).mono ?_
 rintro e w4⟨rfl,h4,V⟩
 have gF:=fP.cA V aZ
 have lq:=h4.lt
 have aT:DM w (Z (D w)) g gw (Z (D w4)) n l1 gK H #[G J k,G E 0,F U 0 0,F U 0 0,F U 0 0,F U 0 0,F U 0 0,F U 0 0]
  (aU w4 (aq #[G J k,G E 0,F U 0 0,F U 0 0,F U 0 0,F U 0 0,F U 0 0,F U 0 0] 239)):=by
  have kA:=(K.rf w4).al (aq #[G J k,G E 0,F U 0 0,F U 0 0,F U 0 0,F U 0 0,F U 0 0,F U 0 0] 239)
  refine⟨h4.st kA,bn.new _ _ _,gF.bF kA,Below.tr ?_ kA,bL _,hrg,iR,lq⟩
  exact⟨V.os.trans Y.os,V.tape.trans Y.tape,V.output.trans Y.output,cI Y.size V.size,λi hi=>(V.block i (cQ hi Y.size) aZ).trans (Y.block i hi)⟩
 clear hw3 fP Y h4 V gF C1
 go_upto_region 3 with fail
 generalize w4.alloc _=w5 at *
 generalize Z (D w4)=h at *
 have q:=aT.rw.1.cell
 go_wp2_with fail
 refine (C2.aX g w5 aT.rw.2.1).mono ?_
 rintro e w6⟨rfl,yA⟩
 replace aT:=aT.cA (bf.went (X:=XW gw g) yA (aI rfl)) (aT.rw.went yA)
 clear q yA C2
 have q:=aT.x.cell
 have z:=aT.x.frozen
 go_upto_region 4 with fail
 replace aT:DL w (Z (D w)) g gw h n O R H ⟨k,got,[],[],[],[],[],[]⟩ (F U 0 0) (F U 0 0) (F U 0 0) (F U 0 0) (F U 0 0) (F U 0 0) (aV w6 ⟨h,1,U⟩ (G E got)):=⟨aT.set 1 _,Ke _ _ _,Ke _ _ _,Ke _ _ _,Ke _ _ _,Ke _ _ _,Ke _ _ _⟩
 clear q z
 generalize w6.setCell _ _=w7 at *
 have o:=aT.d.o
 clear Dx C1 lq
 have q:=aT.d.x.cell
 go_upto_block 0 with fail
 clear q
 go_cut []from 24 to 45 (fun W=>∃(M:gM) (l:List UInt8) (wr bd:Bool) (v1 v2 v3 v4 v5 v6:aQ),DL w (Z (D w)) g gw h n l wr bd M v1 v2 v3 v4 v5 v6 W/\Hid (rX b=if !bd&&(!wr&&l.isEmpty)&&fI M then I M else U))
 case first =>
  by_cases je:k=1
  ·subst je;have y:=IM.aX;rw[Sr JM.aX]at y;obtain⟨x1,l3,E3,S,sf⟩:∃x l w c,jk pC O R H=(x,l,w,c):=⟨_,_,_,_,rfl⟩;have T:=cI ((sF Rf).len O R H) gj;have B:=λW C=>ar4 gw g n O R H W C gj hn0 fF
   simp only[sf]at B T;have B:=aY B;obtain⟨x2,l4,VS,VT,hB4⟩:∃x l w c,jk (kN n) l3 E3 S=(x,l,w,c):=⟨_,_,_,_,rfl⟩;have jy:=cI ((sF (Cu n)).len l3 E3 S) T;have L:=λW C=>Wn gw g n l3 E3 S W C T hn0 fF
   simp only[hB4]at L jy;have L:=aY L;simp only[Bs,nO,sf,hB4]at y;have HD:=aY y;clear IM JM hwk y sf hB4;go_wp2_with fail
   refine (B.aX w7 aT.d.rw).mono ?_;rintro e N⟨v,rfl,j,t,u⟩;replace j:=j.less (show h+1<=Z (D w7)from aT.d.x.lt);obtain⟨A3,c3,rfl⟩:=j.sl;replace aT:=aT.go u t;clear u t B;have q:=aT.d.x.cell;have z:=aT.d.x.frozen;go_upto_region 7 with fail;replace aT:=aT.put (m':=⟨1,got,x1,[],[],[],[],[]⟩) 2 _ ⟨j,aT.m.2⟩ rfl;clear q z j;generalize N.setCell _ _=Qn at *;go_wp2_with fail
   refine (L.aX Qn aT.d.rw).mono ?_;rintro e N⟨v,rfl,j,t,u⟩;replace j:=j.less (show h+1<=Z (D Qn)from aT.d.x.lt);obtain⟨A4,c4,rfl⟩:=j.sl;replace aT:=aT.go u t;clear u t L;have q:=aT.d.x.cell;have z:=aT.d.x.frozen;go_upto_region 13 with fail;replace aT:=aT.put (m':=⟨1,got,x1,x2,[],[],[],[]⟩) 3 _ ⟨aT.m.1,j,aT.m.2.2⟩ rfl;clear q z j;generalize N.setCell _ _=wb4 at *;exact Z3
  by_cases hk2:k=2
  ·subst hk2;have y:=IM.aX;rw[Ss JM.aX]at y;obtain⟨x1,l3,E3,S,sf⟩:∃x l w c,jk (kN n) O R H=(x,l,w,c):=⟨_,_,_,_,rfl⟩;have T:=cI ((sF (Cu n)).len O R H) gj;have B:=λW C=>Wn gw g n O R H W C gj hn0 fF
   simp only[sf]at B T;have B:=aY B;obtain⟨x2,l4,VS,VT,hB4⟩:∃x l w c,jk (kN n) l3 E3 S=(x,l,w,c):=⟨_,_,_,_,rfl⟩;have jy:=cI ((sF (Cu n)).len l3 E3 S) T;have L:=λW C=>Wn gw g n l3 E3 S W C T hn0 fF
   simp only[hB4]at L jy;have L:=aY L;obtain⟨x3,l5,wr5,bd5,GK⟩:∃x l w c,jk jX l4 VS VT=(x,l,w,c):=⟨_,_,_,_,rfl⟩;have mH:=cI ((sF FC).len l4 VS VT) jy;have L5:=λW C=>aeE gw g n l4 VS VT W C jy hn0 fF
   simp only[GK]at L5 mH;have L5:=aY L5;obtain⟨x4,l6,wr6,bd6,hB6⟩:∃x l w c,jk jX l5 wr5 bd5=(x,l,w,c):=⟨_,_,_,_,rfl⟩;have uI:=cI ((sF FC).len l5 wr5 bd5) mH;have L6:=λW C=>aeE gw g n l5 wr5 bd5 W C mH hn0 fF
   simp only[hB6]at L6 uI;have L6:=aY L6;simp only[qQ,nO,sf,hB4,GK,hB6]at y;have HD:=aY y;clear IM JM hwk y sf hB4 GK hB6;go_wp2_with fail
   refine (B.aX w7 aT.d.rw).mono ?_;rintro e N⟨v,rfl,j,t,u⟩;replace j:=j.less (show h+1<=Z (D w7)from aT.d.x.lt);obtain⟨A3,c3,rfl⟩:=j.sl;replace aT:=aT.go u t;clear u t B;have q:=aT.d.x.cell;have z:=aT.d.x.frozen;go_upto_region 10 with fail;replace aT:=aT.put (m':=⟨2,got,[],[],x1,[],[],[]⟩) 4 _ ⟨aT.m.1,aT.m.2.1,j,aT.m.2.2.2⟩ rfl;clear q z j;generalize N.setCell _ _=Qn at *;go_wp2_with fail
   refine (L.aX Qn aT.d.rw).mono ?_;rintro e N⟨v,rfl,j,t,u⟩;replace j:=j.less (show h+1<=Z (D Qn)from aT.d.x.lt);obtain⟨A4,c4,rfl⟩:=j.sl;replace aT:=aT.go u t;clear u t L;have q:=aT.d.x.cell;have z:=aT.d.x.frozen;go_upto_region 11 with fail;replace aT:=aT.put (m':=⟨2,got,[],[],x1,x2,[],[]⟩) 5 _ ⟨aT.m.1,aT.m.2.1,aT.m.2.2.1,j,aT.m.2.2.2.2⟩ rfl;clear q z j;generalize N.setCell _ _=wb4 at *;go_wp2_with fail
   refine (L5.aX wb4 aT.d.rw).mono ?_;rintro e N⟨v,rfl,j,t,u⟩;replace j:=j.less (show h+1<=Z (D wb4)from aT.d.x.lt);obtain⟨A5,c5,rfl⟩:=j.sl;replace aT:=aT.go u t;clear u t L5;have q:=aT.d.x.cell;have z:=aT.d.x.frozen;go_upto_region 12 with fail;replace aT:=aT.put (m':=⟨2,got,[],[],x1,x2,x3,[]⟩) 6 _ ⟨aT.m.1,aT.m.2.1,aT.m.2.2.1,aT.m.2.2.2.1,j,aT.m.2.2.2.2.2⟩ rfl;clear q z j;generalize N.setCell _ _=wb5 at *;go_wp2_with fail
   refine (L6.aX wb5 aT.d.rw).mono ?_;rintro e N⟨v,rfl,j,t,u⟩;replace j:=j.less (show h+1<=Z (D wb5)from aT.d.x.lt);obtain⟨A6,c6,rfl⟩:=j.sl;replace aT:=aT.go u t;clear u t L6;have q:=aT.d.x.cell;have z:=aT.d.x.frozen;go_upto_region 13 with fail;replace aT:=aT.put (m':=⟨2,got,[],[],x1,x2,x3,x4⟩) 7 _ ⟨aT.m.1,aT.m.2.1,aT.m.2.2.1,aT.m.2.2.2.1,aT.m.2.2.2.2.1,j⟩ rfl;clear q z j;generalize N.setCell _ _=wb6 at *;exact Z3
  have y:=IM.aX;rw[anb JM.aX je hk2]at y;have HD:=aY y;have hkk:¬(k:Int)=1:=aZ;have aJM:¬(k:Int)=2:=aZ;clear IM JM je hk2 hwk y;exact Z3
 case rest =>
 clear aT IM JM
 obtain⟨M,l,wr,bd,v1,v2,v3,v4,v5,v6,aT,HD⟩:=hcut
 obtain⟨A1,c1,rfl⟩:=aT.m.1.sl
 obtain⟨A2,c2,rfl⟩:=aT.m.2.1.sl
 obtain⟨A3,c3,rfl⟩:=aT.m.2.2.1.sl
 obtain⟨A4,c4,rfl⟩:=aT.m.2.2.2.1.sl
 obtain⟨A5,c5,rfl⟩:=aT.m.2.2.2.2.1.sl
 obtain⟨A6,c6,rfl⟩:=aT.m.2.2.2.2.2.sl
 have Mi:Hid (∀W,bf (λk=>k<h+1) wc W->nG M (av (mK M (F A1 (Q M.dU) c1) (F A2 (Q M.asks) c2) (F A3 (Q M.entries) c3) (F A4 (Q M.gu) c4) (F A5 (Q M.fA) c5) (F A6 (Q M.ends) c6))) W):=aY λW u=>⟨_,_,_,_,_,_,rfl,aT.m.1 W u,aT.m.2.1 W u,aT.m.2.2.1 W u,aT.m.2.2.2.1 W u,aT.m.2.2.2.2.1 W u,aT.m.2.2.2.2.2 W u⟩
 replace aT:=aT.d
 obtain⟨dn,uZ⟩:∃dn,dn=(!wr&&l.isEmpty):=⟨_,rfl⟩
 obtain⟨ok,hok⟩:∃ok,ok=fI M:=⟨_,rfl⟩
 rw[<- uZ,<- hok]at HD
 have HDN:=aY uZ
 have j8:=aY hok
 clear uZ hok
 have qw:=aT.rw.1.cell
 cases bd
 rotate_left
 ·exact Z4
 go_wp2_with fail
 refine (MK g _ _ _ aT.rw.2.1).mono ?_
 rintro e w8⟨rfl,rfl⟩
 rw[<- HDN.aX]
 cases dn
 ·exact Z4
 have qm:=aT.x.cell
 go_wp2_with fail
 refine (aeL M (av (mK M (F A1 (Q M.dU) c1) (F A2 (Q M.asks) c2) (F A3 (Q M.entries) c3) (F A4 (Q M.gu) c4) (F A5 (Q M.fA) c5) (F A6 (Q M.ends) c6))) wc (Mi.aX _ (bf.rf _ _))).mono ?_
 rintro e w9⟨rfl,k9⟩
 replace aT:=aT.st k9
 clear qw qm
 cases ok
 ·have Dw:jY M=130:=by unfold jY;rw[<- j8.aX];rfl
  rw[Dw];clear Dw;exact Z4
 have Dw:jY M=0:=by unfold jY;rw[<- j8.aX];rfl
 rw[Dw]
 clear Dw
 have q:=aT.rv.cell
 have q2:=aT.x.cell
 have z:=aT.rv.frozen
 have anD:Hid (rX b=I M):=aY (by rw[HD.aX];simp)
 obtain rfl:CK=0:=by rw[Qi.aX,anD.aX];rfl
 obtain rfl:MX=M:=by rw[HMX.aX,anD.aX];rfl
 go_wp2
 have P9:=aT.put [G J MX.kind,G E MX.got,F A1 (Q MX.dU) c1,F A2 (Q MX.asks) c2,F A3 (Q MX.entries) c3,F A4 (Q MX.gu) c4,F A5 (Q MX.fA) c5,F A6 (Q MX.ends) c6] rfl
 simp only[dL,Nat.reduceAdd,ng]at P9
 clear q q2 z
 generalize ax _ _ _=W9 at *
 have e9:=P9.1.cell
 have o:=aT.o
 refine aM (v:=au #[av (mK MX (F A1 (Q MX.dU) c1) (F A2 (Q MX.asks) c2) (F A3 (Q MX.entries) c3) (F A4 (Q MX.gu) c4) (F A5 (Q MX.fA) c5) (F A6 (Q MX.ends) c6)),G J 0]) alN rfl ?_
 exact⟨_,rfl,λW u=>Mi.aX W (((bf.bS k9 _).tr P9.2.2).tr (u.mono λk hk=>cQ hk aZ)),P9.2.1⟩
def N9(B:cJ)(j:Int):Bool:=decide (j∈rR B)
def Oa(B:cJ)(j:Int):Bool:=!pn B&&decide (j=yh B)
def NU(B:cJ)(t:Int)(j par:Bool)(m:gM):cJ×Int:=if j&&decide (m.kind=1)then (iX { B with dq:=oB B.dq t m },0)else if par&&decide (m.kind=2)then (sM B m,0)else (B,201)
theorem aws B j b:jr B j b=if N9 B j||Oa B j then (if y6 b=0 then NU B j (N9 B j) (Oa B j) (rQ b)else (B,y6 b))else (B,201):=by
 grind [jr,N9,Oa,y6,NU,rQ,rX]
theorem aAa{B}{m:Nat}(t:B.me=(m:Int))(j:m<Q B.par):yh B=B.par[m]:=by
 grind [yh]
theorem asW{M p B w}(h:cS M p B w)(C:cX B)(hF:mT B)(iO:Q B.told+16<=1000000) j b vb(hb:sl b vb w)(dt:Q b<=1000000000) :
 aK prog 106 #[aj (I ⟨p.g,0,U⟩),G J j,vb] w λe w'=>e=ak (G J (jr B j b).2)/\eX M p (jr B j b).1 w w':=by
 have HE:=aY (aws B j b)
 have hlo:=h.low
 have aEP:=λk hk=>h.low k (h.sub k hk)
 have N:=aY λW (k:K w W)=>h.st k
 have CK:=aY (WN h C)
 have CR:=aY λW (k:K w W)=>Q6 (h.st k)
 have CD:=aY λW (k:K w W)=>asn b vb W (pQ _ _ _ _ hb k) dt
 have:Q (rR B)<=16:=cI (J6 _ _) (ud C.tr).2
 have q:=h.q
 have BS:=C.me
 have:=(ud C.tr).2
 simp only[iJ,fB,decide_eq_true_eq]at BS
 obtain⟨mn,zx⟩:=Int.eq_ofNat_of_zero_le BS.1
 have Qk:mn<Q B.par:=aZ
 have VR:=aY (aAa zx Qk)
 have OS:=h.df.now.par
 have S:Hid (Oa B j=(!pn B&&decide (j=yh B))):=aY rfl
 have HIK:Hid (N9 B j=decide (j∈rR B)):=aY rfl
 have HG:=aY C
 have HF:=aY hF
 obtain⟨A0,c0,rfl,-⟩:=hb
 obtain⟨g,hg⟩:∃g,Hid (g=p.g):=⟨_,aY rfl⟩
 rw[<- hg.aX]at CK CR q⊢
 obtain⟨pv,hpv⟩:∃pv,Hid (pv=p.vp):=⟨_,aY rfl⟩
 simp only[Jg]at q
 rw[<- hpv.aX,zx]at q
 rw[<- hpv.aX]at OS
 obtain⟨Ap,cp,rfl,Uh,-⟩:=OS
 obtain⟨bp,op,rfl,hcell⟩:=ints_at Uh aZ
 have qp:=λW (k:K w W)=>hcell W k mn Qk
 have wI:(mn:Int)<Q B.par:=aZ
 have yC:=aY hlo
 have HLX:=aY aEP
 have kk:=K.rf w
 generalize N9 B j=t at *
 generalize Oa B j=par at *
 generalize rR B=ks at *
 go_in
 go_wp2_with fail
 refine CK.aX.mono ?_
 rintro e w1⟨v1,rfl,ia,k1⟩
 have C2:=aY (aeq ks j v1 w1 ia.bw aZ)
 obtain⟨A1,c1,rfl⟩:=ia.slice
 go_wp2_with fail
 refine C2.aX.mono ?_
 rintro e T⟨rfl,k2⟩
 have R:=k1.tr k2
 rw[<- HIK.aX]
 go_upto_region 4 with fail
 have q2:=λW (k:K T W)=>q W (R.tr k)
 have VV:=λW (k:K T W)=>qp W (R.tr k)
 have hb2:=VR.aX.symm
 rw[hb2]at VV
 generalize yh B=pb at *
 go_cut [8]from 17 to 33 (fun v W=>v=ar par/\K T W)
 case first =>
  have C3:=aY λW (k:K T W)=>CR.aX W (R.tr k)
  cases hr:pn B
  ·rw[hr]at C3 S;have HP:Hid (par=decide (j=pb)):=aY (by rw[S.aX];rfl);have mU:(j==pb)=decide (j=pb):=cY;have qs:=aB q2 (aB VV wI);refine eQ 17 ?_;refine bA.i ?_;refine bA.is (ar az) (λV W kW hp=>?_) ?_
   ·(try simp only[dE,bU,bZ,dA,dB,bM]at hp)
    exact alO
   iterate 15 refine bA.i ?_
   intro V W kW hA;simp only[bU,bZ,dx,bM,Nat.reduceAdd]at hA;obtain⟨f0,f1,f2,f3,f4,f5,f6,f7,f8,f9,f10,f11,f12,f13,f14,f15,f16,-⟩:=hA;refine bJ.pure (ar par) rfl (by simp[bP,aC,f16,HP.aX,mU,aL,bR,go_sem]) ?_;exact alP
  ·rw[hr]at C3 S;have HP:Hid (par=az):=aY (by rw[S.aX];rfl);have qs:=aB q2 (aB VV wI);refine eQ 17 ?_;refine bA.i ?_;refine bA.is (ar aA) (λV W kW hp=>?_) ?_
   ·(try simp only[dE,bU,bZ,dA,dB,bM]at hp)
    exact alO
   iterate 15 refine bA.i ?_
   intro V W kW hA;simp only[bU,bZ,dx,bM,Nat.reduceAdd]at hA;obtain⟨f0,f1,f2,f3,f4,f5,f6,f7,f8,f9,f10,f11,f12,f13,f14,f15,f16,-⟩:=hA;refine bJ.pure (ar par) rfl (by simp[bP,aC,f16,HP.aX,aL,bR,go_sem]) ?_;exact alP
 case rest =>
  obtain⟨rfl,k3⟩:=hcut;have X:=R.tr k3;go_upto_region 5 with fail;go_cut [39]from 34 to 38 (fun v W=>v=ar (!(t||par))/\wc=W)
  case first =>
   cases t <;> cases par
   all_goals
    go_wp2_with fail
    go_meet
    case rel=>exact⟨rfl,rfl⟩
  case rest =>
   obtain⟨rfl,rfl⟩:=hcut;cases O2:t||par
   ·have HR:Hid (jr B j b=(B,201)):=aY alQ;have HN:=aY ((N.aX w kk).n X);exact alR
   have HR:Hid (jr B j b=if y6 b=0 then NU B j t par (rQ b)else (B,y6 b)):=aY alQ;have CD4:=aY (CD.aX wc X);go_wp2_with fail
   refine CD4.aX.mono ?_;rintro e w4⟨vm,rfl,hm,k4⟩;have uK:=X.tr k4;obtain⟨m1,m2,m3,m4,m5,m6,rfl,oM,hm2,zt,DD,Lg,zw⟩:=hm w4 (bf.rf _ _);obtain⟨A1',c1',rfl⟩:=bD oM;obtain⟨Y,PS,rfl⟩:=bD hm2;obtain⟨A3',c3',rfl⟩:=bD zt;obtain⟨A4',c4',rfl⟩:=bD DD;obtain⟨A5',c5',rfl⟩:=bD Lg;obtain⟨A6',c6',rfl⟩:=bD zw;have hsz:=X.size;have HM:=aY (show Fx M (λW=>nG (rQ b) (av (mK (rQ b) (F A1' (Q (rQ b).dU) c1') (F Y (Q (rQ b).asks) PS) (F A3' (Q (rQ b).entries) c3') (F A4' (Q (rQ b).gu) c4') (F A5' (Q (rQ b).fA) c5') (F A6' (Q (rQ b).ends) c6'))) W) w4 from λW u=>hm W (u.more λk hk=>cQ (yC.aX k hk) hsz));have j8:Hid (y6 b=0->fI (rQ b)=aA/\pW (rQ b)):=aY λh=>by
    cases z:rX b with
    | none=>rw[(show y6 b=130 by simp[y6,z])]at h;cases h
    | some m => rw[show rQ b=m by simp[rQ,z]];exact⟨(Ru z).2,RI z⟩
   generalize rQ b=m at *;generalize y6 b=ec at *;have O:=bn.new w4 239 (mK m (F A1' (Q m.dU) c1') (F Y (Q m.asks) PS) (F A3' (Q m.entries) c3') (F A4' (Q m.gu) c4') (F A5' (Q m.fA) c5') (F A6' (Q m.ends) c6'));have k5:=O.cC;go_upto_region 8 with fail;generalize ay w4 _=y at *;generalize Fj:Z (D w4)=gx at O⊢;have A:=uK.tr k5;have HM5:=aY (HM.aX.k k5);by_cases Px:ec=0;rotate_left
   ·have ku:Hid (jr B j b=(B,ec)):=aY (by rw[HR.aX,bO Px]);have:(ec != 0)=true:=by simpa using Px
    have HN:=aY ((N.aX w kk).n A);go_wp2;go_ret;exact⟨by rw[ku.aX];rfl,by rw[ku.aX];exact HN.aX⟩
   subst Px;obtain⟨hok,hfit⟩:=j8.aX rfl;have ku:Hid (jr B j b=NU B j t par m):=aY (by rw[HR.aX,bT rfl]);have HMM:Hid (NU B j t par m=if t&&decide (m.kind=1)then (iX { B with dq:=oB B.dq j m },0)else if par&&decide (m.kind=2)then (sM B m,0)else (B,201)):=aY rfl;have abC:=aY hok;have Bw:=aY hfit;have:=O.cell;go_upto_region 11 with fail;go_cut [48]from 49 to 54 (fun v W=>v=ar (t&&decide (m.kind=1))/\y=W)
   case first =>
    cases t
    ·go_wp2_with fail
     go_meet
     case rel=>exact⟨rfl,rfl⟩
    ·have z:Hid ((m.kind==1)=decide (m.kind=1)):=aY ZN;go_wp2_with fail
     go_meet
     case rel=>exact⟨cY,rfl⟩
   case rest =>
    obtain⟨rfl,rfl⟩:=hcut;have Mg:=aY λW (k:K y W)=>N.aX W (A.tr k)
    cases hc1:t&&decide (m.kind=1)
    ·have HQ:Hid (jr B j b=if par&&decide (m.kind=2)then (sM B m,0)else (B,201)):=aY alS;go_upto_region 14 with fail;go_cut [63]from 64 to 69 (fun v W=>v=ar (par&&decide (m.kind=2))/\y=W)
     case first =>
      cases par
      ·go_wp2_with fail
       go_meet
       case rel=>exact⟨rfl,rfl⟩
      ·have z:Hid ((m.kind==2)=decide (m.kind=2)):=aY ZN;go_wp2_with fail
       go_meet
       case rel=>exact⟨cY,rfl⟩
     case rest =>
      obtain⟨rfl,rfl⟩:=hcut;cases jC:par&&decide (m.kind=2)
      ·have HQ2:Hid (jr B j b=(B,201)):=aY alT;have HN:=aY ((N.aX w kk).n A);exact alU
      ·have HQ2:Hid (jr B j b=(sM B m,0)):=aY alT;have hA:=(SS abC.aX Bw.aX).2.2.2.2.2.1;have L:∀W,bf M y W->bw qj m.dU (F A1' (Q m.dU) c1') W/\bw cF m.asks (F Y (Q m.asks) PS) W/\bw cF m.entries (F A3' (Q m.entries) c3') W/\bw cF m.gu (F A4' (Q m.gu) c4') W/\bw dJ m.fA (F A5' (Q m.fA) c5') W/\bw dJ m.ends (F A6' (Q m.ends) c6') W:=λW u=>by obtain⟨_,_,_,_,_,_,e,h⟩:=HM5.aX W u;cases e;exact h
       have L0:=L y (bf.rf _ _);have H:=auM (Mg.aX y (K.rf _)) HG.aX m _ _ _ _ _ _ L0.1 L0.2.1 (λW u=>(L W u).2.2.1) (λW u=>(L W u).2.2.2.1) (λW u=>(L W u).2.2.2.2.1) (λW u=>(L W u).2.2.2.2.2) abC.aX Bw.aX aZ;rw[<- hg.aX]at H;have H:=aY H;go_wp2_with fail
       refine H.aX.mono ?_;rintro e w6⟨rfl,hN⟩;have HN:=aY (hN.zW A HLX.aX);exact alU
    ·have HQ:Hid (jr B j b=(iX { B with dq:=oB B.dq j m },0)):=aY alS;have jJ:=hg.aX;subst jJ;have q5:=λW (k:K y W)=>(Mg.aX W k).q W (K.rf _)
     simp only[Jg]at q5;have qx5:=O.cells;go_wp2_with fail
     have qs:=aB q5 qx5;refine eQ 6 ?_;iterate 6 refine bA.i ?_
     intro V W kW hA;simp only[bU,bZ,dx,bM,Nat.reduceAdd]at hA;obtain⟨f0,f1,f2,f3,f4,f5,-⟩:=hA;obtain⟨w7,mg,UY,hu7⟩:=awr (Mg.aX W kW) j HF.aX.nk (HM5.aX.k kW);refine bJ.skip w7 rfl (by simp[bP,aC,f3,f4,f5,aL,bR,mg,go_sem]) ?_;refine bJ.e ?_;have VN:=A.tr kW;have CW:=afj UY (Rz (k:=j) HG.aX abC.aX Bw.aX);have U7:=aY ((bf.bS VN (cO p)).tr (hu7.more λk e=>aJ (aI e)));have CW:=aY CW;go_wp2_with fail
     refine CW.aX.mono ?_;rintro e w8⟨rfl,hN⟩;have HN:=aY (eX.tr (p:=p) (M:=M) U7.aX rfl (λk hk=>aI hk) (λk hk=>hk) hN);go_wp2;go_ret;exact⟨pM,by rw[HQ.aX];exact HN.aX⟩
theorem awt c x r s n:pq c (x :: r) s n=if rN s c x=[]then pq c r (mQ s x) (n+1)else (rN s c x,n+1):=rfl
theorem auY{M p B w}(h:cS M p B w)(z:cX B) c j :
 aK prog 69 #[aj (I ⟨p.g,0,U⟩),G J c,G J j] w λe w'=>∃v',e=ak (au #[v',G J (nu B c j).2.1,G J (nu B c j).2.2])/\cE (Z (D w)) (Z (D w)) 35 dS (nu B c j).1 v' w'/\K w w':=by
 have gG:=z.FY
 have:=z.dk.len
 have q:=h.q
 have uD:=h.df.now.list
 have HP:Hid (nu B c j=if AZ B c then (if 0<=j/\j<=(Q B.st.list:Int)then ((pq c (B.st.list.drop j.toNat) (mw (B.st.list.take j.toNat)) j.toNat).1,((pq c (B.st.list.drop j.toNat) (mw (B.st.list.take j.toNat)) j.toNat).2:Int),0)else ([],0,1))else ([],0,200)):=aY rfl
 have A:=aY (ae9 h z c)
 have C2:=aY λW (k:K w W) n hn=>aff (h.st k) z n hn
 obtain⟨g,gl,gd,gr,gt,vd,vr,vp,vh,vl,vq,va,vt,vf,vw,kr⟩:=p
 simp only at q uD A C2
 obtain⟨Al,cl,rfl,hl,hcl⟩:=uD
 have qF:=aY gG.1
 generalize nu B c j=R at *
 generalize U3:AZ B c=HB at *
 go_in
 go_wp2_with fail
 apply bN A.aX
 intro w1 k1
 cases HB
 ·have HF:Hid (R=([],0,200)):=aY ZJ;exact Z5
 by_cases T:0<=j/\j<=(Q B.st.list:Int)
 rotate_left
 ·have HF:Hid (R=([],0,1)):=aY (by rw[HP.aX,bT rfl,bO T]);have V:j<0∨(¬j<0/\(Q B.st.list:Int)<j):=aZ;rcases V with V|⟨V,jC⟩
  ·exact Z5
  ·exact Z5
 obtain⟨n,rfl⟩:=Int.eq_ofNat_of_zero_le T.1
 have hn:n<=Q B.st.list:=aZ
 have HF:Hid (R=((pq c (B.st.list.drop n) (mw (B.st.list.take n)) n).1,((pq c (B.st.list.drop n) (mw (B.st.list.take n)) n).2:Int),0)):=aY (by rw[HP.aX,bT rfl,bT T];rfl)
 have:=Xq (B.st.list.take n)
 have LZ:=akI (l:=B.st.list.take n) λx y=>qF.aX x (lB y)
 have:Q (B.st.list.take n)=n:=cG
 have H:=aY (C2.aX w1 k1 n hn)
 go_upto_region 8 with fail
 go_wp2_with fail
 apply dD H.aX
 rintro v2 w2⟨eE,k2⟩
 have aEQ:bK (λk=>k<Z (D w)) (Z (D w)) 260 jM (mw (B.st.list.take n)) v2 w2:=(eE.less λk hk=>by have:=k1.size;omega).low k1.size
 generalize mw (B.st.list.take n)=s0 at *
 have cT:=k1.tr k2
 go_wp2_with fail
 have hG0:=HF
 go_loopw [10,11,12,13] (fun o i _ _ W=>∃(m:Nat) (s:List nB),m<=Q B.st.list/\i=G J m/\Q s<=m/\EL s/\bK (fun k=>k<Z (D w)) (Z (D w)) 260 jM s o W/\K w W/\Hid (R=((pq c (B.st.list.drop m) s m).1,((pq c (B.st.list.drop m) s m).2:Int),0))) (fun _ i _ _ _=>Q B.st.list-(aO i).toNat)
 case atStart=>exact⟨n,s0,hn,rfl,aZ,LZ,aEQ,cT,hG0⟩
 case round =>
  obtain⟨m,s,hm,rfl,mc,C,hO,kr,HG⟩:=hrel;by_cases N:m<Q B.st.list
  ·have cd:(m:Int)<Q B.st.list:=aZ;obtain⟨b1,off,cs,rfl,jU,hrl,d0,d⟩:=eN hl m N bC;have S:=qF.aX _ (dG N);have HG2:Hid (R=((if rN s c B.st.list[m]=[]then pq c (B.st.list.drop (m+1)) (mQ s B.st.list[m]) (m+1)else (rN s c B.st.list[m],m+1)).1,((if rN s c B.st.list[m]=[]then pq c (B.st.list.drop (m+1)) (mQ s B.st.list[m]) (m+1)else (rN s c B.st.list[m],m+1)).2:Int),0)):=aY (by
    rw[HG.aX,List.drop_eq_getElem_cons N,awt])
   generalize B.st.list[m]=x at *;obtain⟨vf,ve,rfl,hf,he⟩:=hrl w (K.rf w);have HE:Hid (∀W,K w W->fc x (av (bQ x vf ve)) W):=aY λW k=>⟨_,_,rfl,fJ _ _ _ _ hf k,cH he k⟩
   have:∀i,i<8->wr.cell? ⟨b1,off+m*8+i,U⟩=(bQ x vf ve)[i]?:=λi hi=>(d wr kr i hi).trans aD
   have:wr.cell? ⟨b1,off+m*8,U⟩=I (G J x.kind):=d0 wr kr;have y:=bn.new wr 128 (bQ x vf ve);have k1':K wr (aU wr (aq (bQ x vf ve) 128)):=(K.rf wr).al _;obtain⟨Af,cf,rfl⟩:=dK hf;obtain⟨Ae,ce,rfl⟩:=bD he;go_upto_region 13 with fail;generalize wr.alloc _=w1' at *;have X:=hO.st k1';have O:=kr.tr k1';have:=y.cell;have A:=aY (auA s c x _ _ w1' X.bw (HE.aX w1' O) aZ C S);obtain⟨Ao,co,rfl⟩:=X.slice;go_wp2_with fail
   apply tH A.aX O;intro v4 Y fq k4 t;have hz1:=O.size;have Je:=aY (cE.low (cE.floor fq hz1) hz1);have fu:=X.st k4;have:=(y.bF k4).cell;obtain⟨A4,c4,rfl⟩:=bD fq.tR.bw;by_cases L:rN s c x=[];rotate_left
   ·have hpos:=List.length_pos_iff.2 L;have HF:Hid (R=(rN s c x,((m+1:Nat):Int),0)):=aY (by rw[HG2.aX,bO L]);have:J.wrap ((m:Int)+1)=(m:Int)+1:=IntWalk.i64_in _ aZ;generalize rN s c x=bt at *;go_wp2;go_ret3;exact⟨_,FQ,by rw[HF.aX];exact Je.aX,t⟩
   have HF:Hid (R=((pq c (B.st.list.drop (m+1)) (mQ s x) (m+1)).1,((pq c (B.st.list.drop (m+1)) (mQ s x) (m+1)).2:Int),0)):=aY (by rw[HG2.aX,bT L]);rw[L];by_cases hk:x.kind=1
   ·have HF2:Hid (R=((pq c (B.st.list.drop (m+1)) s (m+1)).1,((pq c (B.st.list.drop (m+1)) s (m+1)).2:Int),0)):=aY (by rw[HF.aX,show mQ s x=s from bT hk]);have hk2:(x.kind != 1)=false:=Ig;go_wp2;go_roundw
    case rel=>exact⟨m+1,s,aZ,cU,aZ,C,fu,t,HF2⟩
    case measure=>simp[aO];omega
   have hk2:(x.kind != 1)=true:=vD;have hs1:mQ s x=wS s x:=bO hk;have:=agB s x;have vT:=akH (x:=x) C S.1;have H:=aY (afd s x _ _ Y fu.bw (HE.aX Y t) aZ C S.1);rw[<- hs1]at H;go_wp2_with fail
   apply tH H.aX t;intro v5 w5 mo k5 oq;have lq:=t.size;have jh:bK (λk=>k<Z (D w)) (Z (D w)) 260 jM (mQ s x) v5 w5:=(mo.less λk hk=>aZ).low lq;go_wp2;go_roundw
   case rel=>exact⟨m+1,mQ s x,aZ,cU,aZ,vT,jh,oq,HF⟩
   case measure=>simp[aO];omega
  ·have cd:¬(m:Int)<Q B.st.list:=aZ;obtain rfl:m=Q B.st.list:=aZ;have HF:Hid (R=([],(Q B.st.list:Int),0)):=aY (by rw[HG.aX,List.drop_length];rfl);go_wp2;go_ret3;exact⟨_,FQ,Zr,kr⟩
def eS(X j:Nat->Prop)(g gd:Nat)(B:cJ)(W:aP):Prop:=iz B/\∃p,cS (λk=>X k∨cO p k) p B W/\p.key=(g,gd)/\∀k,j k->¬cO p k/\k<Z (D W)
section
variable {X X' aS Z':Nat->Prop} {g gd:Nat} {B B':cJ} {W W':aP}
theorem eS.more(h:eS X aS g gd B W)(k:K W W')(z:∀k,X' k->X k∨(Z (D W)<=k/\k<Z (D W')))(A:∀k,Z' k->aS k∨(Z (D W)<=k/\k<Z (D W'))):eS X' Z' g gd B W':=by
 obtain⟨C,p,hb,hg,hz⟩:=h;refine⟨C,p,hb.far (X:=λ_=>False) (bf.bS k _) (λ_ h=>h.elim) (λ_ h=>h.elim) (λj t y=>y.elim (λh=>aI ((z j h).resolve_right aZ)) aJ) (λ_ h=>aJ h) (λj t=>?_),hg,λj t=>?_⟩
 ·rcases t with h|h
  ·rcases z j h with h|h
   ·exact cQ (hb.low j (aI h)) k.size
   ·exact h.2
  ·exact cQ (hb.low j (aJ h)) k.size
 ·rcases A j t with h|h
  ·exact⟨(hz j h).1,cQ (hz j h).2 k.size⟩
  ·exact⟨λy=>by have:=hb.low j (hb.sub j y);omega,h.2⟩
theorem eS.st(h:eS X aS g gd B W)(k:K W W'):eS X aS g gd B W':=h.more k (λ_ h=>aI h) λ_ h=>aI h
theorem eS.less(h:eS X aS g gd B W)(t:∀k,X' k->X k)(j:∀k,Z' k->aS k):eS X' Z' g gd B W:=h.more (K.rf W) (λk hk=>aI (t k hk)) λk hk=>aI (j k hk)
theorem eS.n{p}(j:∀k,aS k->¬cO p k/\k<Z (D W))(hg:p.key=(g,gd))(A:iz B')(h:eX (λk=>X k∨cO p k) p B' W W'):eS X aS g gd B' W'/\bf (λk=>¬aS k) W W':=by
 obtain⟨p',y,t,z,C⟩:=h
 refine⟨⟨A,p',y.less (λ_ h=>aJ h) (λ_ h=>h.elim (λh=>aI (aI h)) aJ),z.trans hg,λk hk=>⟨λB=>?_,cQ (j k hk).2 t.size⟩⟩,t.more λk hk hz=>(j k hz).1 hk⟩
 grind
theorem eS.call{f args r}(h:eS X aS g gd B W)(j:∀p,cS (λk=>X k∨cO p k) p B W->p.key=(g,gd)->aK prog f args W λe w'=>e=ak r/\eX (λk=>X k∨cO p k) p B' W w')(t:iz B') :
 aK prog f args W λe w'=>e=ak r/\eS X aS g gd B' w'/\bf (λk=>¬aS k) W w':=by
 obtain⟨-,p,hb,hg,hz⟩:=h
 exact (j p hb hg).mono λe w' h=>⟨h.1,eS.n hz hg t h.2⟩
theorem aCP(h:eS X aS g gd B W) c(j:cV c)(hn:B.calls+1<4611686018427387904) :
 aK prog 101 #[aj (I ⟨g,0,U⟩),G J c] W λe w'=>e=ak (au #[di (y5 B c).2.1,G J (y5 B c).2.2])/\eS X aS g gd (y5 B c).1 w'/\bf (λk=>¬aS k) W w' :=
 h.call (λp hb e=>kg e▸atn hb h.1.tocX c j) (h.1.begin hn j)
theorem aER(h:eS X aS g gd B W) c(j:cV c)(hn:B.calls+1<4611686018427387904)(n:Nat)(y:n<18446744073709551616) f vf(A:fQ f vf W)(hfit:∀t∈f,jF t)(z:Q f<=1000000) :
 aK prog 54 #[aj (I ⟨g,0,U⟩),G J c,G E n,vf] W λe w'=>e=ak (au #[di (Bt B c n f).2.1,G J (Bt B c n f).2.2])/\eS X aS g gd (Bt B c n f).1 w'/\bf (λk=>¬aS k) W w' :=
 h.call (λp hb e=>kg e▸avL hb h.1.tocX c j n y f vf A hfit z) (h.1.ask hn tg j y hfit)
theorem aCQ(h:eS X aS g gd B W) c(j:cV c)(hn:B.calls+1<4611686018427387904)(n:Nat)(t:n<18446744073709551616) :
 aK prog 102 #[aj (I ⟨g,0,U⟩),G J c,G E n] W λe w'=>e=ak (au #[di (Bb B c n).2.1,G J (Bb B c n).2.2])/\eS X aS g gd (Bb B c n).1 w'/\bf (λk=>¬aS k) W w' :=
 h.call (λp hb e=>kg e▸ato hb h.1.tocX c j n t) (h.1.ask hn tg j t bq)
theorem aAb(h:eS X aS g gd B W) a(A:dX a) j u(z:iT j u W)(y:Q j<=1000000)(t:∀x∈j,ny x) :
 aK prog 114 #[aj (I ⟨g,0,U⟩),di a,u] W λe w'=>e=ak (G J (fV B (jq B.bH a j)).2)/\eS X aS g gd (fV B (jq B.bH a j)).1 w'/\bf (λk=>¬aS k) W w' :=
 h.call (λp hb e=>kg e▸asd hb h.1.tocX a j u z y t) (h.1.Kx t A)
theorem aBG(h:eS X aS g gd B W) a(j:dX a) :
 aK prog 115 #[aj (I ⟨g,0,U⟩),di a] W λe w'=>e=ak (G J (fV B (jN B.bH a)).2)/\eS X aS g gd (fV B (jN B.bH a)).1 w'/\bf (λk=>¬aS k) W w' :=
 h.call (λp hb e=>kg e▸asI hb h.1.tocX a) (h.1.KH j)
theorem aBH(h:eS X aS g gd B W) a :
 aK prog 51 #[aj (I ⟨g,0,U⟩),di a] W λe w'=>e=ak (G J (Ib B a))/\K W w':=by
 obtain⟨j,p,hb,hg,-⟩:=h
 obtain rfl:=kg hg
 exact asP hb j.tocX a
theorem aDx(h:eS X aS g gd B W) c j :
 aK prog 69 #[aj (I ⟨g,0,U⟩),G J c,G J j] W λe w'=>∃v',e=ak (au #[v',G J (nu B c j).2.1,G J (nu B c j).2.2])/\cE (Z (D W)) (Z (D W)) 35 dS (nu B c j).1 v' w'/\K W w':=by
 obtain⟨t,p,hb,hg,-⟩:=h
 obtain rfl:=kg hg
 exact auY hb t.tocX c j
theorem aCR(h:eS X aS g gd B W) :
 aK prog 43 #[aj (I ⟨g,0,U⟩)] W λe w'=>∃vl vp va,e=ak (av (dY B.st vl vp va))/\nF (λk=>k<Z (D W)) B.st vl vp va w'/\K W w':=by
 obtain⟨j,p,hb,hg,-⟩:=h
 obtain rfl:=kg hg
 exact atr hb j.tocX
theorem eS.new{gd vh e q}(h:abc gd vh B W e W' q)(z:iz B)(y:∀k,X k->k<Z (D W))(j:∀k,aS k->¬mZ gd vh k/\k<Z (D W)):eS X aS q.g gd B W'/\bf (λk=>¬aS k) W W':=by refine⟨⟨z,q,h.br.less (λ_ h=>aJ h) (λk h=>h.imp (y k) id),(by unfold pH.key;rw[h.dd]),λk hk=>⟨λt=>?_,cQ (j k hk).2 h.up.size⟩⟩,h.up.more λk hk hz=>(j k hz).1 hk⟩;rcases h.new k t with h|h;all_goals grind
end
theorem cX.open_{me p bj d s}(y:iQ p=aA)(hm:iJ p me=aA)(t:nV p bj=aA)(j:jl d s):iz (wZ me p bj d s) :=
 ⟨⟨y,hm,t,j,lG.nil,y4,y4,y4,y4,y4,y4⟩,ji.nil⟩
section
variable {X aS:Nat->Prop} {g gd:Nat} {B:cJ} {W:aP}
theorem aBI(h:eS X aS g gd B W)(z:mT B)(y:Q B.told+16<=1000000) j b t(hb:sl b t W)(C:Q b<=1000000000) :
 aK prog 106 #[aj (I ⟨g,0,U⟩),G J j,t] W λe w'=>e=ak (G J (jr B j b).2)/\eS X aS g gd (jr B j b).1 w'/\bf (λk=>¬aS k) W w' :=
 h.call (λp A e=>kg e▸asW A h.1.tocX z y j b t hb C) (Xe z h.1 j b y).1
theorem aCS(h:eS X aS g gd B W) a(j:dX a) :
 aK prog 116 #[aj (I ⟨g,0,U⟩),di a] W λe w'=>e=ak (G J (fV B (jO B.bH a)).2)/\eS X aS g gd (fV B (jO B.bH a)).1 w'/\bf (λk=>¬aS k) W w' :=
 h.call (λp hb e=>kg e▸atm hb h.1.tocX a) (h.1.abort j)
end
theorem auZ{B}(y:cX B)(t:mT B):∀x∈xd B,Q x.2<=1000000000:=by
 have key:∀(k:Int) (m:gM),pW m->∀x∈xc k m,Q x.2<=1000000000:=λk m hm x j=>by
  grind [xc,az2,iZ]
 intro x j
 grind [xd,vI,vJ,afn,aeU]
def Cq(m:Int)(p bj:List Int)(B:cJ):Prop:=B.me=m/\B.par=p/\B.bj=bj
section
variable {m:Int} {p bj:List Int} {B:cJ}
theorem Cq.note B r(h:Cq m p bj B):Cq m p bj (fk B r).1:=by
 unfold fk;split
 ·split <;> exact h
 ·exact h
theorem Cq.handle(h:Cq m p bj B)(y:cX B) t b:Cq m p bj (jr B t b).1:=by
 unfold jr;split
 ·split
  ·exact h
  ·next x hx =>
   split
   ·have j:=MQ (Rz (k:=t) y (Ru hx).2 (RI hx));exact⟨j.me.trans h.1,j.par.trans h.2.1,j.bj.trans h.2.2⟩
   ·split
    ·exact agT Cq.note (λ_ _ h=>h) (λ_ _ h=>h) h x
    ·exact h
 ·exact h
end
structure OV(par bj:List Int)(n:Nat)(x:JL)(k:Nat):Prop where
 down:x.up=U->∃s,jl x.dk s/\s.life<=k+1/\(∀a∈s.ab,dI s.list a=az)/\Q s.prom<=6
 up:∀B,x.up=I B->x.dk=B.dk/\iz B/\mC B k/\B.st.life<=k+1/\Cq n par bj B
structure dh(par bj:List Int)(O:cP)(k:Nat):Prop where
 iK:pY O
 uA:O.par=par
 EW:O.bj=bj
 gq:∀(n:Nat) x,O.gq[n]?=I x->OV par bj n x k
 key:O.dR.map (·.1)=(Im par).map (·.1)
 few:∀q∈O.dR,Q q.2<=8
 gl:∀l∈O.got,Q l<=k
structure Dl(B B':cJ)(k:Nat):Prop where
 aES:iz B'
 run:mC B' k
 life:B'.st.life=B.st.life
 me:∀ {m p bj},Cq m p bj B->Cq m p bj B'
theorem mC.mono{B n k}(h:mC B n)(hk:n<=k):mC B k:=⟨h.inv,h.fit,by have:=h.told;omega,by have:=h.calls;omega⟩
theorem EG{O m B}(h:eF O m=I B):∃n:Nat,m=(n:Int)/\n<Q O.par/\∃x,O.gq[n]?=I x/\x.up=I B:=by
 grind [eF,mq,iJ]
theorem KJ{d s}(h:jl d s):G2 d=s:=by unfold G2;rw[h.run];rfl
theorem aAc B c j:(jR B c j).1.st=B.st/\(jR B c j).1.me=B.me/\(jR B c j).1.par=B.par/\(jR B c j).1.bj=B.bj:=by
 grind [jR]
theorem aAd B r:(fV B r).1.st=B.st/\(fV B r).1.me=B.me/\(fV B r).1.par=B.par/\(fV B r).1.bj=B.bj:=by
 grind [fV]
section
variable {B B':cJ} {k j:Nat} {par bj:List Int} {O:cP} {n:Nat} {x:JL} {m:Int}
theorem Dl.call{c j}(H:iz (jR B c j).1)(y:mC B k):Dl B (jR B c j).1 (k+1):=by obtain⟨z,t,A,C⟩:=aAc B c j;exact⟨H,y.call c j,by rw[z],λh=>⟨t.trans h.1,A.trans h.2.1,C.trans h.2.2⟩⟩
theorem Dl.keep{r}(C:iz (fV B r).1)(t:mC B k):Dl B (fV B r).1 (k+1):=by obtain⟨y,j,z,A⟩:=aAd B r;exact⟨C,t.keep r,by rw[y],λh=>⟨j.trans h.1,z.trans h.2.1,A.trans h.2.2⟩⟩
theorem Dl.work(t:iz B)(y:mC B k):Dl B (iX B) (k+1):=by have j:=MQ t.tocX;exact⟨t.work,y.work t.tocX,j.life,λh=>⟨j.me.trans h.1,j.par.trans h.2.1,j.bj.trans h.2.2⟩⟩
theorem Dl.handle(y:iz B)(t:mC B k) j b(hk:k<=50000):Dl B (jr B j b).1 (k+1) :=
 ⟨(Xe t.fit y j b (by have:=t.told;omega)).1,t.handle y j b hk,(af2 t.inv j b).1.life,λh=>h.handle y.tocX j b⟩
theorem OV.mono(h:OV par bj n x k)(hk:k<=j):OV par bj n x j :=
 ⟨λe=>(h.down e).imp λs h=>⟨h.1,by have:=h.2.1;omega,h.2.2⟩,λB e=>by obtain⟨z,y,A,C,t⟩:=h.up B e;exact⟨z,y,A.mono hk,by omega,t⟩⟩
theorem dh.mono(h:dh par bj O k)(hk:k<=j):dh par bj O j:=⟨h.iK,h.uA,h.EW,λn x e=>(h.gq n x e).mono hk,h.key,h.few,λl t=>cI (h.gl l t) hk⟩
theorem dh.up(h:dh par bj O k)(t:eF O m=I B):iz B/\mC B k/\B.st.life<=k+1/\Cq m par bj B:=by obtain⟨n,rfl,-,x,y,j⟩:=EG t;exact ((h.gq n x y).up B j).2
theorem dh.set(h:dh par bj O k) n(hk:k<=j)(z:OV par bj n x j):dh par bj (oL O n x) j:=by
 refine⟨⟨h.iK.tr,h.iK.hm,?_,h.iK.lc,h.iK.lg⟩,h.uA,h.EW,λi y e=>?_,h.key,h.few,λl t=>cI (h.gl l t) hk⟩
 ·show Q (O.gq.set _ x)=_;rw[List.length_set];exact h.iK.ln
 ·unfold oL at e;simp only[Int.toNat_natCast,List.getElem?_set]at e;split at e
  ·grind
  ·exact (h.gq i y e).mono hk
theorem dh.put(h:dh par bj O k)(z:eF O m=I B)(hk:k<=j)(t:Dl B B' j):dh par bj (rZ O m B') j:=by
 obtain⟨n,rfl,-,x,A,y⟩:=EG z;have H:=(h.gq n x A).up B y;exact h.set n hk ⟨λe=>by simp at e,λC e=>by
  simp at e;subst e;exact⟨rfl,t.aES,t.run,by have:=t.life;omega,t.me H.2.2.2.2⟩⟩
theorem dh.call{α}(h:dh par bj O k) c z(f:cJ->cJ×α×Int)(t:∀B,iz B->mC B k->Dl B (f B).1 (k+1)):dh par bj (tF O c z f).1 (k+1):=by
 unfold tF;split
 ·split
  ·exact h.mono (aH k)
  ·next B hu =>
   have j:=h.up hu;exact h.put hu (aH k) (t B j.1 j.2.1)
 ·exact h.mono (aH k)
theorem dh.begin(h:dh par bj O k)(hk:k<=50000){c}(t:cV c):dh par bj (ph O c).1 (k+1) :=
 h.call c _ _ λB j hr=>.call (j.begin Z6 t) hr
theorem dh.sub(h:dh par bj O k)(hk:k<=50000){c}(j:cV c){s}(y:s<18446744073709551616){f}(z:∀t∈f,jF t):dh par bj (qY O c s f).1 (k+1) :=
 h.call c _ _ λB A hr=>.call (A.ask Z6 tg j y z) hr
theorem dh.aaI(h:dh par bj O k)(hk:k<=50000){c}(j:cV c){s}(t:s<18446744073709551616):dh par bj (qL O c s).1 (k+1) :=
 h.call c _ _ λB y hr=>.call (y.ask Z6 tg j t bq) hr
theorem dh.keep(h:dh par bj O k) c a f(t:∀B,iz B->iz (fV B (f B.bH)).1):dh par bj (jB O c a f).1 (k+1):=by
 unfold jB xF;split
 ·exact h.mono (aH k)
 ·exact h.call c _ _ λB y j=>.keep (t B y) j
theorem FT{L k l}(h:nI L k=I l):(k,l)∈L:=by
 grind [nI,Option.map_eq_some_iff,List.mem_of_find?_eq_some]
theorem Nc L k l:(jV L k l).map (·.1)=L.map (·.1):=by
 grind [jV,List.map_map,List.map_congr_left]
theorem Nd{L k l}(h:∀q∈L,Q q.2<=8)(j:Q l<=8):∀q∈jV L k l,Q q.2<=8:=by
 grind [jV]
theorem ayd{L}(h:∀q∈L,Q q.2<=8) k b:(xg L k b).map (·.1)=L.map (·.1)/\∀q∈xg L k b,Q q.2<=8:=by
 unfold xg;split
 ·split
  ·next l e hl=>exact⟨Nc _ _ _,Nd h bG⟩
  ·grind
 ·grind
theorem agV n:∀(l:List (Int×List UInt8)) {L:List lu},(∀q∈L,Q q.2<=8)->(l.foldl (λL m=>xg L (n,m.1) m.2) L).map (·.1)=L.map (·.1)/\∀q∈l.foldl (λL m=>xg L (n,m.1) m.2) L,Q q.2<=8
 | [],_,h=>⟨rfl,h⟩
 | x :: l,L,h=>by have t:=ayd h (n,x.1) x.2;have j:=agV n l t.2;exact⟨j.1.trans t.1,j.2⟩
theorem dh.dR(h:dh par bj O k){L}(j:L.map (·.1)=O.dR.map (·.1))(t:∀q∈L,Q q.2<=8):dh par bj { O with dR:=L } k :=
 ⟨⟨h.iK.tr,h.iK.hm,h.iK.ln,h.iK.lc,h.iK.lg⟩,h.uA,h.EW,h.gq,j.trans h.key,t,h.gl⟩
theorem dh.tick(h:dh par bj O k) n:dh par bj (pw O n).1 (k+1):=by
 unfold pw;split
 ·split
  ·exact h.mono (aH k)
  ·next B hu =>
   have j:=h.up hu;have y:=h.put hu (aH k) (.work j.1 j.2.1);have t:=agV n (xd (iX B)) h.few;exact y.dR t.1 t.2
 ·exact h.mono (aH k)
theorem dh.EB(h:dh par bj O k)(hk:k<=50000) a b:dh par bj (nJ O a b).1 (k+1):=by
 unfold nJ;split
 ·exact h.mono (aH k)
 ·exact h.mono (aH k)
 ·next m l hm =>
  have y:=h.few _ (FT hm);simp only[fY]at y;have t:dh par bj { O with dR:=jV O.dR (a,b) l } k:=h.dR (Nc _ _ _) (Nd h.few aZ);have e:eF { O with dR:=jV O.dR (a,b) l } b=eF O b:=rfl;simp only[e];split
  ·exact t.mono (aH k)
  ·next B hu =>
   have j:=h.up hu;exact t.put hu (aH k) (.handle j.1 j.2.1 a m hk)
theorem dh.drain a b:∀(j:Nat) {O:cP} {k:Nat},dh par bj O k->k+j<=50000->dh par bj (Be a b j O) (k+j)
 | 0,_,_,h,_=>h
 | j+1,_,k,h,hk=>by have:=dh.drain a b j (h.EB aZ a b) aZ;rw[show k+(j+1)=k+1+j by omega];exact this
theorem dh.long(h:dh par bj O k) a b:pz O a b<=8:=by
 unfold pz
 cases e:nI O.dR (a,b)with
 | none=>simp
 | some l=>exact h.few _ (FT e)
theorem dh.FZ n:∀(l:List Nat) {O:cP} {k:Nat},dh par bj O k->k+8*Q l<=50000->dh par bj (l.foldl (λO (t:Nat)=>if t=n then O else Be n t (pz O n t) O) O) (k+8*Q l)
 | [],_,_,h,_=>h
 | t :: l,O,k,h,hk=>by
  simp only[fY,List.foldl_cons]at hk⊢;rw[show k+8*(Q l+1)=k+8+8*Q l by omega];refine dh.FZ n l ?_ aZ;split
  ·exact h.mono aZ
  ·have:=h.long n t;exact (h.drain n t _ aZ).mono aZ
theorem dh.turn(h:dh par bj O k)(hp:Q par<=6)(hk:k+49<=50000) n:dh par bj (vK O n) (k+49):=by
 have t:=h.tick n;have e:=h.uA;unfold vK;split
 ·have j:=dh.FZ n (List.range (Q O.par)) t bG;exact j.mono bG
 ·exact h.mono aZ
theorem dh.turns(hp:Q par<=6):∀(l:List Nat) {O:cP} {k:Nat},dh par bj O k->k+49*Q l<=50000->dh par bj (l.foldl vK O) (k+49*Q l)
 | [],_,_,h,_=>h
 | t :: l,O,k,h,hk=>by simp only[fY,List.foldl_cons]at hk⊢;rw[show k+49*(Q l+1)=k+49+49*Q l by omega];exact dh.turns hp l (h.turn hp aZ t) aZ
theorem dh.round(h:dh par bj O k)(hp:Q par<=6)(hk:k+588<=50000):dh par bj (EF O) (k+588):=by have e:=h.uA;have j:=dh.turns hp ((List.range (Q O.par)).reverse++List.range (Q O.par)) h bG;exact j.mono bG
theorem dh.aaJ(h:dh par bj O k) n:dh par bj (Dc O n).1 k:=by
 unfold Dc;split
 ·split
  ·exact h
  ·next B hu =>
   obtain⟨y,j,t,z⟩:=h.up hu;obtain⟨i,rfl,-⟩:=EG hu;exact h.set i (bL k) ⟨λ_=>⟨B.st,y.dk,t,j.inv.ab,j.inv.prom⟩,λC e=>bG⟩
 ·exact h
theorem mC.open_{me p q d s}(t:∀a∈s.ab,dI s.list a=az)(j:Q s.prom<=6):mC (wZ me p q d (eJ s)) k:=⟨⟨t,j⟩,⟨y4,y4,y4,y4⟩,y4,y4⟩
theorem dh.down(h:dh par bj O k)(t:mq O m=aA)(j:eF O m=U):∃n:Nat,m=(n:Int)/\n<Q par/\∃d s,O.gq[n]?=I ⟨U,d⟩/\jl d s/\s.life<=k+1/\(∀a∈s.ab,dI s.list a=az)/\Q s.prom<=6:=by
 unfold eF at j;rw[bT t]at j;unfold mq iJ at t;simp only[fB,decide_eq_true_eq]at t;obtain⟨n,rfl⟩:=Int.eq_ofNat_of_zero_le t.1;have y:n<Q O.gq:=by have:=h.iK.ln;omega
 rw[Int.toNat_natCast,aE y]at j;have z:=(h.gq n _ (aE y)).down j;obtain⟨s,A⟩:=z;refine⟨n,rfl,by rw[<- h.uA];omega,O.gq[n].dk,s,?_,A⟩;rw[aE y];exact congrArg I (by cases hx:O.gq[n];rw[hx]at j;simp at j;simp[j])
theorem dh.Z7(h:dh par bj O k) n(hk:k<=50000):dh par bj (Cw O n).1 (k+1):=by
 unfold Cw;split
 ·next hi =>
  split
  ·exact h.mono (aH k)
  ·next hu =>
   have y:eF O n=none:=Kf;obtain⟨i,rfl,B,d,s,z,j,H,A,t⟩:=h.down hi y;unfold tG;simp only[Int.toNat_natCast,z,Option.map_some,Option.getD_some,KJ j];split
   ·next hr =>
    rw[h.uA,h.EW];refine h.set i (aH k) ⟨λe=>by simp at e,λC e=>?_⟩;simp at e;subst e;refine⟨rfl,cX.open_ (h.uA▸h.iK.tr) ?_ (h.uA▸h.EW▸h.iK.hm) (j.life hr),mC.open_ A t,?_,rfl,rfl,rfl⟩
    ·unfold iJ;simp;omega
    ·show (s.life+1)%18446744073709551616<=_;omega
   ·exact h.mono (aH k)
 ·exact h.mono (aH k)
theorem dh.IP(h:dh par bj O k) c:dh par bj (jE O c).1 (k+1):=by
 have hm:=h.mono (aH k);unfold jE;split
 ·split
  ·exact hm
  ·dsimp only;split
   ·refine⟨⟨h.iK.tr,h.iK.hm,h.iK.ln,?_,?_⟩,h.uA,h.EW,hm.gq,h.key,h.few,λl j=>?_⟩
    ·simp[h.iK.lc]
    ·dsimp only;split
     ·exact h.iK.lg
     ·simp[h.iK.lg]
    ·dsimp only at j;split at j
     ·exact hm.gl l j
     ·obtain⟨i,t,rfl⟩:=List.getElem_of_mem j;rw[List.getElem_modify];have h9:=h.gl _ (dG (show i<Q O.got by grind));split
      ·grind
      ·omega
   ·exact hm
 ·exact hm
theorem awu p:∀q∈Im p,Q q.2<=8:=by
 grind [Im]
theorem dh.new(t:iQ par=aA)(j:nV par bj=aA){room}(y:jQ (eY (eJ eP))<=room)(z:room<=1048576):dh par bj (lZ par bj room) 0:=by
 refine⟨⟨t,j,NW,NW,NW⟩,rfl,rfl,λn x e=>?_,rfl,awu par,λl A=>by grind [lZ]⟩;have hn:n<Q par:=by
  grind [iQ,nV,jQ,eY,eJ,eP,lZ]
 simp[lZ,hn]at e;subst e;refine⟨λe=>bG,λC e=>?_⟩;simp at e;subst e;exact⟨rfl,cX.open_ t (by grind [iJ]) j ((jl.new z).life y),mC.open_ AR AR,by simp[wZ,eJ,eP],rfl,rfl,rfl⟩
end
section
open Go Go.RowKit Go.Conc
def mM(c:Nat)(l:List aQ)(w:aP):Prop:=∃s r,w.heap[c]?=I (.chan 8 l.toArray az s r az)
theorem mM.cA{X c l w w'}(h:mM c l w)(u:bf X w w')(j:¬X c):mM c l w':=by obtain⟨s,r,h⟩:=h;exact⟨s,r,(u.block c (aG.1 h).1 j).trans h⟩
theorem mM.lt{c l w}(h:mM c l w):c<Z (D w):=h.elim λ_ h=>h.elim λ_ h=>(aG.1 h).1
theorem ahD{c w cap buf cl tm s r}:bf (λk=>k=c) w (w.setChan c cap buf cl s r tm) :=
 ⟨rfl,rfl,rfl,by simp[World.setChan],λk _ hk=>by simp[World.setChan,Array.getElem?_setIfInBounds_ne (Ne.symm hk)]⟩
theorem MR c l v w(h:mM c l w) :
 aK prog 167 #[.chan (I c),v] w λe w'=>e=ak (ar (decide (Q l<8)))/\mM c (if Q l<8 then l++[v]else l) w'/\bf (λk=>k=c) w w':=by
 refine calls_of_loneTo λcs=>?_
 obtain⟨s,r,hb⟩:=h
 have e:Frame.enter prog 167 #[.chan (I c),v] .normal=(base 167).at ⟨#[.chan (I c),v,undef,undef,undef,undef,undef,undef,undef,undef],[]⟩ [.code (f167.body.getD .skip)]:=by rfl
 rw[e]
 refine LoneTo.goes (n:=14) ?_
 simp only[f167,Option.getD_some]
 s_c stepG_seq
 s_reg
 s_op
 s_c stepG_region_end
 s_c stepG_seq
 s_c stepG_seq
 s_reg
 s_op
 s_c stepG_region_end
 s_reg
 s_op
 s_c stepG_region_end
 s_c stepG_seq
 s_reg
 s_stop
 by_cases hl:Q l<8
 ·refine LoneTo.step (step_lone_select_send_room (c:=c) (cap:=8) (buf:=l.toArray) (s:=s) (r:=r) (tm:=false) (stepG_comm (cases:=#[scase c v (F U 0 0)]) (blocking:=false) (shape:=.select) (w':=w) rfl rfl bC alV) hb aZ) ?_;rw[Frame.finish_at];walk_nrm
  refine LoneTo.goes (n:=10) ?_;s_op
  s_op
  s_c stepG_region_end
  s_c stepG_block
  s_cond aA
  s_c stepG_seq
  s_reg
  s_op
  s_c stepG_region_end
  s_c stepG_ret'
  s_stop
  refine LoneTo.done ⟨ak (ar aA),_,rfl,⟨by simp[hl],⟨s+1,r,?_⟩,ahD⟩,rfl,rfl,rfl,rfl,_,func167,alW⟩;rw[bT hl,heap_setChan _ _ _ _ _ _ _ _ (aG.1 hb).1]
 ·refine LoneTo.step (step_lone_select_send_full (c:=c) (cap:=8) (buf:=l.toArray) (s:=s) (r:=r) (tm:=false) (stepG_comm (cases:=#[scase c v (F U 0 0)]) (blocking:=false) (shape:=.select) (w':=w) rfl rfl bC alV) hb Za) ?_;rw[Frame.finish_at];walk_nrm
  refine LoneTo.goes (n:=10) ?_;s_op
  s_op
  s_c stepG_region_end
  s_c stepG_block
  s_cond az
  s_c stepG_seq
  s_reg
  s_op
  s_c stepG_region_end
  s_c stepG_ret'
  s_stop
  exact LoneTo.done ⟨ak (ar az),_,rfl,⟨by simp[hl],by rw[bO hl];exact⟨s,r,hb⟩,bf.rf _ _⟩,rfl,rfl,rfl,rfl,_,func167,alW⟩
theorem WT c l w(h:mM c l w) :
 aK prog 168 #[.chan (I c)] w λe w'=>e=ak (au #[l.headD (F U 0 0),ar (!l.isEmpty)])/\mM c l.tail w'/\bf (λk=>k=c) w w':=by
 refine calls_of_loneTo λcs=>?_
 obtain⟨s,r,hb⟩:=h
 have e:Frame.enter prog 168 #[.chan (I c)] .normal=(base 168).at ⟨#[.chan (I c),undef,undef,undef,undef,undef,undef,undef,undef,undef,undef],[]⟩ [.code (f168.body.getD .skip)]:=by rfl
 rw[e]
 refine LoneTo.goes (n:=11) ?_
 simp only[f168,Option.getD_some]
 s_c stepG_seq
 s_reg
 s_op
 s_op
 s_c stepG_region_end
 s_c stepG_seq
 s_reg
 s_op
 s_c stepG_region_end
 s_c stepG_seq
 s_reg
 s_stop
 cases l with
 | cons x l =>
  refine LoneTo.step (step_lone_select_recv_buf (c:=c) (cap:=8) (buf:=(x :: l).toArray) (s:=s) (r:=r) (tm:=false) (stepG_comm (cases:=#[rcase c (F U 0 0)]) (blocking:=false) (shape:=.select) (w':=w) rfl rfl bC alX) hb bq) ?_
  rw[Frame.finish_at]
  walk_nrm
  refine LoneTo.goes (n:=17) ?_
  s_op
  s_op
  s_c stepG_region_end
  s_c stepG_block
  s_cond aA
  s_c stepG_seq
  s_reg
  s_op
  s_op
  s_c stepG_region_end
  s_c stepG_seq
  s_reg
  s_op
  s_op
  s_op
  s_c stepG_region_end
  s_c stepG_ret'
  s_stop
  refine LoneTo.done ⟨ak (au #[x,ar aA]),_,rfl,⟨rfl,⟨s,r+1,?_⟩,ahD⟩,rfl,rfl,rfl,rfl,_,func168,alY⟩
  rw[heap_setChan _ _ _ _ _ _ _ _ (aG.1 hb).1]
  simp
 | nil =>
  refine LoneTo.step (step_lone_select_default (c:=c) (cap:=8) (s:=s) (r:=r) (tm:=false) (stepG_comm (cases:=#[rcase c (F U 0 0)]) (blocking:=false) (shape:=.select) (w':=w) rfl rfl bC alX) hb) ?_
  rw[Frame.finish_at]
  walk_nrm
  refine LoneTo.goes (n:=11) ?_
  s_op
  s_op
  s_c stepG_region_end
  s_c stepG_block
  s_cond az
  s_c stepG_seq
  s_reg
  s_op
  s_op
  s_c stepG_region_end
  s_c stepG_ret'
  s_stop
  exact LoneTo.done ⟨ak (au #[F U 0 0,ar az]),_,rfl,⟨rfl,⟨s,r,hb⟩,bf.rf _ _⟩,rfl,rfl,rfl,rfl,_,func168,alY⟩
end
section
open Go Go.RowKit Go.ChangeMaps
theorem aET{α}[DecidableEq α]{enc P T j}(hu:P.underlying T=some (.struct j))(he:∀x y w,(Op.equal T (enc x) (enc y)).run P w=.ok (decide (x=y)) w)
 (hn:∀k v,Instr.sameNow (.struct j) (enc k) v=U) (t:∀(k:α) (em:Bool) (w:aP),(Instr.checkKey em 10000 T (enc k)).run P w=.ok () w) (hb:∀k,Instr.sameBits 10000 (enc k) (enc k)=aA):IC P T enc:=by
 refine⟨λk es bu w h=>?_,t,hb⟩
 have key:∀(es:List MapEntry) (bu:List (α×aQ)) (i:Nat),es.map (λe=>(e.key,e.val))=bu.map (λp=>(enc p.1,p.2))->(Instr.findAsking T (enc k) es i).run P w=.ok (iG k bu i) w:=by
  intro es
  induction es with
  | nil=>intro bu i h;cases bu <;> simp_all [Instr.findAsking,iG] <;> rfl
  | cons e es ih=>intro bu i h;cases bu with
   | nil=>simp at h
   | cons p r => simp only[lT,List.cons.injEq,Prod.mk.injEq]at h;obtain⟨⟨h1,z⟩,h3⟩:=h;exact aiE
 cases es with
 | nil => exact aiF
 | cons e es =>
  have h9:Instr.findNow (.struct j) (enc k) (e :: es) 0=none:=by rfl
  simp[Instr.findKey,run_underlying hu,h9,key (e :: es) bu 0 h]
def p6(a:Int×Int):aQ:=av #[G J a.1,G J a.2]
theorem aoA:IC prog 157 p6 :=
 aET underlying157 (λx y w=>by
  obtain⟨a,b⟩:=x;obtain⟨c,d⟩:=y;unfold p6;show (Op.equalIn (9998+1+1) _ _ _).run _ _=_;simp[go_sem,JZ];by_cases j:a=c <;> by_cases t:b=d <;> simp[j,t] <;> omega) (λk v=>by unfold Instr.sameNow p6;split <;> simp_all) (λk z w=>by unfold p6;kernel_rfl) λk=>by unfold p6;simp[Instr.sameBits]
end
theorem Ct{y t bu} a b w(hb:bn w y 153 #[.map (I t)])(hm:fC p6 w t bu) :
 aK prog 154 #[aj (I ⟨y,0,U⟩),G J a,G J b] w λe w'=>e=ak (au #[(eA bu (a,b)).getD (.chan U),G J (if (eA bu (a,b)).isSome then 0 else 140)])/\w'=w:=by
 have q:=hb.cell
 have j:=(Ej aoA underlying151 (z:=.chan U) cY hm (a,b)).1
 unfold p6 at j
 simp only at j
 go_in
 cases h:eA bu (a,b) <;> rw[h]at j
 ·simp only[Option.getD_none,Option.isSome_none]at j;go_wp2;go_ret2;exact⟨rfl,rfl⟩
 ·simp only[Option.getD_some,Option.isSome_some]at j;go_wp2;go_ret2;exact⟨rfl,rfl⟩
section
variable {gn gm c:Nat} {bu:List ((Int×Int)×aQ)} {l:List aQ} {w:aP} {a b:Int}
theorem aAe(hb:bn w gn 153 #[.map (I gm)])(hm:fC p6 w gm bu)(hk:eA bu (a,b)=U) :
 aK prog 105 #[aj (I ⟨gn,0,U⟩),G J a,G J b] w λe w'=>e=ak (au #[F U 0 0,G J 140])/\w'=w:=by
 have j:=aY (Ct a b w hb hm)
 rw[hk]at j
 go_in
 go_wp2_with fail
 apply bN j.aX
 rintro w' rfl
 simp only[Option.getD_none,Option.isSome_none]
 go_wp2
 go_ret2
 exact⟨rfl,rfl⟩
theorem aAf{v}(hb:bn w gn 153 #[.map (I gm)])(hm:fC p6 w gm bu)(hk:eA bu (a,b)=U) :
 aK prog 104 #[aj (I ⟨gn,0,U⟩),G J a,G J b,v] w λe w'=>e=ak (G J 140)/\w'=w:=by
 have j:=aY (Ct a b w hb hm)
 rw[hk]at j
 go_in
 go_wp2_with fail
 apply bN j.aX
 rintro w' rfl
 simp only[Option.getD_none,Option.isSome_none]
 go_wp2
 go_ret
 exact⟨rfl,rfl⟩
theorem aAg(hb:bn w gn 153 #[.map (I gm)])(hm:fC p6 w gm bu)(hk:eA bu (a,b)=U) :
 aK prog 100 #[aj (I ⟨gn,0,U⟩),G J a,G J b] w λe w'=>e=ak (G J 0)/\w'=w:=by
 have j:=aY (Ct a b w hb hm)
 rw[hk]at j
 go_in
 go_wp2_with fail
 apply bN j.aX
 rintro w' rfl
 simp only[Option.getD_none,Option.isSome_none]
 go_wp2
 go_ret
 exact⟨rfl,rfl⟩
theorem au0(hb:bn w gn 153 #[.map (I gm)])(hm:fC p6 w gm bu)(hk:eA bu (a,b)=I (.chan (I c)))(B:mM c l w)(z:∀x∈l,∃A n d,x=F A n d) :
 aK prog 105 #[aj (I ⟨gn,0,U⟩),G J a,G J b] w λe w'=>e=ak (au #[l.headD (F U 0 0),G J (if l=[]then 141 else 0)])/\mM c l.tail w'/\bf (λk=>k=c) w w':=by
 have j:=aY (Ct a b w hb hm)
 have C:=aY (WT c l w B)
 rw[hk]at j
 go_in
 go_wp2_with fail
 apply bN j.aX
 rintro w' rfl
 simp only[Option.getD_some,Option.isSome_some]
 go_wp2_with fail
 apply bN C.aX
 rintro L⟨H,y⟩
 have t:=aY (aB H y)
 cases l with
 | nil => go_wp2;go_ret2;exact⟨rfl,t.aX⟩
 | cons x l => obtain⟨A,n,d,rfl⟩:=z x bq;simp only[List.headD_cons,List.isEmpty_cons,Bool.not_false];go_wp2;go_ret2;exact⟨bq,t.aX⟩
theorem au1(hb:bn w gn 153 #[.map (I gm)])(hm:fC p6 w gm bu)(hk:eA bu (a,b)=I (.chan (I c)))(hc:mM c l w) :
 aK prog 100 #[aj (I ⟨gn,0,U⟩),G J a,G J b] w λe w'=>e=ak (G J (Q l))/\w'=w:=by
 have j:=aY (Ct a b w hb hm)
 rw[hk]at j
 obtain⟨s,r,hc⟩:=hc
 have:∀ty,(Builtin.len_ #[155] ty #[.chan (I c)]).run prog w=.ok (G J (Q l)) w:=λty=>by exact alZ
 go_in
 go_wp2_with fail
 apply bN j.aX
 rintro w' rfl
 simp only[Option.getD_some,Option.isSome_some]
 go_wp2
 go_ret
 exact⟨rfl,rfl⟩
def aaK(l:List aQ)(v:aQ):List aQ:=if Q l<8 then l++[v]else l
def aaL(n:Nat):Int:=if n<8 then 0 else 141
theorem au2(hb:bn w gn 153 #[.map (I gm)])(hm:fC p6 w gm bu)(hk:eA bu (a,b)=I (.chan (I c)))(N:mM c l w) bs v(R:sl bs v w)(hn:Q bs<=1000000000) :
 aK prog 104 #[aj (I ⟨gn,0,U⟩),G J a,G J b,v] w λe w'=>e=ak (G J (aaL (Q l)))/\(∃v',mM c (aaK l v') w'/\Fx (λk=>k<Z (D w)) (λW=>sl bs v' W) w')/\bf (λk=>k=c) w w':=by
 obtain⟨A,d,rfl,X⟩:=R
 have y:=aY (Ct a b w hb hm)
 have T:=aY (MD A (Q bs) d _ w X (xN bs) hn)
 have B:=aY N
 rw[hk]at y
 go_in
 go_wp2_with fail
 apply bN y.aX
 rintro w' rfl
 simp only[Option.getD_some,Option.isSome_some]
 go_wp2_with fail
 apply dD T.aX
 rintro v' H⟨L,t⟩
 have O:=aY (MR c l v' H (B.aX.cA (bf.bS t (λ_=>False)) id))
 have M:=aY (show Fx (λk=>k<Z (D w')) (λW=>sl bs v' W) H from λW u=>gD (ke L u λk e h=>by have:=(L.lt k e).1;omega))
 have S:=aY t
 have V:=B.aX.lt
 go_wp2_with fail
 apply bN O.aX
 rintro j⟨Y,z⟩
 have C:=aY (show (∃v',mM c (aaK l v') j/\Fx (λk=>k<Z (D w')) (λW=>sl bs v' W) j)/\bf (λk=>k=c) w' j from ⟨⟨v',Y,M.aX.up z λk e=>e▸V⟩,(bf.bS S.aX _).tr z⟩)
 by_cases h8:Q l<8
 ·have h9:=aY (show aaL (Q l)=0 from bT h8);rw[decide_eq_true h8];go_wp2;go_ret;exact⟨by rw[h9.aX];rfl,C.aX⟩
 ·have h9:=aY (show aaL (Q l)=141 from bO h8);rw[decide_eq_false h8];go_wp2;go_ret;exact⟨by rw[h9.aX];rfl,C.aX⟩
end
def Qp(M C:Nat->Prop)(v:aQ)(j:List (List UInt8))(W:aP):Prop:=∃c vs,v=.chan (I c)/\C c/\mM c vs W/\Q vs=Q j/\∀(i:Nat) (h:i<Q vs) (h':i<Q j),Q j[i]<=1000000000/\Fx M (λW=>sl j[i] vs[i] W) W
structure yS(M C:Nat->Prop)(gn gm:Nat)(bu:List ((Int×Int)×aQ))(L:List lu)(W:aP):Prop where
 blk:bn W gn 153 #[.map (I gm)]
 map:fC p6 W gm bu
 len:Q bu=Q L
 ls:∀(i:Nat) (h:i<Q bu) (h':i<Q L),bu[i].1=L[i].1/\Qp M C bu[i].2 L[i].2 W
 nd:(bu.map (·.2)).Nodup
 kn:∀(i j:Nat) (h1:i<Q bu) (h2:j<Q bu),bu[i].1=bu[j].1->i=j
 ne:¬M gn/\¬M gm
 sub:∀k,C k->M k
def o6(M C:Nat->Prop)(t:Nat)(L:List lu)(W:aP):Prop:=∃j bu,yS M C t j bu L W
section
variable {M M' C X:Nat->Prop} {gn gm:Nat} {bu:List ((Int×Int)×aQ)} {L:List lu} {W W':aP} {v:aQ} {ms:List (List UInt8)} {a b:Int}
theorem Qp.to(h:Qp M C v ms W)(u:bf X W W')(N:∀k,X k->M k)(L:∀k,C k->¬X k)(B:∀k,k<Z (D W)->M' k->M k):Qp M' C v ms W':=by obtain⟨c,vs,e,y,A,H,j⟩:=h;exact⟨c,vs,e,y,A.cA u (L c y),H,λi t z=>⟨(j i t z).1,(j i t z).2.to u N B⟩⟩
theorem o6.to(h:o6 M C gn L W)(u:bf X W W')(t:∀k,X k->M k)(N:∀k,C k->¬X k)(j:∀k,k<Z (D W)->M' k->M k)(B:∀k,C k->M' k):o6 M' C gn L W':=by
 obtain⟨z,bu,h⟩:=h;have hg:=h.blk.lt;have hm:z<Z (D W):=by obtain⟨es,c,H,-⟩:=h.map;exact (aG.1 H).1
 exact⟨z,bu,h.blk.cA u λe=>h.ne.1 (t _ e),h.map.cA u λe=>h.ne.2 (t _ e),h.len,λi y A=>⟨(h.ls i y A).1,(h.ls i y A).2.to u t N j⟩,h.nd,h.kn,⟨λe=>h.ne.1 (j _ hg e),λe=>h.ne.2 (j _ hm e)⟩,B⟩
theorem Ky:∀(bu:List ((Int×Int)×aQ)) (L:List lu) (k:Int×Int),Q bu=Q L->(∀(i:Nat) (h:i<Q bu) (h':i<Q L),bu[i].1=L[i].1)->(nI L k=U/\∀j,iG k bu j=U)∨∃i,∃(h:i<Q bu) (h':i<Q L),bu[i].1=k/\nI L k=I L[i].2/\∀j,iG k bu j=I (i+j,bu[i].2)
 | [],[],k,_,_=>aI ⟨rfl,λ_=>rfl⟩
 | [],_ :: _,_,h,_=>yY
 | _ :: _,[],_,h,_=>yY
 | p :: r,q :: s,k,h,he=>by
  have t:=he 0 bq bq;simp only[List.getElem_cons_zero]at t;by_cases hk:p.1=k
  ·exact aJ ⟨0,bq,bq,hk,by simp[nI,<- t,hk],λj=>by simp[iG,hk]⟩
  ·rcases Ky r s k Er (λi h1 h2=>he (i+1) Cx AQ)with ⟨h1,h2⟩|⟨i,h1,h2,h3,z,y⟩
   ·exact aI ⟨by unfold nI at *;simpa [<- t,hk]using h1,λj=>by simp[iG,hk,h2]⟩
   ·exact aJ ⟨i+1,Cx,AQ,Nz,by unfold nI at *;simpa [<- t,hk]using z,λj=>by simp[iG,hk,y];omega⟩
theorem aay{L k l i}(h:i<Q (jV L k l))(j:i<Q L):(jV L k l)[i]=if L[i].1=k then (L[i].1,l)else L[i]:=by simp[jV]
theorem yS.set(h:yS M C gn gm bu L W){i c k}(hi:i<Q bu)(hk:bu[i].1=k)(Y:bu[i].2=.chan (I c)){l}(u:bf (λk=>k=c) W W')(S:Qp M C bu[i].2 l W'):yS M C gn gm bu (jV L k l) W':=by
 have X:C c:=by
  obtain⟨c',vs,e,h1,-⟩:=S
  grind
 have z:=h.sub c X;refine⟨h.blk.cA u λe=>h.ne.1 (e▸z),h.map.cA u λe=>h.ne.2 (e▸z),by simp[jV,h.len],λj h1 R=>?_,h.nd,h.kn,h.ne,h.sub⟩;have B:j<Q L:=by rw[<- h.len];exact h1
 obtain⟨y,O⟩:=h.ls j h1 B;rw[aay R B];by_cases t:L[j].1=k
 ·rw[bT t];obtain rfl:=h.kn j i h1 hi ((y.trans t).trans hk.symm);grind
 ·rw[bO t];refine⟨y,?_⟩;obtain⟨c2,vs,e,V,N,T,A⟩:=O;refine⟨c2,vs,e,V,N.cA u λe2=>t ?_,T,λi hi H=>⟨(A i hi H).1,(A i hi H).2.up u λk e=>e▸z⟩⟩;have:=(List.getElem_inj (h₀:=Cx) (h₁:=Nn) h.nd).1 bG;subst this;exact y.symm.trans hk
theorem afs(h:o6 M C gn L W) :
 aK prog 105 #[aj (I ⟨gn,0,U⟩),G J a,G J b] W λe w'=>∃v z,e=ak (au #[v,G J z])/\bf C W w'/\(nI L (a,b)=U/\z=140/\o6 M C gn L w'∨nI L (a,b)=I []/\z=141/\o6 M C gn L w' ∨
  ∃m l,nI L (a,b)=I (m :: l)/\z=0/\o6 M C gn (jV L (a,b) l) w'/\Q m<=1000000000/\Fx M (λW=>sl m v W) w'):=by
 obtain⟨B,bu,h⟩:=h
 have hU:=h.kn
 rcases Ky bu L (a,b) h.len (λi h1 y=>(h.ls i h1 y).1)with ⟨h1,y⟩|⟨i,h1,y,h3,N,h5⟩
 ·apply bN (aAe h.blk h.map Da);rintro w' rfl;exact⟨_,_,rfl,bf.rf _ _,aI ⟨h1,rfl,B,bu,h⟩⟩
 ·obtain⟨c,vs,e,H,R,q3,t⟩:=(h.ls i h1 y).2;have Y:∀x∈vs,∃A n d,x=F A n d:=λx T=>by
   obtain⟨j,hj,rfl⟩:=List.getElem_of_mem T
   obtain⟨A,d,e,-⟩:=(t j hj aZ).2.now
   grind
  apply bN (au0 h.blk h.map Da R Y);rintro w'⟨X,u⟩;have hM:=h.sub c H;have key:∀l,Q vs.tail=Q l->(∀(j:Nat) (hj:j<Q vs.tail) (hj':j<Q l),Q l[j]<=1000000000/\Fx M (λW=>sl l[j] vs.tail[j] W) w')->yS M C gn B bu (jV L (a,b) l) w':=λl S e2 =>
   h.set h1 h3 e u ⟨c,vs.tail,e,H,X,S,e2⟩
  refine⟨_,_,rfl,u.more λk hk=>hk▸H,?_⟩;obtain⟨O,oh⟩:∃O,L[i].2=O:=⟨_,rfl⟩;simp only[oh]at N q3 t;cases O with
  | nil =>
   obtain rfl:vs=[]:=List.eq_nil_of_length_eq_zero NX;have V:jV L (a,b) []=L:=List.ext_getElem Z8 λj g1 g2=>by exact al0
   exact aJ (aI ⟨N,bq,B,bu,V▸key [] bq (λj hj=>by simp at hj)⟩)
  | cons m l =>
   cases vs with
   | nil=>simp at q3
   | cons x vs => refine aJ (aJ ⟨m,l,N,bq,⟨B,bu,key l NX λj hj hj'=>?_⟩,(t 0 bq bq).1,(t 0 bq bq).2.up u λk e=>e▸hM⟩);have:=t (j+1) Es Yf;exact aaa
theorem au3(h:o6 M C gn L W)(hl:∀k,M k->k<Z (D W)) bs u(hb:sl bs u W)(hn:Q bs<=1000000000) :
 aK prog 104 #[aj (I ⟨gn,0,U⟩),G J a,G J b,u] W λe w'=>∃code,e=ak (G J code)/\bf C W w'/\o6 M C gn (xg L (a,b) bs) w':=by
 obtain⟨S,bu,h⟩:=h
 have hU:=h.kn
 rcases Ky bu L (a,b) h.len (λi t z=>(h.ls i t z).1)with ⟨t,z⟩|⟨i,t,z,N,Y,h5⟩
 ·apply bN (aAf h.blk h.map Da);rintro w' rfl;exact⟨_,rfl,bf.rf _ _,S,bu,by grind [xg]⟩
 ·obtain⟨c,vs,e,A,V,O,B⟩:=(h.ls i t z).2;apply bN (au2 h.blk h.map Da V bs u hb hn);rintro w'⟨⟨v',y,hF⟩,u⟩;have T:=h.sub c A;refine⟨_,rfl,u.more λk hk=>hk▸A,S,bu,?_⟩;unfold xg;rw[Y];unfold aaK at y;simp only;by_cases h8:Q vs<8
  ·rw[bT h8]at y;rw[bT aZ];refine h.set t N e u ⟨c,_,e,A,y,by simp[O],λj hj R=>?_⟩;by_cases H:j<Q vs
   ·simp only[List.getElem_append_left H,List.getElem_append_left (show j<Q L[i].2 by omega)];exact⟨(B j H aZ).1,(B j H aZ).2.up u λk e=>e▸T⟩
   ·obtain rfl:j=Q vs:=S6;simp only[List.getElem_concat_length,O];exact⟨hn,hF.less hl⟩
  ·rw[bO h8]at y;rw[bO aZ];have e9:jV L (a,b) L[i].2=L:=List.ext_getElem Z8 λj X g2=>by
    rw[aay X g2];split
    ·next hj =>
     have:=hU j i al1 t (((h.ls j _ g2).1.trans hj).trans N.symm);subst this;rfl
    ·rfl
   exact e9▸h.set t N e u ⟨c,vs,e,A,y,O,λj hj R=>⟨(B j hj R).1,(B j hj R).2.up u λk e=>e▸T⟩⟩
theorem au4(h:o6 M C gn L W) :
 aK prog 100 #[aj (I ⟨gn,0,U⟩),G J a,G J b] W λe w'=>e=ak (G J (Q ((nI L (a,b)).getD []):Int))/\w'=W:=by
 obtain⟨R,bu,h⟩:=h
 rcases Ky bu L (a,b) h.len (λi j t=>(h.ls i j t).1)with ⟨j,t⟩|⟨i,j,t,N,A,B⟩
 ·rw[j];exact aAg h.blk h.map Da
 ·obtain⟨c,vs,e,O,y,z,H⟩:=(h.ls i j t).2;rw[A,Option.getD_some,<- z];exact au1 h.blk h.map Da y
end
def tZ(j:Nat->Prop)(gd:Nat)(d:rC)(W:aP):Prop:=∃vh,Lz gd vh d W/\∀k,j k->¬mZ gd vh k/\k<Z (D W)
theorem jl.abD{d s}(h:jl d s):II (d.gQ.map dw):=II.all (by have:=h.cnt;simp;omega) (by
 intro b hb;obtain⟨r,j,rfl⟩:=List.mem_map.1 hb;have:=(h.gQ r j).2.2;omega)
section
variable {X aS:Nat->Prop} {g gd:Nat} {B:cJ} {W W':aP}
theorem tZ.st{d}(h:tZ aS gd d W)(k:K W W'):tZ aS gd d W':=h.imp λ_ h=>⟨h.1.st k,λj t=>⟨(h.2 j t).1,cQ (h.2 j t).2 k.size⟩⟩
theorem eS.dk(h:eS X aS g gd B W):tZ aS gd B.dk W:=by obtain⟨-,p,hb,hg,hz⟩:=h;obtain rfl:p.gd=gd:=congrArg Prod.snd hg;exact⟨p.vd,hb.lg.dk,λk hk=>⟨λj=>(hz k hk).1 (aJ (aJ (aJ (aJ (aJ j))))),(hz k hk).2⟩⟩
theorem aCT{d}(h:tZ aS gd d W) keep(hk:cV keep) :
 aK prog 111 #[aj (I ⟨gd,0,U⟩),G J keep] W λe w'=>e=ak (au #[])/\tZ aS gd d w'/\bf (λk=>¬aS k) W w':=by
 obtain⟨vh,t,hz⟩:=h
 apply bN (ati gd vh (kT d) d.room keep W t hk)
 rintro w'⟨z,j⟩
 exact⟨rfl,⟨vh,z,λk hk=>⟨(hz k hk).1,cQ (hz k hk).2 j.up.size⟩⟩,j.up.more λk hk y=>(hz k y).1 hk⟩
theorem aDy{d s}(h:tZ aS gd d W)(H:jl d s)(hA:II (d.gQ.map dw))(M:s.life+1<18446744073709551616) p bj me j t(P:Fx (λk=>¬aS k) (λW=>bw eu p j W) W)(N:Fx (λk=>¬aS k) (λW=>bw eu bj t W) W)
 (A:iQ p=aA) (hm:iJ p me=aA) (z:nV p bj=aA) (B:jQ (eY (eJ s))<=d.room) (S:∀k,X k->aS k) :
 aK prog 85 #[G J me,j,t,aj (I ⟨gd,0,U⟩)] W λe w'=>∃g,e=ak (au #[aj (I ⟨g,0,U⟩),G J 0])/\eS X aS g gd (wZ me p bj ⟨eY (eJ s),d.room⟩ (eJ s)) w'/\bf (λk=>¬aS k) W w'/\Z (D W)<=g:=by
 obtain⟨vh,R,hz⟩:=h
 have C:∀k,mZ gd vh k->¬aS k:=λk hk L=>(hz k L).1 hk
 refine (ae8 gd vh d s p bj me j t W R H hA M (P.less C) (N.less C) A hm z).mono ?_
 intro e w' hp
 unfold FX at hp
 rw[bT B]at hp
 obtain⟨q,y⟩:=hp
 obtain⟨O,u⟩:=eS.new (X:=X) y (cX.open_ A hm z (H.life B)) (λk hk=>(hz k (S k hk)).2) hz
 exact⟨q.g,y.ret,O,u,y.g⟩
end
def AE:fE aQ where
 size:=1
 rel:=λv cs _=>cs=[v]/\v.oneCell'=aA
 len:=by rintro _ _ _⟨rfl,_⟩;rfl
 one:=by rintro _ _ _⟨rfl,h⟩ u j;simp at j;exact j▸h
 st:=λh _=>h
structure nf where
 gw:Nat
 gb:Nat
 vp:aQ
 vh:aQ
 vn:aQ
 vd:aQ
 vc:aQ
 vg:aQ
 vs:List aQ
 ds:List Nat
 bu:List (Int×aQ)
structure OvC(H:nf)(own:Nat->Nat)(O:cP)(W:aP):Prop where
 blk:bn W H.gw 105 #[H.vp,H.vh,H.vn,H.vd,.map (I H.gb),H.vc,H.vg]
 map:fC encI W H.gb H.bu
 oob:∀k,iJ O.par k=az->eA H.bu k=U
 cur:bK (λ_=>True) 0 3 eu O.cur H.vc W
 got:bK (λ_=>True) 0 78 AE H.vs H.vg W
 own:own H.gw=2/\own H.gb=2/\(∀k,aW H.vc=I k->own k=2)/\∀k,aW H.vg=I k->own k=2
 len:Q H.vs=Q O.got
 kn:(H.bu.map (·.1)).Nodup
def OvB(H:nf)(own:Nat->Nat)(W:aP)(n:Nat)(x:JL):Prop:=∃gd,H.ds[n]?=I gd /\
 (∀B,x.up=I B->∃g,eA H.bu (n:Int)=I (aj (I ⟨g,0,U⟩))/\eS (λk=>own k≠0/\own k≠2*n+4) (λk=>own k≠2*n+4/\k<Z (D W)) g gd B W) /\
 (x.up=U->eA H.bu (n:Int)=U/\tZ (λk=>own k≠2*n+4/\k<Z (D W)) gd x.dk W)
structure cM(H:nf)(own:Nat->Nat)(O:cP)(W:aP)(S:Nat->Prop):Prop where
 lo:∀k,own k≠0->k<Z (D W)
 fx:Fx (λk=>own k≠0) (λW=>bw eu O.par H.vp W/\bw eu O.bj H.vh W/\bw AE (H.ds.map λg=>aj (I ⟨g,0,U⟩)) H.vd W) W
 gW:S 2->OvC H own O W
 dR:S 3->∃gn,H.vn=aj (I ⟨gn,0,U⟩)/\o6 (λk=>own k≠0) (λk=>own k=3) gn O.dR W
 brk:∀n x,S (2*n+4)->O.gq[n]?=I x->OvB H own W n x
 got:∀c l,S (2*c+5)->O.got[c]?=I l->∃v,H.vs[c]?=I v/\bK (λk=>own k≠0) 0 43 (aaT dS) l v W/\∀k,aW v=I k->own k=2*c+5
section
variable {X X' aS Z' Y M M' C C' S S':Nat->Prop} {g gd gn:Nat} {B:cJ} {W W':aP} {H:nf} {own cW:Nat->Nat} {O:cP} {d:rC} {L:List lu}
theorem eS.to(h:eS X aS g gd B W)(u:bf Y W W')(j:∀k,Y k->X k/\aS k)(z:∀k,X' k->X k∨(Z (D W)<=k/\k<Z (D W')))(C:∀k,Z' k->aS k∨(Z (D W)<=k/\k<Z (D W'))):eS X' Z' g gd B W':=by obtain⟨y,p,hb,hg,hz⟩:=h;have:=hb.low;have:=u.size;refine⟨y,p,hb.far u (λk hk=>aI (j k hk).1) (λk hk=>(hz k (j k hk).2).1) (λk hk t=>t.imp_left λh=>(z k h).resolve_right aZ) (λ_ h=>aJ h) (λk hk=>?_),hg,λk hk=>?_⟩;all_goals grind
theorem tZ.to(h:tZ aS gd d W)(u:bf Y W W')(y:∀k,Y k->aS k)(A:∀k,Z' k->aS k∨(Z (D W)<=k/\k<Z (D W'))):tZ Z' gd d W':=by
 obtain⟨vh,j,hz⟩:=h
 have:=j.lt
 have:=u.size
 refine⟨vh,j.cA u λk hk t=>(hz k (y k t)).1 hk,λk hk=>?_⟩
 grind
theorem cM.to(h:cM H own O W S)(u:bf X W W')(y:∀k,X k->own k≠0/\¬S' (own k))(C:∀i,S' i->S i)(ho:∀k,k<Z (D W)->cW k=own k)(hn:∀k,Z (D W)<=k->cW k≠0->k<Z (D W')/\¬S' (cW k)):cM H cW O W' S':=by
 have:=u.size;have hm:∀k,k<Z (D W)->cW k≠0->own k≠0:=λk hk e=>ho k hk▸e
 have A:∀j,S' j->j≠0->∀k,cW k=j↔own k=j:=λj hj h0 k=>by
  by_cases hk:k<Z (D W)
  ·grind
  ·exact⟨λe=>absurd hj (e▸(hn k aZ aZ).2),λe=>by have:=h.lo k (by omega);omega⟩
 have hx:∀k,cW k≠0->own k≠0∨(Z (D W)<=k/\k<Z (D W')):=λk e=>by
  grind
 refine⟨λk hk=>bG,h.fx.to u (λk hk=>(y k hk).1) hm,λt=>?_,λM=>?_,λn x hb hn'=>?_,λc l R hl=>?_⟩
 ·obtain⟨a1,a2,a3,a4,a5,⟨Y,b2,b3,V⟩,a7,a8⟩:=h.gW (C _ t);have no:∀k,own k=2->¬X k:=λk e hk=>(y k hk).2 (e▸t)
  have z:=A 2 t bC;exact⟨a1.cA u (no _ Y),a2.cA u (no _ b2),a3,a4.to u (λ_ _=>trivial) (λk hk=>no k (b3 k hk)) (λ_ _ _=>aI trivial),a5.to u (λ_ _=>trivial) (λk hk=>no k (V k hk)) (λ_ _ _=>aI trivial),⟨(z _).2 Y,(z _).2 b2,λk hk=>(z k).2 (b3 k hk),λk hk=>(z k).2 (V k hk)⟩,a7,a8⟩
 ·obtain⟨gn,e,hN⟩:=h.dR (C _ M);have e3:=A 3 M bC;rw[show (λk=>cW k=3)=λk=>own k=3 from funext λk=>propext (e3 k)];exact⟨gn,e,hN.to u (λk hk=>(y k hk).1) (λk e hk=>(y k hk).2 (e▸M)) hm λk e=>bG⟩
 ·obtain⟨gd,e,T,t⟩:=h.brk n x (C _ hb) hn';have e4:=A _ hb aZ;have hz:∀k,cW k≠2*n+4/\k<Z (D W')->(own k≠2*n+4/\k<Z (D W))∨(Z (D W)<=k/\k<Z (D W')):=λk hk=>by
   grind
  have N:∀k,X k->own k≠2*n+4/\k<Z (D W):=λk hk=>⟨λe=>(y k hk).2 (e▸hb),h.lo k (y k hk).1⟩
  refine⟨gd,e,λB L=>?_,λL=>⟨(t L).1,(t L).2.to u N hz⟩⟩;obtain⟨g,z,hL⟩:=T B L;exact⟨g,z,hL.to u (λk hk=>⟨⟨(y k hk).1,(N k hk).1⟩,N k hk⟩) (λk hk=>(hx k hk.1).imp_left λh=>⟨h,λe=>hk.2 ((e4 k).2 e)⟩) hz⟩
 ·obtain⟨v,e,T,t⟩:=h.got c l (C _ R) hl;have e5:=A _ R aZ;exact⟨v,e,T.to u (λk hk=>(y k hk).1) (λk e hk=>(y k hk).2 (t k e▸R)) (λk hk e=>aI (hm k hk e)),λk e=>(e5 k).2 (t k e)⟩
theorem cM.st(h:cM H own O W S)(k:K W W'):cM H own O W' S :=
 h.to (bf.bS k λ_=>False) (λ_ h=>h.elim) (λ_ h=>h) (λ_ _=>rfl) λj t e=>by have:=h.lo j e;omega
def kP(own:Nat->Nat)(i:Nat)(W W':aP)(k:Nat):Nat:=if Z (D W)<=k then (if k<Z (D W')then i else 0)else own k
theorem al2(h:cM H own O W S){i}(y:i≠0)(u:bf X W W')(t:∀k,X k->own k=i):cM H (kP own i W W') O W' (λj=>S j/\j≠i) :=
 h.to u (λk hk=>⟨t k hk▸y,λe=>e.2 (t k hk)⟩) (λ_ h=>h.1) (λk hk=>Ih) λk hk e=>by
  unfold kP at *;rw[bT hk]at *;split
  ·next h2=>rw[bT h2]at e;exact⟨h2,λh=>h.2 rfl⟩
  ·next h2=>rw[bO h2]at e;exact absurd rfl e
end
def eB(i:Nat):Prop:=2<=i
theorem p2:eB 2:=bL 2
theorem pB n:eB (2*n+4):=by grind [eB]
def ew(H:nf)(own:Nat->Nat)(y:cP)(w w':aP):Prop :=
 ∃j t,cM j t y w' eB/\j.gw=H.gw/\bf (λk=>2<=own k) w w'/\∀k,k<Z (D w)->t k=own k
section
variable {X S:Nat->Prop} {W W' W2:aP} {H H1:nf} {own IQ:Nat->Nat} {O O':cP} {n g gd gn:Nat} {B B':cJ} {x:JL} {L:List lu}
theorem cM.now(h:cM H own O W eB)(k:K W W'):ew H own O W W':=⟨H,own,h.st k,rfl,bf.bS k _,λ_ _=>rfl⟩
theorem ew.tr(u:bf (λk=>2<=own k) W W')(hg:H1.gw=H.gw)(j:∀k,k<Z (D W)->IQ k=own k)(h:ew H1 IQ O' W' W2):ew H own O' W W2:=by obtain⟨C,t,z,y,A,B⟩:=h;have:=u.size;exact⟨C,t,z,y.trans hg,u.iA A λk hk e=>j k hk▸e,λk hk=>(B k aZ).trans (j k hk)⟩
theorem ew.k(k:K W W')(h:ew H own O' W' W2):ew H own O' W W2:=ew.tr (bf.bS k _) rfl (λ_ _=>rfl) h
theorem ew.of(u:bf X W W')(z:∀k,X k->k<Z (D W)->2<=own k){i}(h:cM H1 (kP own i W W') O' W' eB)(hg:H1.gw=H.gw):ew H own O' W W' :=
 ⟨H1,_,h,hg,⟨u.os,u.tape,u.output,u.size,λk j t=>u.block k j λy=>t (z k y j)⟩,λk hk=>Ih⟩
theorem cM.D3(h:cM H own O W eB)(k:K W W'):cM H (kP own 1 W W') O W' eB:=by
 refine h.to (bf.bS k λ_=>False) (λ_ h=>h.elim) (λ_ h=>h) (λk hk=>by grind [kP]) λj t e=>?_
 unfold kP at *
 grind [eB,kP]
theorem ew.D3(k:K W W'){b W3}(hb:Z (D W)<=b)(j:b<Z (D W'))(h:ew H (kP own 1 W W') O' W' W2)(u:bf (λk=>k=b) W2 W3):ew H own O' W W3:=by
 obtain⟨L,A,h1,B,C,y⟩:=h;have z:∀k,k<Z (D W)->kP own 1 W W' k=own k:=λk hk=>by grind [kP]
 have hk:=k.size;have t:=y b j;unfold kP at t;rw[bT hb,bT j]at t;refine⟨L,A,h1.to u (λk hk=>by grind [eB]) (λ_ h=>h) (λ_ _=>rfl) λk hk e=>aab,B,?_,λk hk=>(y k aZ).trans (z k hk)⟩;exact ((bf.bS k _).iA C λk hk e=>z k hk▸e).iA u λk hk e=>aZ
theorem cM.up(h:cM H own O W S)(y:S (2*n+4))(z:Q O.gq=Q O.par)(j:eF O n=I B) :
 ∃gd g,H.ds[n]?=I gd/\eA H.bu (n:Int)=I (aj (I ⟨g,0,U⟩))/\eS (λk=>own k≠0/\own k≠2*n+4) (λk=>own k≠2*n+4/\k<Z (D W)) g gd B W:=by
 unfold eF at j
 split at j
 ·obtain⟨x,t,A⟩:=Option.bind_eq_some_iff.1 j;rw[Int.toNat_natCast]at t;obtain⟨gd,e,C,-⟩:=h.brk n x y t;grind
 ·cases j
theorem cM.down(h:cM H own O W S)(t:S 2)(y:∀n,S (2*n+4))(z:Q O.gq=Q O.par){m}(j:eF O m=U):eA H.bu m=none:=by
 unfold eF at j;split at j
 ·next hi =>
  unfold mq iJ at hi;simp only[fB,decide_eq_true_eq]at hi;obtain⟨n,rfl⟩:=Int.eq_ofNat_of_zero_le hi.1;rw[Int.toNat_natCast,aE (show n<Q O.gq by omega)]at j;obtain⟨gd,e,-,A⟩:=h.brk n O.gq[n] (y n) (aE aZ);grind
 ·next hi=>exact (h.gW t).oob m (by grind [mq])
theorem RQ{i k}(j:∀k,own k≠0->k<Z (D W))(hk:kP own i W W' k≠i/\(k<Z (D W')∨kP own i W W' k≠0)):own k≠i/\k<Z (D W)/\kP own i W W' k=own k:=by
 grind [kP]
theorem cM.aoB(h:cM H own O W S)(hn:n<Q O.gq)(u:bf (λk=>¬(own k≠2*n+4/\k<Z (D W))) W W')(hB:OvB H (kP own (2*n+4) W W') W' n x):cM H (kP own (2*n+4) W W') (oL O n x) W' S:=by
 have R:bf (λk=>own k=2*n+4) W W':=⟨u.os,u.tape,u.output,u.size,λk A z=>u.block k A λt=>t ⟨z,A⟩⟩;have j:=al2 h aZ R λ_ h=>h
 refine⟨j.lo,j.fx,λz=>?_,λT=>j.dR ⟨T,aZ⟩,λm y hm t=>?_,λc l N=>j.got c l ⟨N,aZ⟩⟩
 ·obtain⟨C,B,Y,a4,V,M,L,X⟩:=j.gW ⟨z,aZ⟩;exact⟨C,B,Y,a4,V,M,L,X⟩
 ·simp only[oL,Int.toNat_natCast,List.getElem?_set]at t;by_cases e:n=m
  ·grind
  ·rw[bO e]at t;exact j.brk m y ⟨hm,aZ⟩ t
theorem cM.put(h:cM H own O W S)(hn:n<Q O.gq)(t:H.ds[n]?=I gd)(hg:eA H.bu (n:Int)=I (aj (I ⟨g,0,U⟩)))
 (j:eS (λk=>own k≠0/\own k≠2*n+4) (λk=>own k≠2*n+4/\k<Z (D W)) g gd B' W') (u:bf (λk=>¬(own k≠2*n+4/\k<Z (D W))) W W'):cM H (kP own (2*n+4) W W') (rZ O n B') W' S:=by
 refine h.aoB hn u ⟨gd,t,λB e=>?_,λe=>AU⟩
 injection e with e
 subst e
 exact⟨g,hg,j.less (λk hk=>by have:=RQ h.lo ⟨hk.2,aJ hk.1⟩;exact⟨this.2.2▸hk.1,this.1⟩) λk hk=>al3⟩
theorem cM.aoC{d}(h:cM H own O W S)(hn:n<Q O.gq)(y:H.ds[n]?=I gd)(hg:eA H.bu (n:Int)=U)
 (t:tZ (λk=>own k≠2*n+4/\k<Z (D W)) gd d W') (u:bf (λk=>¬(own k≠2*n+4/\k<Z (D W))) W W'):cM H (kP own (2*n+4) W W') (oL O n ⟨U,d⟩) W' S :=
 h.aoB hn u ⟨gd,y,λB e=>AU,λ_=>⟨hg,t.imp λvh j=>⟨j.1,λk hk=>j.2 k al3⟩⟩⟩
theorem cM.less{t}(h:cM H own O W S)(j:∀i,t i->S i):cM H own O W t :=
 ⟨h.lo,h.fx,λe=>h.gW (j _ e),λe=>h.dR (j _ e),λn x e=>h.brk n x (j _ e),λc l e=>h.got c l (j _ e)⟩
theorem cM.map{bu}(h:cM H own O W λj=>S j/\j≠2*n+4)(h2:S 2)(hn:n<Q O.gq)(hl:Q O.gq=Q O.par)(hm:fC encI W' H.gb bu)(hk:(bu.map (·.1)).Nodup)(N:∀m,m≠(n:Int)->eA bu m=eA H.bu m)(u:bf (λk=>k=H.gb) W W')
 (A:OvB { H with bu:=bu } own W' n x):cM { H with bu:=bu } own (oL O n x) W' S:=by
 obtain⟨L,Y,a3,R,M,⟨b1,b2,b3,b4⟩,a7,a8⟩:=h.gW ⟨h2,aZ⟩
 have z:cM H own O W' λj=>(S j/\j≠2*n+4)/\j≠2:=h.to u (λk e=>bG) (λ_ h=>h.1) (λ_ _=>rfl) λk hk e=>aac
 have V:∀t cs k,bn W k t cs->k≠H.gb:=λt cs k hb e=>(e▸Y).cells hb
 refine⟨z.lo,z.fx,λ_=>⟨L.cA u (V _ _ _ L),hm,λk e=>?_,R.to u (λ_ _=>trivial) (λk hk e=>?_) (λ_ _ _=>aI trivial),M.to u (λ_ _=>trivial) (λk hk e=>?_) (λ_ _ _=>aI trivial),⟨b1,b2,b3,b4⟩,a7,hk⟩,λX=>z.dR ⟨⟨X,aZ⟩,aZ⟩,λm y hm C=>?_,λc l hc=>z.got c l ⟨⟨hc,aZ⟩,aZ⟩⟩
 ·refine (N k λe'=>?_).trans (a3 k e);subst e';have e:iJ O.par (n:Int)=false:=e;unfold iJ at e;grind
 ·obtain⟨_,_,_,hb⟩:=R.own hk;grind
 ·obtain⟨_,_,_,hb⟩:=M.own hk;grind
 ·simp only[oL,Int.toNat_natCast,List.getElem?_set]at C;by_cases e:n=m
  ·grind
  ·rw[bO e]at C;obtain⟨gd,e1,e2,T⟩:=z.brk m y ⟨⟨hm,aZ⟩,aZ⟩ C;have hq':=N (m:Int) aZ;refine⟨gd,e1,λB A=>?_,λA=>⟨hq'.trans (T A).1,(T A).2⟩⟩;grind
theorem cM.aoD(h:cM H own O W eB)(hn:n<Q O.gq)(t:H.ds[n]?=I gd)(hg:eA H.bu (n:Int)=I (aj (I ⟨g,0,U⟩)))
 (j:eS (λk=>own k≠0/\own k≠2*n+4) (λk=>own k≠2*n+4/\k<Z (D W)) g gd B' W') (u:bf (λk=>¬(own k≠2*n+4/\k<Z (D W))) W W'):ew H own (rZ O n B') W W' :=
 ew.of u (λk hk _=>aZ) (i:=2*n+4) (h.put hn t hg j u) rfl
theorem cM.KU(h:cM H own O W S)(N:H.vn=aj (I ⟨gn,0,U⟩))(T:o6 (λk=>own k≠0) (λk=>own k=3) gn L W')(u:bf (λk=>own k=3) W W'):cM H own { O with dR:=L } W' S:=by
 have t:cM H own O W' λj=>S j/\j≠3:=h.to u (λk hk=>aZ) (λ_ h=>h.1) (λ_ _=>rfl) λk hk e=>aac
 exact⟨t.lo,t.fx,λz=>by
  obtain⟨A,y,X,Y,R,C,B,V⟩:=t.gW ⟨z,aZ⟩;exact⟨A,y,X,Y,R,C,B,V⟩,λ_=>⟨gn,N,T⟩,λm x hm=>t.brk m x ⟨hm,aZ⟩,λc l M=>t.got c l ⟨M,aZ⟩⟩
theorem cM.TL(h:cM H own O W eB)(j:H.vn=aj (I ⟨gn,0,U⟩))(t:o6 (λk=>own k≠0) (λk=>own k=3) gn L W')(u:bf (λk=>own k=3) W W'):ew H own { O with dR:=L } W W' :=
 ⟨H,own,h.KU j t u,rfl,u.more λk hk=>aZ,λ_ _=>rfl⟩
end
section
variable {S:Nat->Prop} {W:aP} {H:nf} {own:Nat->Nat} {O:cP}
theorem MS(h:cM H own O W S)(j:S 2) n :
 aK prog 42 #[aj (I ⟨H.gw,0,U⟩),G J n] W λe w'=>e=ak (ar (mq O n))/\w'=W:=by
 have q:=(h.gW j).blk.cell
 obtain⟨A,c,e,-⟩:=h.fx.now.1
 rw[e]at q
 have HI:Hid (mq O n=(decide (0<=n)&&decide (n<(Q O.par:Int)))):=aY rfl
 generalize mq O n=R at *
 go_in
 by_cases h0:0<=n
 ·by_cases h1:n<(Q O.par:Int)
  ·exact al4
  ·exact al5
 ·exact al6
theorem aet(h:cM H own O W S)(j:S 2) n :
 aK prog 72 #[aj (I ⟨H.gw,0,U⟩),G J n] W λe w'=>e=ak (ar (mO O n))/\w'=W:=by
 have q:=(h.gW j).blk.cell
 obtain⟨A,c,e,-⟩:=h.fx.now.2.1
 rw[e]at q
 have HI:Hid (mO O n=(decide (0<=n)&&decide (n<(Q O.bj:Int)))):=aY rfl
 generalize mO O n=R at *
 go_in
 by_cases h0:0<=n
 ·by_cases h1:n<(Q O.bj:Int)
  ·exact al4
  ·exact al5
 ·exact al6
theorem ahE(j:pY O){m}(hm:m<Q O.bj):oH O m=O.bj[m]/\iJ O.par O.bj[m]=true:=by refine⟨by grind [oH],?_⟩;have:=j.hm;simp only[nV,fB,xW]at this;exact this.2 _ (dG hm)
theorem cM.look(h:cM H own O W S)(y:S 2)(t:∀n,S (2*n+4))(j:pY O) m:(eA H.bu m).isSome=(eF O m).isSome/\∃v,(eA H.bu m).getD (aj U)=aj v:=by
 cases hu:eF O m with
 | none=>rw[h.down y t j.ln hu];exact⟨rfl,_,rfl⟩
 | some B =>
  have hm:0<=m:=by
   grind [eA,eF,mq,iJ]
  obtain⟨n,rfl⟩:=Int.eq_ofNat_of_zero_le hm
  obtain⟨gd,g,-,z,-⟩:=h.up (t n) j.ln hu
  grind
theorem cM.q(h:cM H own O W S)(j:S 2):∀W',K W W'->∀m,(Instr.lookup 100 (.map (I H.gb)) (G J m) aA).run prog W'=.ok (au #[(eA H.bu m).getD (aj U),ar (eA H.bu m).isSome]) W'/\(Instr.lookup 100 (.map (I H.gb)) (G J m) az).run prog W'=.ok ((eA H.bu m).getD (aj U)) W':=λW' k m =>
 Ej (Dn (P:=prog) (kt:=3) underlying3) underlying100 (z:=aj U) dz ((h.gW j).map.st k) m
theorem Rm(h:cM H own O W S)(j:S 2)(A:∀n,S (2*n+4))(y:pY O) n :
 aK prog 55 #[aj (I ⟨H.gw,0,U⟩),G J n] W λe w'=>e=ak (ar (eF O n).isSome)/\w'=W:=by
 have z:=aY (MS h j n)
 have q:=(h.gW j).blk.cell
 have C:=(h.q j W (K.rf W) n).1
 obtain⟨t,v,L⟩:=h.look j A y n
 rw[t,L]at C
 have B:Hid (mq O n=az->(eF O n).isSome=az):=aY λe=>by unfold eF;rw[e];rfl
 generalize (eF O n).isSome=R at *
 go_in
 go_wp2_with fail
 apply bN z.aX
 rintro w' rfl
 cases hi:mq O n
 ·have HR:=aY (B.aX hi);exact NY
 ·go_wp2;go_ret;exact⟨rfl,rfl⟩
def nW(H:nf)(O:cP)(c:Int):aQ×Int:=if mO O c then (if (eF O (oH O c)).isSome then ((eA H.bu (oH O c)).getD (aj U),0)else (aj U,210))else (aj U,1)
theorem ME(h:cM H own O W S)(t:S 2)(Y:∀n,S (2*n+4))(z:pY O) c :
 aK prog 53 #[aj (I ⟨H.gw,0,U⟩),G J c] W λe w'=>e=ak (au #[(nW H O c).1,G J (nW H O c).2])/\K W w':=by
 have y:=aY (aet h t c)
 have q:=(h.gW t).blk.cells
 have ql0:=h.q t
 obtain⟨A,cc,e,N,-⟩:=h.fx.now.2.1
 rw[e]at q
 have hk:=h.look t Y z (oH O c)
 have j:Hid (nW H O c=if mO O c then (if (eF O (oH O c)).isSome then ((eA H.bu (oH O c)).getD (aj U),0)else (aj U,210))else (aj U,1)):=aY rfl
 generalize nW H O c=R at *
 have kk:=K.rf W
 cases hc:mO O c
 ·have HR:Hid (R=(aj U,1)):=aY (by rw[j.aX,hc];rfl);rw[hc]at y;go_in;go_wp2_with fail
  apply bN y.aX;rintro w' rfl;go_wp2;go_ret2;exact⟨ib,kk⟩
 ·rw[hc]at y j;unfold mO at hc;simp only[fB,decide_eq_true_eq]at hc;obtain⟨m,rfl⟩:=Int.eq_ofNat_of_zero_le hc.1;have hm:m<Q O.bj:=aZ;have X:=hc.2;obtain⟨b,off,rfl,hcell⟩:=ints_at N aZ;have T:=λW k=>hcell W k m hm
  rw[(ahE z hm).1]at hk j;generalize O.bj[m]=x at *;obtain⟨M,v,L⟩:=hk;have C:=λW k=>(ql0 W k x).1
  rw[M,L]at C;rw[L]at j;generalize (eF O x).isSome=B at *;have HR:Hid (R=if B then (aj v,0)else (aj U,210)):=aY j.aX;go_in;go_wp2_with fail
  apply bN y.aX;rintro w' rfl;go_wp2_with fail
  have qs:=aB q (aB C (aB T X));refine eQ 16 ?_;iterate 16 refine bA.i ?_
  intro V W2 kW hA;simp only[bU,bZ,dx,bM,Nat.reduceAdd]at hA;refine bJ.p ?_;refine bJ.h ?_;cases B
  ·go_wp2;go_ret2;exact⟨ib,kW⟩
  ·go_wp2;go_ret2;exact⟨ib,kW⟩
def Du(H:nf)(O:cP)(c:Int)(a:cB):aQ×Int:=if (nW H O c).2=0/\a.1≠oH O c then (aj U,1)else nW H O c
theorem aeu(h:cM H own O W S)(h2:S 2)(hS:∀n,S (2*n+4))(Y:pY O) c a :
 aK prog 50 #[aj (I ⟨H.gw,0,U⟩),G J c,di a] W λe w'=>e=ak (au #[(Du H O c a).1,G J (Du H O c a).2])/\K W w':=by
 have L:=aY λW' (k:K W W')=>ME (h.st k) h2 hS Y c
 have q:=(h.gW h2).blk.cells
 obtain⟨A,cc,e,hl,-⟩:=h.fx.now.2.1
 rw[e]at q
 obtain⟨j,C,M⟩:=a
 have X:Hid (Du H O c (j,C,M)=if (nW H O c).2=0/\j≠oH O c then (aj U,1)else nW H O c):=aY rfl
 generalize Du H O c (j,C,M)=R at *
 dsimp only[di]
 by_cases h0:(nW H O c).2=0
 ·have y:mO O c=true:=by
   unfold nW at h0;cases y:mO O c
   ·grind
   ·rfl
  unfold mO at y;simp only[fB,decide_eq_true_eq]at y;obtain⟨m,rfl⟩:=Int.eq_ofNat_of_zero_le y.1;have hm:m<Q O.bj:=aZ;have wI:=y.2;obtain⟨b,off,rfl,hcell⟩:=ints_at hl aZ;have B:=λW k=>hcell W k m hm
  rw[(ahE Y hm).1]at X;generalize O.bj[m]=x at *;obtain⟨v,T⟩:∃v,(nW H O m).1=aj v:=by
   unfold nW;obtain⟨v,e⟩:=(h.look h2 hS Y (oH O m)).2;split
   ·grind
   ·simp
  have HR:Hid (R=if j=x then (aj v,0)else (aj U,1)):=aY (by
   rw[X.aX,h0];by_cases B:j=x
   ·grind
   ·simp[B])
  rw[T,h0]at L;go_in;have fS:=bn.new W 42 #[G J j,G E C,G E M];have z:=fS.cC;go_wp2_with fail
  apply dP (L.aX _ z) z;intro w1 k1 t;have qb:=(fS.bF k1).cells;replace q:=λW' (k:K w1 W')=>q W' (t.tr k)
  replace B:=λW' (k:K w1 W')=>B W' (t.tr k)
  go_wp2_with fail
  have qs:=aB q (aB qb (aB B wI));refine eQ 9 ?_;iterate 9 refine bA.i ?_
  intro V W2 kW hA;simp only[bU,bZ,dx,bM,Nat.reduceAdd]at hA;refine bJ.p ?_;refine bJ.h ?_;have kF:=t.tr kW;by_cases N:j=x
  ·rw[bT N]at HR;subst N;go_wp2;go_ret2;exact⟨ib,kF⟩
  ·rw[bO N]at HR;have:(j != x)=true:=by simpa using N
   go_wp2;go_ret2;exact⟨ib,kF⟩
 ·have HR:Hid (R=nW H O c):=aY (by rw[X.aX,bO λe=>h0 e.1]);have hne:((nW H O c).2 != 0)=true:=Ng;have T:(nW H O c).1=aj none:=by
   unfold nW at h0⊢;split <;> try split
   all_goals simp_all
  generalize nW H O c=r at *;obtain⟨v,d⟩:=r;simp only at hne L T;subst T;go_in;have z:=K.new W (aq #[G J j,G E C,G E M] 42);go_wp2_with fail
  apply dP (L.aX _ z) z;intro w1 k1 t;go_wp2;go_ret2;exact⟨ib,t⟩
end
section
variable {α:Type} [DecidableEq α] {bu:List (α×aQ)} {k m:α} {v:aQ}
theorem Xz(k:α):∀(r:List (α×aQ)) (i:Nat),iG k r (i+1)=(iG k r i).map λq=>(q.1+1,q.2)
 | [],_=>rfl
 | p :: r,i=>by
  simp only[iG];split
  ·rfl
  ·exact Xz k r _
theorem Ei p:eA (p :: bu) k=if p.1=k then I p.2 else eA bu k:=by
 unfold eA;simp only[iG];split
 ·rfl
 ·rw[Xz];cases iG k bu 0 <;> rfl
theorem af3:∀ {bu:List (α×aQ)},eA bu k=U->k∉bu.map (·.1)
 | [],_=>bq
 | p :: r,h=>by
  rw[Ei]at h;split at h
  ·cases h
  ·next hp =>
   simp only[lT,List.mem_cons,not_or];exact⟨λe=>hp e.symm,af3 h⟩
theorem agW:∀ {bu:List (α×aQ)},k∉bu.map (·.1)->eA bu k=U
 | [],_=>rfl
 | p :: r,h=>by simp only[lT,List.mem_cons,not_or]at h;rw[Ei,bO λe=>h.1 e.symm];exact agW h.2
theorem ahF(h:eA bu k=U) v:uo bu k v=bu++[(k,v)]:=by
 unfold uo
 unfold eA at h
 cases e:iG k bu 0 with
 | none=>rfl
 | some q=>rw[e]at h;cases h
theorem XA:∀ {bu:List (α×aQ)},eA (bu++[(k,v)]) m=if (eA bu m).isSome then eA bu m else if k=m then I v else U
 | []=>Ei _
 | p :: r=>by rw[bZ,Ei,Ei,XA];by_cases hp:p.1=m <;> simp[hp]
theorem aye p:EP (p :: bu) k=if p.1=k then bu else p :: EP bu k:=by
 grind [EP,iG,Xz]
theorem agX k:∀ {bu:List (α×aQ)},(bu.map (·.1)).Nodup->eA (EP bu k) k=U/\(∀m,m≠k->eA (EP bu k) m=eA bu m)/\((EP bu k).map (·.1)).Sublist (bu.map (·.1))
 | [],_=>⟨rfl,λ_ _=>rfl,.slnil⟩
 | p :: r,h=>by
  simp only[lT,List.nodup_cons]at h;obtain⟨y,j,t⟩:=agX k h.2;rw[aye];by_cases hp:p.1=k
  ·subst hp;rw[bT rfl];exact⟨agW h.1,λm hm=>by rw[Ei,bO λe=>hm e.symm],List.sublist_cons_self _ _⟩
  ·rw[bO hp];exact⟨by rw[Ei,bO hp,y],λm hm=>by rw[Ei,Ei,j m hm],t.cons_cons _⟩
end
section
variable {S:Nat->Prop} {W W2:aP} {H:nf} {own:Nat->Nat} {O:cP} {par bj:List Int} {k:Nat}
theorem cM.KV(h:cM H own O W S){n gd}(B:H.ds[n]?=I gd):∃b j c,H.vd=F (I ⟨b,j,U⟩) (Q H.ds) c/\n<Q H.ds/\∀W',bf (λk=>own k≠0) W W'->W'.cell? ⟨b,j+n,U⟩=I (aj (I ⟨gd,0,U⟩)):=by
 obtain⟨hn,hg⟩:=aF.1 B
 have key:∀W',bf (λk=>own k≠0) W W'->∃b j c,H.vd=F (I ⟨b,j,U⟩) (Q H.ds) c/\W'.cell? ⟨b,j+n,U⟩=I (aj (I ⟨gd,0,U⟩)):=λW' u=>by
  obtain⟨A,c,e,t,-⟩:=(h.fx W' u).2.2
  obtain⟨b,j,cs,rfl,-,z,y,-⟩:=eN t n bG bC
  obtain⟨rfl,-⟩:=z W' (K.rf W')
  have:=y W' (K.rf W')
  simp only[show AE.size=1 from rfl,Nat.mul_one]at this
  grind
 obtain⟨b,j,c,e,-⟩:=key W (bf.rf _ _)
 grind
theorem ayf O n x y:oL (oL O n x) n y=oL O n y:=by simp[oL]
theorem asX(h:cM H own O W eB)(C:dh par bj O k) n keep(hk:cV keep) :
 aK prog 65 #[aj (I ⟨H.gw,0,U⟩),G J n,G J keep] W λe w'=>e=ak (G J (Dc O n).2)/\ew H own (Dc O n).1 W w':=by
 have C1:=aY (MS h p2 n)
 have C2:=aY (Rm h p2 pB C.iK n)
 have HR:Hid (Dc O n=if mq O n then (match eF O n with|none=>(O,(210:Int))|some B=>(oL O n ⟨U,B.dk⟩,0))else (O,1)):=aY rfl
 have HN:=aY (h.now (K.rf W))
 generalize Dc O n=R at *
 cases hi:mq O n
 ·rw[hi]at C1 HR;exact S7
 rw[hi]at C1 HR
 cases hu:eF O n with
 | none => exact al7
 | some B =>
  rw[hu]at HR C2;obtain⟨i,rfl,hlt,x,hx1,hx2⟩:=EG hu;obtain⟨gd,g,A,e2,hL⟩:=h.up (pB i) C.iK.ln hu;have hn:i<Q O.gq:=bG;obtain⟨W1,hdel,oM,hg1⟩:=ay9 (Dn (P:=prog) (kt:=3) underlying3) underlying100 (h.gW p2).map (i:Int) 0 #[100,3] rfl;obtain⟨V,jg,hd3⟩:=agX (i:Int) (h.gW p2).kn;have j:bf (λk=>k=H.gb) W W1:=bf.gy hg1 λk e=>bG
  have X:=(h.gW p2).own.2.1;have M:=hL.dk.to j (Z':=λk=>own k≠2*i+4/\k<Z (D W1)) (λk e=>⟨by rw[e,X];omega,e▸(h.gW p2).map.lt⟩) λk hk=>by omega
  have L:cM { H with bu:=EP H.bu (i:Int) } own (oL O i ⟨U,B.dk⟩) W1 eB :=
   (h.less λ_ h=>h.1).map p2 hn C.iK.ln oM ((h.gW p2).kn.sublist hd3) jg j ⟨gd,A,λB e=>AU,λ_=>⟨V,M⟩⟩
  obtain⟨b,off,c,N,hnl,T⟩:=cM.KV L (n:=i) (gd:=gd) A;have q:=(h.gW p2).blk.cell;have q1:=(L.gW p2).blk.cell;have T:=T W1 (bf.rf _ _);simp only at N hnl;have:(i:Int)<Q H.ds:=aZ;rw[N]at q q1;simp only[encI]at hdel;have C3:=aY (aCT M keep hk);have Y:=aY λy (z:tZ _ gd B.dk y) t=>L.aoC (n:=i) (O:=oL O i ⟨U,B.dk⟩) (by show i<Q (O.gq.set _ _);rw[List.length_set];exact hn) A V z t
  go_in;go_wp2_with fail
  apply bN C1.aX;rintro w' rfl;go_wp2_with fail
  apply bN C2.aX;rintro w' rfl;go_wp2_with fail
  apply bN C3.aX;rintro y⟨z,t⟩;have S:=Y.aX y z t;rw[ayf]at S;have:=j.size;have HF:=aY (show ew H own (oL O i ⟨U,B.dk⟩) w' y from ⟨_,_,S,rfl,(j.more λk e=>bG).iA t λk hk e=>aZ,λk hk=>Ih⟩);exact NL
end
theorem aAh{j gd W d s}(h:tZ j gd d W)(C:jl d s)(N:s.life+1<18446744073709551616) p bj me y z(T:Fx (λk=>¬j k) (λW=>bw eu p y W) W)(L:Fx (λk=>¬j k) (λW=>bw eu bj z W) W)
 (R:iQ p=aA) (hm:iJ p me=aA) (O:nV p bj=aA) (S:¬jQ (eY (eJ s))<=d.room) :
 aK prog 85 #[G J me,y,z,aj (I ⟨gd,0,U⟩)] W λe w'=>e=ak (au #[aj U,G J 90])/\tZ j gd d w'/\bf (λk=>¬j k) W w':=by
 obtain⟨vh,V,hz⟩:=h
 have B:∀k,mZ gd vh k->¬j k:=λk hk t=>(hz k t).1 hk
 refine (ae8 gd vh d s p bj me y z W V C C.abD N (T.less B) (L.less B) R hm O).mono ?_
 intro e w' hp
 unfold FX at hp
 rw[bO S]at hp
 obtain⟨Y,H,X,A⟩:=hp
 exact⟨H,⟨Y,X,λk hk=>⟨λM=>(A.new k M).elim (hz k hk).1 λh=>bG,cQ (hz k hk).2 A.up.size⟩⟩,A.up.more λk hk t=>(hz k t).1 hk⟩
theorem ayg{O}{i:Nat}{x}(h:O.gq[i]?=I x):oL O i x=O:=by obtain⟨j,rfl⟩:=aF.1 h;simp[oL]
def IU(H:nf)(own:Nat->Nat)(O:cP)(W:aP)(i gd:Nat)(B:cJ)(d:rC)(R:cP×Int)(p:Option Addr)(j:Int)(W':aP):Prop :=
 bf (λk=>¬(own k≠2*i+4/\k<Z (D W))) W W'/\(j=0/\(∃g,p=I ⟨g,0,U⟩/\eS (λk=>own k≠0/\own k≠2*i+4) (λk=>own k≠2*i+4/\k<Z (D W)) g gd B W')/\R=(rZ O i B,0) ∨
  (j==0)=az/\p=U/\tZ (λk=>own k≠2*i+4/\k<Z (D W)) gd d W'/\R=(O,j))
def y8(O:cP)(n:Int):cP×Int:=if nV O.par O.bj then tG O n else (O,1)
def K6:aQ->aQ
 | au a=>a.getD 0 undef
 | _=>undef
def K7:aQ->aQ
 | au a=>a.getD 1 undef
 | _=>undef
section
variable {S:Nat->Prop} {W W':aP} {H:nf} {own:Nat->Nat} {O:cP} {par bj:List Int} {k:Nat}
theorem cM.opn(h:cM H own O W S)(hS:∀n,S (2*n+4))(ht:iQ O.par=aA)(ko:Q O.gq=Q O.par)(hhn:Q O.bj<=1000000){i:Nat}{d s}(y:O.gq[i]?=I ⟨U,d⟩)(A:jl d s)(N:s.life+1<18446744073709551616) :
 ∃gd B,H.ds[i]?=I gd/\eA H.bu (i:Int)=U/\∀W1,K W W1->aK prog 85 #[G J i,H.vp,H.vh,aj (I ⟨gd,0,U⟩)] W1 λe w'=>∃p T,e=ak (au #[aj p,G J T])/\IU H own O W i gd B d (y8 O i) p T w':=by
 obtain⟨gd,hd,-,uZ⟩:=h.brk i _ (hS i) y
 obtain⟨Y,C⟩:=uZ rfl
 have:=(aF.1 y).1
 refine⟨gd,wZ i O.par O.bj ⟨eY (eJ s),d.room⟩ (eJ s),hd,Y,λW1 k1=>?_⟩
 have z:tG O i=if jQ (eY (eJ s))<=d.room then (rZ O i (wZ i O.par O.bj ⟨eY (eJ s),d.room⟩ (eJ s)),0)else (O,90):=by
  grind [tG,Int.toNat_natCast,KJ]
 have hM:∀k,k<Z (D W)->¬(own k≠2*i+4/\k<Z (D W))->own k≠0:=λk hk e=>aZ
 have f:=(h.fx.to (bf.rf (λ_=>False) W) (λ_ h=>h.elim) hM).k k1
 have hm:iJ O.par (i:Int)=true:=by unfold iJ;simp;omega
 have L:=bf.bS k1 λk=>¬(own k≠2*i+4/\k<Z (D W))
 by_cases j:nV O.par O.bj=aA
 case neg =>
  have j:nV O.par O.bj=false:=by simpa using j
  have y:y8 O i=(O,1):=by unfold y8;rw[j];rfl
  have R:=f W1 (bf.rf _ _);refine (azJ O.par O.bj i H.vp H.vh _ W1 R.1 R.2.1 ajT hhn (aJ ⟨gd,rfl⟩) (aJ (aJ (aJ j)))).mono ?_;rintro e w'⟨rfl,M⟩;rw[y,ht];exact⟨U,1,rfl,bf.bS (k1.tr M) _,aJ ⟨rfl,rfl,C.st (k1.tr M),rfl⟩⟩
 have hX:y8 O i=tG O i:=by unfold y8;rw[j];rfl
 rw[hX]
 by_cases t:jQ (eY (eJ s))<=d.room
 ·rw[bT t]at z;refine (aDy (X:=λk=>own k≠0/\own k≠2*i+4) (C.st k1) A A.abD N O.par O.bj i H.vp H.vh (λW u=>(f W u).1) (λW u=>(f W u).2.1) ht hm j t λk hk=>⟨hk.2,h.lo k hk.1⟩).mono ?_;rintro e w'⟨g,rfl,V,u,-⟩;exact⟨_,_,rfl,L.tr u,aI ⟨rfl,⟨g,rfl,V⟩,z⟩⟩
 ·rw[bO t]at z;refine (aAh (C.st k1) A N O.par O.bj i H.vp H.vh (λW u=>(f W u).1) (λW u=>(f W u).2.1) ht hm j t).mono ?_;rintro e w'⟨rfl,hD',u⟩;exact⟨_,_,rfl,L.tr u,aJ ⟨rfl,rfl,hD',z⟩⟩
theorem IU.st{i gd B d R p z W1 y}(h:IU H own O W i gd B d R p z W1)(k:K W1 y):IU H own O W i gd B d R p z y :=
 ⟨h.1.tr (bf.bS k _),h.2.imp (λ⟨e,⟨g,j,A⟩,t⟩=>⟨e,⟨g,j,A.st k⟩,t⟩) λ⟨e,j,C,t⟩=>⟨e,j,C.st k,t⟩⟩
theorem cM.came(h:cM H own O W S)(t:S 2)(ko:Q O.gq=Q O.par){i gd g:Nat}{d B W1}(C:O.gq[i]?=I ⟨U,d⟩)(hd:H.ds[i]?=I gd)(y:eA H.bu (i:Int)=U)
 (u:bf (λk=>¬(own k≠2*i+4/\k<Z (D W))) W W1) (hL:eS (λk=>own k≠0/\own k≠2*i+4) (λk=>own k≠2*i+4/\k<Z (D W)) g gd B W1) :
 ∃j,(Instr.mapUpdate 100 (.map (I H.gb)) (G J i) (aj (I ⟨g,0,U⟩))).run prog W1=.ok () j/\∃N L,cM N L (rZ O i B) j S/\N.gw=H.gw/\bf (λk=>2<=own k) W j/\(∀k,k<Z (D W)->L k=own k)/\∀k,L k=3->own k=3:=by
 have hi:=(aF.1 C).1
 have M:bf (λk=>own k=2*i+4) W W1:=⟨u.os,u.tape,u.output,u.size,λk T t=>u.block k T λC=>C ⟨t,T⟩⟩
 have R:=al2 h aZ M λ_ h=>h
 have z:=h.gW t
 obtain⟨j,hrun,hm,hg⟩:=FK (Dn (P:=prog) (kt:=3) underlying3) underlying100 (R.gW ⟨t,aZ⟩).map (i:Int) (aj (I ⟨g,0,U⟩))
 rw[ahF y]at hm
 have A:bf (λk=>k=H.gb) W1 j:=bf.gy hg λk e=>S8
 have V:=z.own.2.1
 have hgb:=z.map.lt
 refine⟨j,hrun,_,_,R.map (n:=i) t hi ko hm ?_ (λm X=>?_) A ⟨gd,hd,λB' e=>?_,λe=>AU⟩,rfl,(M.more λk e=>aZ).iA (A.more (Y:=λk=>2<=own k) λk e=>by rw[e,V];exact bL 2) λk hk e=>e,λk hk=>Ih,λk hk=>by
  unfold kP at hk;split at hk
  ·split at hk <;> omega
  ·exact hk⟩
 ·rw[List.map_append];exact List.nodup_append.2 ⟨z.kn,bq,λa ha b hb e=>af3 y (by simp at hb;rw[<- hb,<- e];exact ha)⟩
 ·rw[XA];cases eA H.bu m <;> simp
  intro e;exact absurd e.symm X
 ·injection e with e;subst e;refine⟨g,by rw[XA,y];simp,hL.to A (λk e=>by subst e;exact⟨⟨by omega,by omega⟩,by omega,hgb⟩) (λk hk=>?_) λk hk=>?_⟩
  ·have:=RQ h.lo ⟨hk.2,aJ hk.1⟩;exact aI ⟨this.2.2▸hk.1,this.1⟩
  ·by_cases h9:k<Z (D W1)
   ·have:=RQ h.lo ⟨hk.1,aI h9⟩;exact aI ⟨this.1,this.2.1⟩
   ·exact aJ ⟨aZ,hk.2⟩
theorem aeF(h:cM H own O W S)(M:S 2)(hS:∀n,S (2*n+4))(ht:iQ O.par=aA)(ko:Q O.gq=Q O.par)(hhn:Q O.bj<=1000000){i:Nat}{d s}(t:O.gq[i]?=I ⟨U,d⟩)(hG:jl d s)(hl:s.life+1<18446744073709551616) :
 aK prog 39 #[aj (I ⟨H.gw,0,U⟩),G J i] W λe w'=>e=ak (G J (y8 O i).2)/\∃L A,cM L A (y8 O i).1 w' S/\L.gw=H.gw/\bf (λk=>2<=own k) W w'/\(∀k,k<Z (D W)->A k=own k)/\∀k,A k=3->own k=3:=by
 obtain⟨gd,B,hd,hlk,hC⟩:=h.opn hS ht ko hhn t hG hl
 have HC:=aY hC
 have HW:=aY λg W1 u hL=>h.came M ko (g:=g) (W1:=W1) (B:=B) t hd hlk u hL
 have hi:=(aF.1 t).1
 have HD:=aY λW1 u (hD:tZ _ gd d W1)=>ayg t▸h.aoC (W':=W1) hi hd hlk hD u
 have:=(h.gW M).own.1
 have hb:=(h.gW M).blk
 obtain⟨b,off,c,Fy,hnl,JO⟩:=h.KV hd
 have Cp:(i:Int)<Q H.ds:=aZ
 have Lm:=λW1 (u:bf (λk=>¬(own k≠2*i+4/\k<Z (D W))) W W1)=>JO W1 ⟨u.os,u.tape,u.output,u.size,λk N M=>u.block k N λt=>t ⟨aZ,N⟩⟩
 have T:∀W1,bf (λk=>¬(own k≠2*i+4/\k<Z (D W))) W W1->∀j,W1.cell? ⟨H.gw,j,U⟩=#[H.vp,H.vh,H.vn,H.vd,.map (I H.gb),H.vc,H.vg][j]?:=λW1 u=>(hb.cA u λe=>e ⟨aZ,hb.lt⟩).cell
 rw[Fy]at T
 generalize y8 O (i:Int)=R at *
 have Md:=aY λp code W1 (h:IU H own O W i gd B d R p code W1)=>h.1
 obtain⟨Y,hY⟩:∃Y,Y=λk=>¬(own k≠2*i+4/\k<Z (D W)):=⟨_,rfl⟩
 rw[<- hY]at T Lm Md
 go_in
 go_upto_region 1 with fail
 have qs:=aB T (aB Lm Cp)
 refine QJ 21 [16] (bf Y W) (λ_ _=>True) (λk vs W1=>if k=0 then K W W1 else ∃p code,vs=[au #[aj p,G J code]]/\IU H own O W i gd B d R p code W1)
  [([],[]),([],[]),([1],[(9,1)]),([2],[(10,2)]),([3],[(11,3)]),([],[]),([5],[(13,5)]),([6],[(14,6)]),([7],[(15,7)]),([],[]),([9],[(17,9)]),([10],[(18,10)]),([11],[(19,11)]),([],[]),([12,13],[(20,12),(21,13)]),([14],[(22,14)]),([0,4,8,15],[(8,0),(12,4),(16,8),(23,15)]),([16],[(24,16)]),([17],[(7,17)]),([17],[(7,17)]),([18],[(25,18)]),([0,1,2,3,4,5,6,7,8,9,10,11,12,13,14,15,16,17,18,19,20],[(26,19)])] 36 [] [(17,16,id),(18,17,K6),(19,17,K7),(20,18,id)]
  (λ_ _ h k=>h.tr (bf.bS k _)) (λ_ _ _=>trivial) (λk vs W1 W2 h kW=>by
   split at h
   ·next h0=>rw[bT h0];exact h.tr kW
   ·next h0 =>
    rw[bO h0];obtain⟨p,code,e,C⟩:=h;exact⟨p,code,e,C.st kW⟩) (bf.rf _ _) (λ_=>K.rf W) ?_
 iterate 16 refine bA.i ?_
 refine bA.kn (λv=>∃p code,v=au #[aj p,G J code]) ?_
 refine bA.op (λv _=>∃p code,v=au #[aj p,G J code]) (λ_ _ _ h _=>h) (λV W1 kW hp=>?_) ?_
 ·exact aad
 refine bA.op (λv _=>∃p,v=aj p) (λ_ _ _ h _=>h) (λV W1 kW hp=>?_) ?_
 ·exact aad
 refine bA.op (λv _=>∃c:Int,v=G J c) (λ_ _ _ h _=>h) (λV W1 kW hp=>?_) ?_
 ·exact aad
 refine bA.op (λv _=>∃p,v=aj p) (λ_ _ _ h _=>h) (λV W1 kW hp=>?_) ?_
 ·simp only[dE,bU,bZ,dA,dB,bM]at hp;obtain⟨⟨p,e⟩,-⟩:=hp;exact aae
 refine⟨⟨⟨_,_,rfl,rfl,rfl,λV W1 hW hD hp=>?_⟩,trivial⟩,λk hk=>(by simp at hk),λz hz=>?_,λV W1 hW hD _ hE hA=>?_⟩
 ·simp only[dE,bU,bZ,dA,dB,bM]at hp;obtain⟨e0,e4,e8,uT,-⟩:=hp;have hD:K W W1:=S9;simp[bP,aC,e0,e4,e8,uT,lO,aL,bR,go_sem];refine (HC.aX W1 hD).mono ?_;rintro e w'⟨p,code,rfl,C⟩;exact⟨_,rfl,Md.aX _ _ _ C,⟨p,code,rfl,C⟩,p,code,rfl⟩
 ·simp at hz;rcases hz with rfl|rfl|rfl|rfl;all_goals refine⟨_,_,rfl,rfl,rfl,bq,λV W1 hW hp=>⟨W1,?_⟩⟩
  all_goals simp only[dE,bU,bZ,dA,dB,bM]at hp
  ·exact Ta
  ·obtain⟨⟨p,code,e⟩,-⟩:=hp;simp[bP,aC,e,aL,bR,go_sem,K6]
  ·obtain⟨⟨p,code,e⟩,-⟩:=hp;simp[bP,aC,e,aL,bR,go_sem,K7]
  ·exact Ta
 simp only[bU,bZ,dx,bM,Nat.reduceAdd]at hA
 obtain⟨e0,e1,e2,e3,e4,e5,e6,e7,e8,e9,iV,tV,zY,Fh,LH,uT,-⟩:=hA
 simp only[dE,id]at hE
 obtain⟨LX,X,h19,Qq,-⟩:=hE
 obtain⟨p,code,Jo,C⟩:∃p code,V 16=au #[aj p,G J code]/\IU H own O W i gd B d R p code W1:=S9
 rw[LX,Jo]at X h19
 rw[X]at Qq
 rw[Jo]at LX
 simp only[K6,K7]at X h19 Qq
 have hA:=aB e0 (aB e1 (aB e2 (aB e3 (aB e4 (aB e5 (aB e6 (aB e7 (aB e8 (aB e9 (aB iV (aB tV (aB zY (aB Fh (aB LH (aB uT (aB Jo (aB LX (aB X (aB h19 Qq)))))))))))))))))))
 have qs:=trivial
 refine bJ.p ?_
 refine bJ.h ?_
 have:=T W1 hW
 obtain⟨y,⟨rfl,⟨g,rfl,hL⟩,rfl⟩|⟨hcz,rfl,Qa,rfl⟩⟩:=C
 ·obtain⟨W2,hrun,hF⟩:=HW.aX g W1 y hL;have HF:=aY hF;exact Tb
 ·have HF:=aY (show ∃L A,cM L A O W1 S/\L.gw=H.gw/\bf (λk=>2<=own k) W W1/\(∀k,k<Z (D W)->A k=own k)/\∀k,A k=3->own k=3 from
   ⟨H,_,HD.aX W1 y Qa,rfl,⟨y.os,y.tape,y.output,y.size,λk N M=>y.block k N λt=>t ⟨aZ,N⟩⟩,λk hk=>Ih,λk hk=>by
    unfold kP at hk;split at hk
    ·split at hk <;> omega
    ·exact hk⟩)
  exact Tb
theorem atP(h:cM H own O W S)(B:S 2)(C:∀n,S (2*n+4))(j:pY O){i:Nat}{d s}(A:O.gq[i]?=I ⟨U,d⟩)(L:jl d s)(z:s.life+1<18446744073709551616) :
 aK prog 39 #[aj (I ⟨H.gw,0,U⟩),G J i] W λe w'=>e=ak (G J (tG O i).2)/\∃y t,cM y t (tG O i).1 w' S/\y.gw=H.gw/\bf (λk=>2<=own k) W w'/\(∀k,k<Z (D W)->t k=own k)/\∀k,t k=3->own k=3:=by
 have:=aeF h B C j.tr j.ln (by have:=RL j.hm;omega) A L z
 rwa [show y8 O i=tG O i by unfold y8;rw[j.hm];rfl]at this
theorem ar5(h:cM H own O W eB)(t:dh par bj O k)(hk:k<=40000) n :
 aK prog 56 #[aj (I ⟨H.gw,0,U⟩),G J n] W λe w'=>e=ak (G J (Cw O n).2)/\ew H own (Cw O n).1 W w':=by
 have C1:=aY (MS h p2 n)
 have C2:=aY (Rm h p2 pB t.iK n)
 have HR:Hid (Cw O n=if mq O n then (if (eF O n).isSome then (O,(210:Int))else tG O n)else (O,1)):=aY rfl
 have HN:=aY (h.now (K.rf W))
 have C:Hid (mq O n=aA->eF O n=U->aK prog 39 #[aj (I ⟨H.gw,0,U⟩),G J n] W λe w'=>e=ak (G J (tG O n).2)/\ew H own (tG O n).1 W w'):=aY λj hu=>by obtain⟨i,rfl,-,d,s,z,M,S,-⟩:=t.down j hu;exact (atP h p2 pB t.iK z M aZ).mono λe w' ⟨y,L,o',a,b,c,d,_⟩=>⟨y,L,o',a,b,c,d⟩
 generalize Cw O n=R at *
 cases j:mq O n
 ·rw[j]at C1 HR;exact S7
 rw[j]at C1 HR
 cases hu:eF O n with
 | none =>
  have A:=aY (C.aX j hu);rw[hu]at HR C2;generalize tG O n=V at *;go_in;go_wp2_with fail
  apply bN C1.aX;rintro w' rfl;go_wp2_with fail
  apply bN C2.aX;rintro w' rfl;go_wp2_with fail
  apply bN A.aX;intro T N;have HF:=aY N;exact NL
 | some B => exact al7
end
section
open Go Go.RowKit Go.Conc
def Dd(par:List Int)(n:Nat):List lu:=(List.range n).tail.flatMap λ(k:Nat)=>let p:=(par[k]?).getD 0;[(((k:Int),p),[]),((p,(k:Int)),[])]
theorem au5 par k(hk:1<=k):Dd par (k+1)=Dd par k++[(((k:Int),(par[k]?).getD 0),[])]++[(((par[k]?).getD 0,(k:Int)),[])]:=by unfold Dd;rw[List.range_succ,List.tail_append_of_ne_nil bG,List.flatMap_append];simp
theorem Xf par n:∀p∈Dd par n,p.2=[]:=by
 grind [Dd]
theorem yS.mem{M C A B bu L W}(h:yS M C A B bu L W){p}(hp:p∈bu):∃q∈L,p.1=q.1/\∃c<Z (D W),p.2=.chan (I c):=by
 obtain⟨i,t,rfl⟩:=List.getElem_of_mem hp;have j:i<Q L:=by rw[<- h.len];exact t
 obtain⟨z,c,vs,e,-,y,-⟩:=h.ls i t j;exact⟨_,dG j,z,c,y.lt,e⟩
theorem yS.add{M C A t c bu L W W1 k}(h:yS M C A t bu L W)(hL:∀p∈L,p.2=[])(T:K W W1)(hg:A≠t)(hc:mM c [] W1)(hw:Z (D W)<=c)(hk:∀p∈L,p.1≠k):
 ∃W',(Instr.mapUpdate 151 (.map (I t)) (p6 k) (.chan (I c))).run prog W1=.ok () W'/\bf (λk=>k=t) W1 W'/\∃bu,∀(M' C':Nat->Prop),(∀k,C k∨k=c->C' k)->(∀k,C' k->M' k)->¬M' A/\¬M' t->yS M' C' A t bu (L++[(k,[])]) W':=by
 have N:∀p∈bu,p.1≠k:=λp hp=>by
  obtain⟨q,hq,e,-⟩:=h.mem hp
  grind
 obtain⟨W',r1,R,r3⟩:=FK aoA underlying151 (h.map.st T) k (.chan (I c))
 have u:=bf.gy r3 (X:=λk=>k=t) λk e=>bG
 have S:=(bf.bS T (λk=>k=t)).tr u
 have hcm:c≠t:=λe=>by have:=h.map.lt;omega
 unfold uo at R
 rw[XQ N]at R
 refine⟨W',r1,u,bu++[(k,.chan (I c))],λM' C' hC hM hn=>?_⟩
 ·refine⟨h.blk.cA S hg,R,by simp[h.len],λi O H=>?_,?_,λi j O hj e=>?_,hn,hM⟩
  ·by_cases z:i<Q bu
   ·have y:i<Q L:=by rw[<- h.len];exact z
    simp only[List.getElem_append_left z,List.getElem_append_left y];obtain⟨g1,c2,vs,e,Y,q2,V,q4⟩:=h.ls i z y;rw[hL _ (dG y)]at V⊢;exact⟨g1,c2,vs,e,hC _ (aI Y),q2.cA S λe=>h.ne.2 (h.sub _ (e▸Y)),V,λi _ H=>bG⟩
   ·obtain rfl:i=Q bu:=bG;simp only[List.getElem_concat_length,h.len];exact⟨bq,c,[],bq,hC _ (aJ rfl),hc.cA u hcm,rfl,λi _ H=>by simp at H⟩
  ·rw[List.map_append];refine List.nodup_append.2 ⟨h.nd,bq,λa ha b hb=>?_⟩;obtain⟨p,hp,rfl⟩:=List.mem_map.1 ha;obtain⟨q,-,-,c',hc',e⟩:=h.mem hp;simp at hb;subst hb;rw[e];intro B;injection B with B;injection B with B;omega
  ·by_cases z:i<Q bu <;> by_cases y:j<Q bu
   ·simp only[List.getElem_append_left z,List.getElem_append_left y]at e;exact h.kn i j z y e
   ·obtain rfl:j=Q bu:=S6;simp only[List.getElem_append_left z,List.getElem_concat_length]at e;exact absurd e (N _ (dG z))
   ·obtain rfl:i=Q bu:=by simp at O;omega
    simp only[List.getElem_append_left y,List.getElem_concat_length]at e;exact absurd e.symm (N _ (dG y))
   ·simp at O hj;omega
theorem awv{par n}(h:iQ par=aA)(hn:n<=Q par){p}(hp:p∈Dd par n):∃(i:Nat) (q:Int),i<n/\par[i]?=I q/\0<=q/\q<(i:Int)/\(p.1=((i:Int),q)∨p.1=(q,(i:Int))):=by
 grind [iQ,Dd]
theorem aww par v w(h:bw eu par v w)(Y:iQ par=aA) :
 aK prog 40 #[v] w λe w'=>∃x,e=ak x/\(∃gn,x=au #[aj (I ⟨gn,0,U⟩),G J 0]/\∃C,o6 (λk=>k<Z (D w)∨C k) C gn (Im par) w'/\∀k,C k->Z (D w)<=k/\k<Z (D w'))/\K w w':=by
 have hp:=ud Y
 have C1:=aY (MC par v w h aZ)
 obtain⟨A,c,rfl,hl,-⟩:=h
 obtain⟨b,off,rfl,hcell⟩:=ints_at hl aZ
 have zf:y7 par=0:=bT Y
 rw[zf]at C1
 have HT:=aY Y
 have kk:=K.rf w
 go_in
 go_wp2_with fail
 apply dP C1.aX kk
 intro t k1 k0
 have:=λW=>JV (P:=prog) underlying151 W
 go_upto_region 5 with fail
 have EY:yS (λk=>k<Z (D w)∨(Z (D w)<=k/\k<Z (D t)+2/\k≠Z (D t)/\k≠Z (D t)+1)) (λk=>Z (D w)<=k/\k<Z (D t)+2/\k≠Z (D t)/\k≠Z (D t)+1) (Z (D t)+1) (Z (D t)) [] (Dd par 1) ((aU t (.map #[] 0)).alloc (aq #[.map (I (Z (D t)))] 153)) :=
  ⟨by simpa using bn.new (aU t (.map #[] 0)) 153 #[.map (I (Z (D t)))],(fC.new t).st ((K.rf _).al _),rfl,λi hi=>Nl,bq,λi _ hi=>Nl,by have:=k1.size;constructor <;> omega,λk h=>aJ h⟩
 have k2:=(k0.al (.map #[] 0)).al (aq #[.map (I (Z (D t)))] 153)
 have hz:Z (D ((aU t (.map #[] 0)).alloc (aq #[.map (I (Z (D t)))] 153)))=Z (D t)+2:=bq
 have hz1:=k1.size
 generalize ((aU t (.map #[] 0)).alloc (aq #[.map (I (Z (D t)))] 153))=w2 at *
 rw[<- hz]at EY
 generalize Pg:Z (D t)=y at *
 have T:=aY (aB hz (aB hz1 Pg))
 have H0:=aY (aB EY k2)
 go_wp2_with fail
 go_loopw [6] (fun i W=>∃j:Nat,1<=j/\j<=Q par/\i=G J j/\Hid ((∃bu,yS (fun k=>k<Z (D w)∨(Z (D w)<=k/\k<Z (D W)/\k≠y/\k≠y+1)) (fun k=>Z (D w)<=k/\k<Z (D W)/\k≠y/\k≠y+1) (y+1) y bu (Dd par j) W)/\K w W/\y+2<=Z (D W))) (fun i _=>Q par-(aO i).toNat)
 case atStart=>exact⟨1,aZ,aZ,rfl,aY ⟨⟨_,H0.aX.1⟩,H0.aX.2,by have:=T.aX;omega⟩⟩
 case round =>
  obtain⟨j,Pj,hj,rfl,HJ⟩:=hrel;by_cases hlt:j<Q par
  ·have B:(j:Int)<Q par:=aZ;obtain⟨⟨bu,M⟩,L,vV⟩:=HJ.aX;have Gt:=λW (k:K w W)=>hcell W k j hlt
   have q:=M.blk.cells;have HK:=aY (show ∀p∈Dd par j,p.1≠((j:Int),par[j])/\p.1≠(par[j],(j:Int))from λp hp=>by
    obtain⟨i,x,N,-,h3,h4,h5⟩:=awv HT.aX aZ hp;rcases h5 with e|e <;> rw[e] <;> constructor <;> intro e2 <;> injection e2 <;> omega)
   have HS:=aY (au5 par j Pj);have GA:=aY ((Hu.1 HT.aX).2.2.2 j hlt Pj);rw[aE hlt,Option.getD_some]at HS;generalize par[j]=x at *;have HN:=aY M;have HC:=aY Gt;have hq:=λW (k:K wr W)=>Gt W (L.tr k)
   go_wp2_with fail
   have qs:=aB q (aB hq (aB B B));refine eQ 11 ?_;iterate 10 refine bA.i ?_
   refine bA.op (λv W=>∃c,v=.chan (I c)/\Z (D wr)<=c/\mM c [] W) (λv W W' ⟨c,e,N,h2⟩ k=>⟨c,e,N,h2.cA (bf.bS k λ_=>False) id⟩) (λV W kW hp=>?_) ?_
   ·exact al8
   intro V W kW hA;simp only[bU,bZ,dx,bM,Nat.reduceAdd]at hA;obtain⟨f0,f1,f2,R,f4,f5,f6,f7,f8,S,⟨c1,X,hc1,fF⟩,-⟩:=hA;have hz:=kW.size;have:=fF.lt;obtain⟨W1,r1,u1,aJP,H⟩:=HN.aX.add (Xf par j) kW aZ fF hc1 λp hp=>(HK.aX p hp).1
   have hz1:=u1.size;replace H:=H (λk=>k<Z (D w)∨(Z (D w)<=k/\k<Z (D W1)/\k≠y/\k≠y+1)) (λk=>Z (D w)<=k/\k<Z (D W1)/\k≠y/\k≠y+1) al9 (λ_ h=>aJ h) ama;simp only[p6]at r1;refine bJ.s (w':=W1) ?_ (by simp[bP,aC,cK,R,S,X,aL,bR,r1,go_sem]);refine bJ.e ?_;have k1:=u1.k (L.tr kW) λk e=>e▸by have:=T.aX;omega
   have gX:=λz (k:K W1 z)=>HC.aX z (k1.tr k)
   have q1:=H.blk.cells;have Jk:=aY H;go_wp2_with fail
   have qs:=aB q1 (aB gX (aB B B));refine eQ 11 ?_;iterate 10 refine bA.i ?_
   refine bA.op (λv W=>∃c,v=.chan (I c)/\Z (D W1)<=c/\mM c [] W) (λv W W' ⟨c,e,N,h2⟩ k=>⟨c,e,N,h2.cA (bf.bS k λ_=>False) id⟩) (λV W kW hp=>?_) ?_
   ·exact al8
   intro V W kW hA;simp only[bU,bZ,dx,bM,Nat.reduceAdd]at hA;obtain⟨f0,f1,f2,R,f4,f5,f6,f7,f8,S,⟨c2,X,jC,nE⟩,-⟩:=hA;have:=nE.lt;obtain⟨z,r2,u2,aJQ,O⟩:=Jk.aX.add (λp hp=>by
    rcases List.mem_append.1 hp with h|h
    ·exact Xf par j p h
    ·simp at h;rw[h]) kW aZ nE jC λp hp=>by
    rcases List.mem_append.1 hp with h|h
    ·exact (HK.aX p h).2
    ·simp at h;rw[h];have:=GA.aX;intro e;injection e;omega
   have:=u2.size;replace O:=O (λk=>k<Z (D w)∨(Z (D w)<=k/\k<Z (D z)/\k≠y/\k≠y+1)) (λk=>Z (D w)<=k/\k<Z (D z)/\k≠y/\k≠y+1) al9 (λ_ h=>aJ h) ama;simp only[p6]at r2;refine bJ.s (w':=z) ?_ (by simp[bP,aC,cK,R,S,X,aL,bR,r2,go_sem]);refine bJ.e ?_;have k2:=u2.k (k1.tr kW) λk e=>e▸by have:=T.aX;omega
   rw[<- HS.aX]at O;have GD:=aY O;go_wp2;go_roundw
   case rel=>exact⟨j+1,aZ,aZ,cU,aY ⟨⟨_,GD.aX⟩,k2,aZ⟩⟩
   case measure=>simp[aO];omega
  ·have B:¬(j:Int)<Q par:=aZ;obtain rfl:j=Q par:=aZ;go_wp2;go_ret2;obtain⟨⟨bu,M⟩,L,-⟩:=HJ.aX;exact⟨_,rfl,⟨_,rfl,_,⟨_,_,M⟩,λk h=>⟨h.1,h.2.1⟩⟩,L⟩
end
theorem ahG{α T j e z bytes}(t:ir prog j e z 1 bytes)(n:Nat)(hn:n<=1000000)(x:α)(hz:z.cells=#[z])(y:T.size=1)(N:∀w,T.rel x [z] w)(hb:bytes<=1000) W :
 (Instr.makeSlice j (G J n) (G J n)).run prog W=.ok (F (I ⟨Z (D W),0,U⟩) n n) (aU W (aq (madeCells #[z] n) e))/\bK (λ_=>True) (Z (D W)) e T (List.replicate n x) (F (I ⟨Z (D W),0,U⟩) n n) (aU W (aq (madeCells #[z] n) e)):=by
 obtain⟨i,B,C,L,A⟩:=t.fit
 have h9:(i.bytes:Int)*(n:Int)<=281474976710656:=by have:=Nat.mul_le_mul hb hn;rw[A,<- Int.natCast_mul];omega
 have h:=run_make (P:=prog) W j e i z t.und B C J J (n:Int) (n:Int) aZ aZ h9 aZ
 rw[L,hz]at h
 refine⟨bG,List.replicate n [z],?_,bq,λw' _=>⟨bq,λi y M=>bG⟩⟩
 have H:(List.replicate n [z]).flatten=List.replicate n z:=bq
 rw[H,y,List.length_replicate]
 exact QQ (xs:=List.replicate n z) (rest:=[]) (bL _) (by rw[List.append_nil,<- toList_madeCells_one];exact bn.new W e _) bq bq Eo
structure Gq(w:aP)(par bj:List Int)(room gw gb:Nat)(vp vh vc vg:aQ)(ds:List Nat)(vd:aQ)(W:aP):Prop where
 blk:bn W gw 105 #[vp,vh,aj U,vd,.map (I gb),vc,vg]
 map:fC encI W gb []
 p:bK (λ_=>True) (Z (D w)) 3 eu par vp W
 h:bK (λ_=>True) (Z (D w)) 3 eu bj vh W
 c:bK (λ_=>True) (Z (D w)) 3 eu (List.replicate (Q bj) 0) vc W
 g:bK (λ_=>True) (Z (D w)) 78 AE (List.replicate (Q bj) (F U 0 0)) vg W
 d:bK (λ_=>True) (Z (D w)) 106 AE (ds.map λg=>aj (I ⟨g,0,U⟩)) vd W
 ap:∀b,aW vc=I b->aW vp≠I b/\aW vh≠I b
 dk:∀(i:Nat) (hi:i<Q ds),ja ds[i] (F U 0 0) [] 0 room W/\Z (D w)<=ds[i]
 nd:ds.Nodup
 lo:Z (D w)<=gw/\Z (D w)<=gb
 k:K w W
theorem Gq.push{w W W1 t par bj room gw gb vp vh vc vg vd v' ds}(h:Gq w par bj room gw gb vp vh vc vg ds vd W)(k1:K W W1)(hD:ja (Z (D W)) (F U 0 0) [] 0 room W1)
 (M:bK (λ_=>True) (Z (D w)) 106 AE ((ds.map λg=>aj (I ⟨g,0,U⟩))++[aj (I ⟨Z (D W),0,U⟩)]) v' t) (hg:W1.grownBy t (aW vd)) :
 bn t gw 105 #[vp,vh,aj U,vd,.map (I gb),vc,vg]/\Gq w par bj room gw gb vp vh vc vg (ds++[Z (D W)]) v' (aV t ⟨gw,3,U⟩ v'):=by
 obtain⟨X,hX⟩:∃X:Nat->Prop,X=λk=>aW vd=I k∨k=gw:=⟨_,rfl⟩
 have V:=h.blk.bF k1
 have C:=V.grown hg λe=>by obtain⟨_,_,_,hb⟩:=h.d.own e.symm;exact Tc
 have u:bf X W (aV t ⟨gw,3,U⟩ v'):=((bf.bS k1 _).tr (bf.gy hg λk e=>by rw[hX];exact aI e)).tr (bf.dc amb 3 v')
 have O:∀b e cs,bn W b e cs->e≠106->e≠105->¬X b:=λb e cs hb B A j=>by
  rw[hX]at j;rcases j with j|rfl
  ·obtain⟨_,_,_,Y⟩:=h.d.own j;exact B (hb.js Y)
  ·exact A (hb.js h.blk)
 have N:∀k,X k->Z (D w)<=k/\k<Z (D W):=λk hk=>by
  rw[hX]at hk;rcases hk with hk|rfl
  ·exact h.d.blk k hk
  ·exact⟨h.lo.1,h.blk.lt⟩
 have y:∀ {β:Type} {S:fE β} {e:TypeId} {l:List β} {v:aQ},bK (λ_=>True) (Z (D w)) e S l v W->e≠106->e≠105->bK (λ_=>True) (Z (D w)) e S l v (aV t ⟨gw,3,U⟩ v'):=λh9 B A =>
  h9.to u (λ_ _=>trivial) (λk hk j=>by
   obtain⟨_,_,_,hb⟩:=h9.own hk;exact O k _ _ hb B A j) λ_ _ _=>aI trivial
 refine⟨C,by simpa using C.cz 3 v',h.map.cA u λj=>?_,y h.p bC bC,y h.h bC bC,y h.c bC bC,y h.g bC bC,?_,h.ap,λi z=>?_,?_,h.lo,u.k h.k λk hk=>(N k hk).1⟩
 ·rw[hX]at j;rcases j with j|j
  ·obtain⟨_,_,_,hb⟩:=h.d.own j;exact h.map.cells hb
  ·have L:=h.blk;rw[<- j]at L;exact h.map.cells L
 ·rw[List.map_append];exact M.to (bf.dc (X:=λk=>k=gw) rfl 3 v') (λ_ _=>trivial) (λk hk e=>by
   obtain⟨_,_,_,hb⟩:=M.own hk;exact absurd (hb.js (e▸C)) bC) λ_ _ _=>aI trivial
 ·rw[eU]at z;by_cases h9:i<Q ds
  ·rw[List.getElem_append_left h9];obtain⟨H,T⟩:=h.dk i h9;refine⟨H.cA u λk hk=>?_,T⟩;rcases hk with rfl|hk
   ·exact O _ _ _ H.blk bC bC
   ·cases hk
  ·have e:i=Q ds:=by simp at z;omega
   subst e;rw[List.getElem_append_right (bL _)];simp only[Nat.sub_self,List.getElem_cons_zero];have R:bf X W1 (aV t ⟨gw,3,U⟩ v'):=(bf.gy hg λk e=>by rw[hX];exact aI e).tr (bf.dc amb 3 v');refine⟨hD.cA R λk hk j=>?_,h.k.size⟩;rcases hk with rfl|hk
   ·exact Nat.lt_irrefl _ (N _ j).2
   ·cases hk
 ·rw[List.nodup_append];refine⟨h.nd,bq,λa ha b hb e=>?_⟩;simp at hb;obtain⟨i,z,rfl⟩:=List.mem_iff_getElem.1 ha;have:=(h.dk i z).1.blk.lt;omega
def pD(par bj:List Int)(room j:Nat):cP :=
 ⟨par,bj,[],(List.range (Q par)).map λ(n:Nat)=>if n<j then ⟨I (wZ n par bj ⟨eY (eJ eP),room⟩ (eJ eP)),⟨eY (eJ eP),room⟩⟩else ⟨U,⟨[],room⟩⟩,bj.map λ_=>0,bj.map λ_=>[]⟩
theorem aAi par bj room:{ pD par bj room (Q par)with dR:=Im par }=lZ par bj room:=by simp[pD,lZ]
theorem aaf{par bj room j}(t:j<Q par):(pD par bj room j).gq[j]?=I ⟨U,⟨[],room⟩⟩:=by simp[pD,t]
theorem ayh{par bj room j}(B:j<Q par)(y:jQ (eY (eJ eP))<=room)(A:room<=1048576):tG (pD par bj room j) j=(pD par bj room (j+1),0):=by
 have e:=KJ (jl.new A);unfold tG;simp only[Int.toNat_natCast,aaf B,Option.map_some,Option.getD_some,e,bT y];refine Prod.ext ?_ rfl;unfold rZ oL pD;simp only[cP.mk.injEq,true_and,and_true,Int.toNat_natCast];refine List.ext_getElem bq λi z C=>?_
 simp only[List.length_set,List.length_map,List.length_range]at z;rw[List.getElem_set];simp only[List.getElem_map,List.getElem_range];by_cases t:j=i
 ·subst t;simp[wZ]
 ·rw[bO t];by_cases h9:i<j
  ·rw[bT h9,bT aZ]
  ·rw[bO h9,bO aZ]
def Bi(i:Nat):Prop:=2<=i/\i≠3
theorem Gq.ov{w W par bj room gw gb vp vh vc vg vd ds}(h:Gq w par bj room gw gb vp vh vc vg ds vd W)(O:Q ds=Q par) :
 ∃own,cM ⟨gw,gb,vp,vh,aj U,vd,vc,vg,List.replicate (Q bj) (F U 0 0),ds,[]⟩ own (pD par bj room 0) W Bi/\(∀k,k<Z (D w)->own k=0)/\∀k,own k≠3:=by
 obtain⟨H,A⟩:∃H:Nat->Prop,H=λk=>k=gw∨k=gb∨aW vc=I k∨aW vg=I k:=⟨_,rfl⟩
 classical
 obtain⟨own,ho⟩:∃own:Nat->Nat,own=λk=>if H k then 2 else match (List.range (Q ds)).find? λi=>decide (ds[i]?=I k)with|some i=>2*i+4|none=>0:=⟨_,rfl⟩
 have L:∀k,H k->own k=2:=λk hk=>bG
 have S:∀(i gd:Nat),ds[i]?=I gd->∃cs,bn W gd 149 cs:=λi gd y=>by obtain⟨z,rfl⟩:=aF.1 y;exact⟨_,(h.dk i z).1.blk⟩
 have hct:∀k,H k->∀cs,¬bn W k 149 cs:=λk hk cs hb=>by
  rw[A]at hk;rcases hk with rfl|rfl|hk|hk
  ·exact Tc
  ·exact h.map.cells hb
  ·obtain⟨_,_,_,hb2⟩:=h.c.own hk;exact EC
  ·obtain⟨_,_,_,hb2⟩:=h.g.own hk;exact EC
 have od:∀(i gd:Nat),ds[i]?=I gd->own gd=2*i+4:=λi gd y=>by
  obtain⟨cs,hb⟩:=S i gd y
  rw[ho]
  simp only
  rw[bO λe=>hct gd e cs hb]
  obtain⟨hil,hie⟩:=aF.1 y
  cases hf:(List.range (Q ds)).find? λi=>decide (ds[i]?=I gd)with
  | none =>
   grind
  | some j => have z:=List.find?_some hf;simp only[decide_eq_true_eq]at z;obtain⟨hjl,hje⟩:=aF.1 z;have:i=j:=(List.getElem_inj h.nd).1 (hie.trans hje.symm);rw[this]
 have N:∀k,own k≠0->H k∨∃i,ds[i]?=I k/\own k=2*i+4:=λk hk=>by
  grind
 have V:∀k,own k≠0->Z (D w)<=k/\k<Z (D W):=λk hk=>by
  rcases N k hk with t|⟨i,y,-⟩
  ·rw[A]at t;rcases t with rfl|rfl|t|t
   ·exact⟨h.lo.1,h.blk.lt⟩
   ·exact⟨h.lo.2,h.map.lt⟩
   ·exact h.c.blk k t
   ·exact h.g.blk k t
  ·obtain⟨z,rfl⟩:=aF.1 y;exact⟨(h.dk i z).2,(h.dk i z).1.blk.lt⟩
 have X:∀b cs,bn W b 3 cs->aW vc≠I b->¬own b≠0:=λb cs hb Y hk=>by
  rcases N b hk with t|⟨i,y,-⟩
  ·rw[A]at t;rcases t with rfl|rfl|t|t
   ·exact Tc
   ·exact h.map.cells hb
   ·exact Y t
   ·obtain⟨_,_,_,hb2⟩:=h.g.own t;exact EC
  ·obtain⟨_,hb2⟩:=S i b y;exact EC
 have Fy:∀b,aW vd=I b->¬own b≠0:=λb hvb hk=>by
  obtain⟨_,_,_,hb⟩:=h.d.own hvb;rcases N b hk with t|⟨i,y,-⟩
  ·rw[A]at t;rcases t with rfl|rfl|t|t
   ·exact Tc
   ·exact h.map.cells hb
   ·obtain⟨_,_,_,hb2⟩:=h.c.own t;exact EC
   ·obtain⟨_,_,_,hb2⟩:=h.g.own t;exact EC
  ·obtain⟨_,hb2⟩:=S i b y;exact EC
 have fp:=NG (M:=λk=>own k≠0) h.p λb hb=>by obtain⟨_,_,cs,hb2⟩:=h.p.own hb;exact X b cs hb2 λe=>(h.ap b e).1 hb
 have fh:=NG (M:=λk=>own k≠0) h.h λb hb=>by obtain⟨_,_,cs,hb2⟩:=h.h.own hb;exact X b cs hb2 λe=>(h.ap b e).2 hb
 refine⟨own,⟨λk hk=>(V k hk).2,λW' u=>⟨fp W' u,fh W' u,(h.d.to u (λ_ _=>trivial) Fy (Y':=λ_=>True) λ_ _ _=>aI trivial).bw⟩,λ_=>⟨h.blk,h.map,λ_ _=>rfl,?_,h.g.low (eO _),⟨L _ (by rw[A];exact aI rfl),L _ (by rw[A];exact aJ (aI rfl)),λk hk=>L k (by rw[A];exact aJ (aJ (aI hk))),λk hk=>L k (by rw[A];exact aJ (aJ (aJ hk)))⟩,by simp[pD],bq⟩,λe=>absurd rfl e.2,λn x _ C=>?_,λc l _ O=>?_⟩,λk hk=>?_,λk=>?_⟩
 ·show bK _ 0 _ eu (bj.map λ_=>0) vc W;rw[List.map_const'];exact h.c.low (eO _)
 ·have hn:n<Q par:=by have:=(aF.1 C).1;simpa [pD]using this
  simp[pD,hn]at C;subst C;obtain⟨gd,T⟩:∃gd,ds[n]?=I gd:=⟨_,aE aZ⟩;refine⟨gd,T,λB e=>AU,λ_=>⟨rfl,F U 0 0,?_,λk hk=>⟨λC=>?_,hk.2⟩⟩⟩
  ·obtain⟨z,rfl⟩:=aF.1 T;exact (h.dk n z).1
  ·rcases C with rfl|C
   ·exact hk.1 (od n _ T)
   ·cases C
 ·have R:=(aF.1 O).1;simp only[pD,List.length_map]at R;simp[pD,R]at O;subst O;exact⟨F U 0 0,by simp[List.getElem?_replicate,R],bK.nil _ _ _ _ _,λk hk=>by cases hk⟩
 ·by_cases e:own k=0
  ·exact e
  ·have:=V k e;omega
 ·intro e;rcases N k aZ with t|⟨i,-,y⟩
  ·have:=L k t;omega
  ·omega
theorem cM.aDz{W W1 H own O C y L}(h:cM H own O W Bi)(Y:∀k,own k≠3)(k1:K W W1)(hN:o6 (λk=>k<Z (D W)∨C k) C y L W1)(M:∀k,C k->Z (D W)<=k/\k<Z (D W1)) :
 ∃t,cM { H with vn:=aj (I ⟨y,0,U⟩) } t { O with dR:=L } (aV W1 ⟨H.gw,2,U⟩ (aj (I ⟨y,0,U⟩))) eB/\∀k,k<Z (D W)->t k=own k:=by
 classical
 obtain⟨t,S⟩:∃t:Nat->Nat,t=λk=>if C k then 3 else own k:=⟨_,rfl⟩
 have hlo:=h.lo
 have N:∀k,C k->t k=3:=λk hk=>by rw[S];exact bT hk
 have B:∀k,¬C k->t k=own k:=λk hk=>by rw[S];exact bO hk
 have z:∀k,k<Z (D W)->t k=own k:=λk hk=>B k λj=>by have:=M k j;omega
 have o4:∀k,t k=3↔C k:=λk=>⟨λe=>by
  by_cases j:C k
  ·exact j
  ·rw[B k j]at e;exact absurd e (Y k),N k⟩
 have T:∀k,t k≠0->k<Z (D W)∨C k:=λk e=>by
  by_cases j:C k
  ·exact aJ j
  ·rw[B k j]at e;exact aI (hlo k e)
 have u:bf (λk=>k=H.gw) W (aV W1 ⟨H.gw,2,U⟩ (aj (I ⟨y,0,U⟩))):=(bf.bS k1 _).tr (bf.dc (X:=λk=>k=H.gw) rfl 2 _)
 have:Z (D (aV W1 ⟨H.gw,2,U⟩ (aj (I ⟨y,0,U⟩))))=Z (D W1):=Yu
 have j:=h.gW (show Bi 2 by unfold Bi;omega)
 have V:=j.own.1
 have R:=j.blk.lt
 have A:cM H t O _ (λi=>4<=i):=h.to u (λk e=>by subst e;rw[V];decide) (λi hi=>aag) z λk hk e=>by
  rcases T k e with h9|h9
  ·omega
  ·rw[N k h9];have:=M k h9;exact⟨aZ,bC⟩
 refine⟨t,⟨A.lo,A.fx,λ_=>⟨?_,j.map.cA u λe=>?_,j.oob,j.cur.to u (λ_ _=>trivial) (λk hk e=>?_) λ_ _ _=>aI trivial,j.got.to u (λ_ _=>trivial) (λk hk e=>?_) λ_ _ _=>aI trivial,⟨(z _ R).trans V,(z _ j.map.lt).trans j.own.2.1,λk hk=>(z k (j.cur.blk k hk).2).trans (j.own.2.2.1 k hk),λk hk=>(z k (j.got.blk k hk).2).trans (j.own.2.2.2 k hk)⟩,j.len,j.kn⟩,λ_=>⟨y,rfl,?_⟩,λn x _ hx=>A.brk n x aZ hx,λc l _ hl=>A.got c l aZ hl⟩,z⟩
 ·simpa using (j.blk.below k1 R).cz 2 (aj (I ⟨y,0,U⟩))
 ·have hb:=j.blk;rw[<- e]at hb;exact j.map.cells hb
 ·obtain⟨_,_,_,hb⟩:=j.cur.own hk;exact absurd (hb.js (e▸j.blk)) bC
 ·obtain⟨_,_,_,hb⟩:=j.got.own hk;exact absurd (hb.js (e▸j.blk)) bC
 ·rw[show (λk=>t k=3)=C from funext λk=>propext (o4 k)];exact hN.to (bf.dc (X:=λk=>k=H.gw) rfl 2 _) (λk e=>aI (e▸R)) (λk hk e=>by have:=M k hk;omega) (λk _ e=>T k e) λk hk=>by rw[N k hk];decide
theorem aCU:(prog.info? 78).map (λi=>(i.zero,i.size,i.bytes))=I (I (F U 0 0),1,24):=by rfl
theorem TGG:ir prog 101 78 (F U 0 0) 1 24:=⟨underlying101,aCU,rfl,bC⟩
theorem aCV:(prog.info? 106).map (λi=>(i.zero,i.size,i.bytes))=I (I (aj U),1,8):=by rfl
theorem TDk:ir prog 103 106 (aj U) 1 8:=⟨underlying103,aCV,rfl,bC⟩
theorem ahH{Y base e l v w}(h:bK Y base e eu l v w):bK (λ_=>True) base e eu l v w:=by obtain⟨css,t,j,y⟩:=h;have:=QU (y w (bf.rf _ _));exact⟨css,t,j,λw' _=>by grind [Hj]⟩
def mD(par bj:List Int)(room:Nat):Int:=if iQ par then if nV par bj then if jQ (eY (eJ eP))<=room then 0 else 90 else 1 else 120
def zk(par bj:List Int)(room:Nat)(w:aP)(e:Ending)(w':aP):Prop:=if mD par bj room=0 then ∃H own,e=ak (au #[aj (I ⟨H.gw,0,U⟩),G J 0])/\cM H own (lZ par bj room) w' eB/\(∀k,k<Z (D w)->own k=0)/\K w w'
 else e=ak (au #[aj U,G J (mD par bj room)])/\K w w'
theorem zk.ok{par bj room w e w'} H own(h:mD par bj room=0/\e=ak (au #[aj (I ⟨H.gw,0,U⟩),G J 0])/\cM H own (lZ par bj room) w' eB/\(∀k,k<Z (D w)->own k=0)/\K w w'):zk par bj room w e w':=by unfold zk;rw[bT h.1];exact⟨H,own,h.2⟩
theorem zk.no{par bj room w e w'}(h:∃c:Int,(c==0)=az/\mD par bj room=c/\e=ak (au #[aj U,G J c])/\K w w'):zk par bj room w e w':=by obtain⟨c,hc,j,h⟩:=h;unfold zk;rw[j,bO Ev];exact h
theorem ayi{par bj:List Int}{room j:Nat}(B:iQ par=aA)(A:j<Q par)(z:room<=1048576) :y8 (pD par bj room j) j=(if mD par bj room=0 then pD par bj room (j+1)else pD par bj room j,mD par bj room):=by
 have e:=KJ (jl.new z);have C:tG (pD par bj room j) j=if jQ (eY (eJ eP))<=room then (rZ (pD par bj room j) j (wZ j par bj ⟨eY (eJ eP),room⟩ (eJ eP)),0)else (pD par bj room j,90):=by unfold tG;simp only[Int.toNat_natCast,aaf A,Option.map_some,Option.getD_some,e];rfl
 unfold y8 mD;rw[bT B];show (if nV par bj=aA then _ else _)=_;by_cases t:nV par bj=aA
 ·rw[bT t,bT t];by_cases y:jQ (eY (eJ eP))<=room
  ·rw[bT y,bT rfl,ayh A y z]
  ·rw[bO y,C,bO y];rfl
 ·rw[bO t,bO t];rfl
theorem atQ par bj(room:Nat) v1 v2 w(y:bw eu par v1 w)(t:bw eu bj v2 w)(fF:Q par<=1000000)(nE:Q bj<=1000000)(cZ:room<=1048576) :
 aK prog 16 #[v1,v2,G J room] w (zk par bj room w):=by
 have yH:=aY λe w' H own h=>zk.ok (par:=par) (bj:=bj) (room:=room) (w:=w) (e:=e) (w':=w') H own h
 have yI:=aY λe w' h=>zk.no (par:=par) (bj:=bj) (room:=room) (w:=w) (e:=e) (w':=w') h
 generalize zk par bj room w=PP at *
 have C1:=aY (MC par v1 w y fF)
 by_cases O:iQ par=aA
 case neg =>
  have zf:y7 par=120:=bO O;have HF:=aY λw' k=>yI.aX _ w' ⟨(120:Int),bC,by unfold mD;rw[bO O],rfl,k⟩
  rw[zf]at C1;have hs1:=bD y;have gH:=bD t;obtain⟨A1,c1,rfl⟩:=hs1;obtain⟨A2,c2,rfl⟩:=gH;go_in;go_wp2_with fail
  apply bN C1.aX;intro M k1;go_wp2;exact HF.aX _ k1
 have:=(ud O).2
 have zf:y7 par=0:=bT O
 rw[zf]at C1
 have H1:=aY y
 have H2:=aY t
 obtain⟨A1,c1,rfl⟩:=bD y
 obtain⟨A2,c2,rfl⟩:=bD t
 have HS:=aY (aB O cZ)
 have oM:=λW=>ahG (T:=eu) Fc (Q bj) aZ 0 rfl rfl (λ_=>rfl) aZ W
 have hm2:=λW=>ahG (T:=AE) TGG (Q bj) aZ (F U 0 0) rfl rfl (λ_=>⟨rfl,rfl⟩) aZ W
 have HM1:=aY oM
 have HM2:=aY hm2
 have mk1:=λW=>(oM W).1
 have mk2:=λW=>(hm2 W).1
 have kk:=K.rf w
 go_in
 go_wp2_with fail
 apply dP C1.aX kk
 intro M k1 Mp
 have LA:=aY λW (k:K M W)=>cH H1.aX (Mp.tr k)
 have Ce:=aY λW (k:K M W)=>cH H2.aX (Mp.tr k)
 go_wp2_with fail
 have qs:=aB mk1 mk2
 refine aen 11 [1,3,4,7,10] [([],[]),([0],[(21,0)]),([],[]),([2],[(23,2)]),([],[]),([],[]),([5],[(26,5)]),([6],[(27,6)]),([],[]),([8],[(29,8)]),([9],[(30,9)]),([1,3,4,7,10],[(22,1),(24,3),(25,4),(28,7),(31,10)]),([11],[(32,11)]),([0,1,2,3,4,5,6,7,8,9,10,11,12],[(33,12)])] 82 ?_
 refine bA.i ?_
 refine bA.ints (Z (D M)) par Fc aZ (λ_ k=>k.size) (λV W kW hp=>?_) ?_
 ·exact ajU
 refine bA.i ?_
 refine bA.ints (Z (D M)) bj Fc aZ (λ_ k=>k.size) (λV W kW hp=>?_) ?_
 ·exact ajV
 refine bA.op (λv W=>∃b,v=.map (I b)/\Z (D M)<=b/\fC encI W b []) (λ_ _ _ ⟨b,e,y,t⟩ k=>⟨b,e,y,t.st k⟩) (λV W kW hp=>?_) ?_
 ·simp[dC,aL,bR,JV underlying100,eH];exact Y0
 iterate 2 refine bA.i ?_
 refine bA.op (λv W=>(∃b,v=F (I ⟨b,0,U⟩) (Q bj) (Q bj))/\bK (λ_=>True) (Z (D M)) 3 eu (List.replicate (Q bj) 0) v W) (λ_ _ _ ⟨e,t⟩ k=>⟨e,t.st k⟩) (λV W kW hp=>?_) ?_
 ·simp only[dE,bU,bZ,dA,dB,bM]at hp;simp[dC,bP,aC,hp,aL,bR,mk1,eH,go_sem];exact⟨(HM1.aX W).2.low kW.size,(K.rf W).al _⟩
 iterate 2 refine bA.i ?_
 refine bA.op (λv W=>(∃b,v=F (I ⟨b,0,U⟩) (Q bj) (Q bj))/\bK (λ_=>True) (Z (D M)) 78 AE (List.replicate (Q bj) (F U 0 0)) v W) (λ_ _ _ ⟨e,t⟩ k=>⟨e,t.st k⟩) (λV W kW hp=>?_) ?_
 ·simp only[dE,bU,bZ,dA,dB,bM]at hp;simp[dC,bP,aC,hp,aL,bR,mk2,eH,go_sem];exact⟨(HM2.aX W).2.low kW.size,(K.rf W).al _⟩
 refine⟨λk hk=>?_,λV W kW hne hA=>?_⟩
 ·simp at hk;rcases hk with rfl|rfl|rfl|rfl|rfl
  ·refine⟨_,_,rfl,rfl,rfl,λV W kW hp=>?_⟩;simp only[dE,bU,bZ,dA,dB,bM]at hp;obtain⟨v,w',y,t,-⟩:=XN par Fc (ty:=23) (s:=.const (F U 0 0)) (u:=.tmp 21) (ρ:=bP [(21,0)] _ V) (w:=W) aZ rfl amc;exact⟨v,w',y,t⟩
  ·refine⟨_,_,rfl,rfl,rfl,λV W kW hp=>?_⟩;simp only[dE,bU,bZ,dA,dB,bM]at hp;obtain⟨v,w',y,t,-⟩:=XN bj Fc (ty:=23) (s:=.const (F U 0 0)) (u:=.tmp 23) (ρ:=bP [(23,2)] _ V) (w:=W) aZ rfl amd;exact⟨v,w',y,t⟩
  ·exact Y2
  ·refine⟨_,_,rfl,rfl,rfl,λV W kW hp=>⟨F (I ⟨Z (D W),0,U⟩) (Q bj) (Q bj),W.alloc (aq (madeCells #[G J 0] (Q bj)) 3),?_,λb hb=>?_⟩⟩
   ·simp only[dE,bU,bZ,dA,dB,bM]at hp;simp[bP,aC,hp,aL,bR,mk1,go_sem]
   ·injection hb with hb;subst hb;simp
  ·refine⟨_,_,rfl,rfl,rfl,λV W kW hp=>⟨F (I ⟨Z (D W),0,U⟩) (Q bj) (Q bj),W.alloc (aq (madeCells #[F U 0 0] (Q bj)) 78),?_,λb hb=>?_⟩⟩
   ·simp only[dE,bU,bZ,dA,dB,bM]at hp;simp[bP,aC,hp,aL,bR,mk2,go_sem]
   ·injection hb with hb;subst hb;simp
 simp only[bU,bZ,dx,bM,Nat.reduceAdd]at hA
 obtain⟨e0,ia,e2,dH,⟨b4,e4,lq,DD⟩,e5,e6,⟨⟨b7,e7⟩,jh⟩,e8,e9,⟨⟨b10,iV⟩,pX⟩,-⟩:=hA
 obtain⟨A5,c5,e1⟩:=ia.slice
 obtain⟨A6,c6,e3⟩:=dH.slice
 rw[e1]at ia
 rw[e3]at dH
 rw[e7]at jh
 rw[iV]at pX
 have hap:∀b,I b7=I b->aW (F A5 (Q par) c5)≠I b/\aW (F A6 (Q bj) c6)≠I b:=λb hb=>by
  injection hb with hb;subst hb;constructor
  ·intro e;exact hne 7 bq 1 bq bC rfl rfl b7 Y4 (by rw[e1];exact e)
  ·intro e;exact hne 7 bq 3 bq bC rfl rfl b7 Y4 (by rw[e3];exact e)
 apply bJ.pure
 rfl
 simp[bP,aC,cK,e1,e3,e4,e7,iV,aL,bR,go_sem]
 rfl
 refine bJ.val (aj (I ⟨Z (D W),0,U⟩)) (aU W (aq #[F A5 (Q par) c5,F A6 (Q bj) c6,aj U,F U 0 0,.map (I b4),F (I ⟨b7,0,U⟩) (Q bj) (Q bj),F (I ⟨b10,0,U⟩) (Q bj) (Q bj)] 105)) rfl ajW ?_
 apply bJ.pure
 rfl
 simp[bP,aC,cK,aL,bR,go_sem]
 rfl
 refine bJ.nil ?_
 simp only[iu,Act.put,ue,tC,tB,Nat.reduceAdd,cK,e0,e1,e2,e3,e4,e5,e6,e7,e8,e9,iV]
 have hbk:=bn.new W 105 #[F A5 (Q par) c5,F A6 (Q bj) c6,aj U,F U 0 0,.map (I b4),F (I ⟨b7,0,U⟩) (Q bj) (Q bj),F (I ⟨b10,0,U⟩) (Q bj) (Q bj)]
 have ka:=hbk.cC
 generalize hWa:W.alloc _=Wa at *
 generalize L:Z (D W)=gw at *
 generalize hvp:F A5 (Q par) c5=vp at *
 generalize hvh:F A6 (Q bj) c6=vh at *
 generalize oQ:F (I ⟨b7,0,U⟩) (Q bj) (Q bj)=vc at *
 generalize zL:F (I ⟨b10,0,U⟩) (Q bj) (Q bj)=vg at *
 have hz1:=Mp.size
 have:=kW.size
 have HN:Hid (Gq w par bj room gw b4 vp vh vc vg [] (F U 0 0) Wa):=aY ⟨hbk,DD.st ka,((ahH ia).st ka).low hz1,((ahH dH).st ka).low hz1,(jh.st ka).low hz1,(pX.st ka).low hz1,bK.nil _ _ _ _ _,by rw[<- oQ];exact hap,λi hi=>Nl,List.nodup_nil,⟨aZ,aZ⟩,(Mp.tr kW).tr ka⟩
 go_wp2_with fail
 go_loopw [36] (fun i W=>∃j:Nat,j<=Q par/\i=G J j/\Hid (∃ds vd,Gq w par bj room gw b4 vp vh vc vg ds vd W/\Q ds=j)) (fun i _=>Q par-(aO i).toNat)
 case atStart=>exact⟨0,eO _,rfl,aY ⟨_,_,HN.aX,rfl⟩⟩
 case round =>
  obtain⟨j,hj,rfl,HJ⟩:=hrel;by_cases hlt:j<Q par
  ·have cd:(j:Int)<Q par:=aZ;obtain⟨ds,vd,Y,JH⟩:=HJ.aX;have HD:=aY JH;have HN:=aY Y;go_wp2_with fail
   apply bN (ajB room wr cZ);rintro w2⟨hDk,k2⟩;have q:=(HN.aX.blk.bF k2).cell;have HDk:=aY hDk;generalize hgd:Z (D wr)=gd at *;have kA:=K.new w2 (aq #[aj (I ⟨gd,0,U⟩)] 106);have B:=(HN.aX.d.st k2).st kA;have kW:=(HN.aX.k.tr k2).tr kA;have hz2:=kW.size;have hrw:=fL.new (S:=AE) (e:=106) (N:=λk=>True∨aW vd=I k) (v:=aj (I ⟨gd,0,U⟩)) (x:=aj (I ⟨gd,0,U⟩)) (w:=w2) (λW u=>⟨rfl,rfl⟩) 0 (eO _);have HG:=aY (aB hgd (k2.tr kA));have JH:Q (ds.map λg=>aj (I ⟨g,0,U⟩))<16:=by rw[List.length_map,HD.aX];omega
   go_wp2_with (at_builtin;refine kI rfl _ _ 103 rfl _ 1 8 TDk rfl rfl B _ rfl (aj (I ⟨gd,0,U⟩)) ?p1 ?p2 ?p3 ?_)
   case p1=>exact hrw
   case p2=>omega
   case p3=>exact hz2
   intro v9 w9 cR dF fO cN;obtain⟨aoE,hN9⟩:bn w9 gw 105 #[vp,vh,aj U,vd,.map (I b4),vc,vg]/\Gq w par bj room gw b4 vp vh vc vg (ds++[gd]) v9 (aV w9 ⟨gw,3,U⟩ v9):=by obtain⟨rfl,kg⟩:=HG.aX;exact HN.aX.push kg (HDk.aX.st ((K.rf w2).al _)) cR dF
   have HN9:=aY (aB hN9 (show Q (ds++[gd])=j+1 by rw[eU,HD.aX];rfl));obtain⟨A9,n9,c9,e9⟩:∃A n c,v9=F A n c:=by obtain⟨A,c,e⟩:=cR.slice;exact⟨_,_,_,e⟩
   subst e9;have q:=aoE.cell;have z:=aoE.frozen;go_wp2;go_roundw
   case rel=>exact⟨j+1,aZ,cU,aY ⟨_,_,HN9.aX.1,HN9.aX.2⟩⟩
   case measure=>simp[aO];omega
  ·have cd:¬(j:Int)<Q par:=aZ;have he:j=Q par:=aZ;obtain⟨ds,vd,Y,JH⟩:=HJ.aX;obtain⟨own,ho⟩:=Y.ov (JH.trans he);have HO:=aY (aB ho Y.k);go_wp2_with fail
   go_loopw [59] (fun i W=>∃j:Nat,j<=Q par/\i=G J j/\Hid (∃H own,cM H own (pD par bj room j) W Bi/\H.gw=gw/\(∀k,k<Z (D w)->own k=0)/\(∀k,own k≠3)/\K w W/\(j=0∨mD par bj room=0))) (fun i _=>Q par-(aO i).toNat)
   case atStart=>exact⟨0,eO _,rfl,aY ⟨_,_,HO.aX.1.1,rfl,HO.aX.1.2.1,HO.aX.1.2.2,HO.aX.2,aI rfl⟩⟩
   case round =>
    obtain⟨j,hj,rfl,HJ⟩:=hrel;by_cases hlt:j<Q par
    ·have cd:(j:Int)<Q par:=aZ;obtain⟨H,own,B,L,tT,iB,R,hz⟩:=HJ.aX;obtain⟨O,cZ⟩:=HS.aX;have C:=aeF B aag (λn=>aag) O (by simp[pD]) nE (aaf hlt) (jl.new cZ) bC;rw[ayi O hlt cZ,L]at C;have HC:=aY C;have HX:=aY (aB tT (aB iB R));have HZ:Hid (mD par bj room=mD par bj room):=aY rfl;generalize hx:mD par bj room=nx at HC HZ;have rI:=aY hx;go_wp2_with fail
     refine HC.aX.mono ?_;rintro e w3⟨rfl,H',cW,y,t,h3,h4,h5⟩;have HK:Hid (K w w3):=aY (h3.k HX.aX.2.2 λk hk=>by
      obtain⟨a,b,c⟩:=HX.aX;by_cases h9:k<Z (D w)
      ·have:=a k h9;omega
      ·omega)
     by_cases hc:nx=0
     ·subst hc;have HE:=aY (show ∃H own,cM H own (pD par bj room (j+1)) w3 Bi/\H.gw=gw/\(∀k,k<Z (D w)->own k=0)/\(∀k,own k≠3)/\K w w3/\(j+1=0∨mD par bj room=0)from ⟨H',cW,by rw[bT rfl]at y;exact y,t,λk hk=>by
       obtain⟨a,b,c⟩:=HX.aX;have:=c.size;rw[h4 k aZ];exact a k hk,λk hk=>HX.aX.2.1 k (h5 k hk),HK.aX,aJ rI.aX⟩)
      go_wp2;go_roundw
      case rel=>exact⟨j+1,aZ,cU,aY aBJ⟩
      case measure=>simp[aO];omega
     ·have hcz:(nx==0)=false:=Ev;have HF:=aY (yI.aX _ w3 ⟨nx,hcz,rI.aX,rfl,HK.aX⟩);go_wp2;exact HF.aX
    ·have cd:¬(j:Int)<Q par:=aZ;have he:j=Q par:=aZ;obtain⟨H,own,B,L,tT,iB,R,hz⟩:=HJ.aX;have HZ:=aY (hz.resolve_left (by have:=(ud HS.aX.1).1;omega));rw[he]at B;have C:=aww par (F A1 (Q par) c1) wr (cH H1.aX R) HS.aX.1;have hb:=(B.gW (show Bi 2 by unfold Bi;omega)).blk;rw[L]at hb;have HC:=aY C;have HX:=aY (aB B (aB L (aB tT (aB iB R))));have HB:=aY hb;have HEQ:=aY (aAi par bj room);go_wp2_with fail
     apply dD HC.aX;rintro x w4⟨⟨gn,rfl,C,Y,hC⟩,k4⟩;have hb4:=HB.aX.bF k4;have q:=hb4.cell;have z:=hb4.frozen;have HF:Hid (∃H own,H.gw=gw/\cM H own (lZ par bj room) (aV w4 ⟨gw,2,U⟩ (aj (I ⟨gn,0,U⟩))) eB/\(∀k,k<Z (D w)->own k=0)/\K w (aV w4 ⟨gw,2,U⟩ (aj (I ⟨gn,0,U⟩)))):=aY (by
      obtain⟨B,L,tT,iB,R⟩:=HX.aX;obtain⟨cW,y,t⟩:=B.aDz iB k4 Y hC;have hz:=R.size;refine⟨_,cW,?_,by rw[<- HEQ.aX,<- L];exact y,λk hk=>(t k aZ).trans (tT k hk),(bf.dc (X:=λk=>k=gw) rfl 2 _).k (R.tr k4) λk e=>?_⟩
      ·exact L
      ·by_cases h9:k<Z (D w)
       ·have nD:=tT k h9;have yr:=(B.gW (show Bi 2 by unfold Bi;omega)).own.1;rw[L,<- e]at yr;omega
       ·omega)
     go_wp2;obtain⟨H,own,e1,e2,e3,e4⟩:=HF.aX;exact yH.aX _ _ H own ⟨HZ.aX,by rw[e1];rfl,e2,e3,e4⟩
theorem asY es v w(h:bw dS es v w)(L:Q es<=1000000)(y:∀e∈es,Q e<=1000000) :
 aK prog 70 #[v] w λe w'=>∃v',e=ak v'/\cE (Z (D w)) (Z (D w)) 35 dS es v' w'/\K w w':=by
 obtain⟨R,d,rfl,z,O⟩:=h
 have H:=aY y
 have C:=K.rf w
 go_in
 go_wp2_with fail
 go_loopw [3,5,8] (fun o _ i W=>∃j:Nat,j<=Q es/\i=G J j/\cE (Z (D w)) (Z (D w)) 35 dS (es.take j) o W/\K w W) (fun _ _ i _=>Q es-(aO i).toNat)
 case atStart=>exact⟨0,aZ,rfl,H8,C⟩
 case round =>
  obtain⟨j,T,rfl,hO,kr⟩:=hrel;by_cases hlt:j<Q es
  ·have A:(j:Int)<Q es:=aZ;obtain⟨B,t,cs,rfl,M,hcl,⟨ve,rfl,mE⟩,hcell⟩:=KB z j hlt bC;have S:wr.cell? ⟨B,t+j,U⟩=I ve:=Yz;have HT:Hid (es.take (j+1)=es.take j++[es[j]]):=aY NJ;have N:=H.aX _ (dG hlt);exact aks
  ·have A:¬(j:Int)<Q es:=aZ;exact aka
section
variable {S:Nat->Prop} {W W2:aP} {H:nf} {own:Nat->Nat} {O:cP} {par bj:List Int} {k:Nat}
theorem cM.aoF(h:cM H own O W S)(y:S 2)(hs:pY O){m}(hm:m<Q O.bj):∃b j c,H.vc=F (I ⟨b,j,U⟩) (Q O.cur) c/\∀W',K W W'->W'.cell? ⟨b,j+m,U⟩=I (G J ((O.cur[m]?).getD 0)):=by
 obtain⟨A,c,e,t,-⟩:=(NG (M:=λ_=>False) (h.gW y).cur λ_ _=>id).now
 have:m<Q O.cur:=aah
 obtain⟨b,j,rfl,z⟩:=ints_at t aZ
 grind
theorem af4{c}(j:mO O c=aA):∃m:Nat,c=(m:Int)/\m<Q O.bj:=by
 unfold mO at j
 simp only[fB,decide_eq_true_eq]at j
 obtain⟨m,rfl⟩:=Int.eq_ofNat_of_zero_le j.1
 grind
def ED(O:cP)(c:Int):Int:=if mO O c then (O.cur[c.toNat]?).getD 0 else 0
theorem aso(h:cM H own O W S)(j:S 2)(hs:pY O) c :
 aK prog 31 #[aj (I ⟨H.gw,0,U⟩),G J c] W λe w'=>e=ak (G J (ED O c))/\w'=W:=by
 have C1:=aY (aet h j c)
 have q:=(h.gW j).blk.cell
 have HR:Hid (ED O c=if mO O c then (O.cur[c.toNat]?).getD 0 else 0):=aY rfl
 generalize ED O c=R at *
 cases hc:mO O c
 ·rw[hc]at C1 HR;exact ame
 ·rw[hc]at C1 HR;obtain⟨m,rfl,hm⟩:=af4 hc;obtain⟨b,y,cc,e,t⟩:=h.aoF j hs hm;have:=t W (K.rf W);have:(m:Int)<Q O.cur:=aah;rw[e]at q;simp only[if_true,Int.toNat_natCast]at HR;generalize (O.cur[m]?).getD 0=x at *;exact ame
end
section
variable {S:Nat->Prop} {W W1:aP} {H:nf} {own:Nat->Nat} {O:cP}
theorem bK.abE{α T Y base e}{l:List α}{v}(h:bK Y base e T l v W)(y:0<Q l):∃b cap,v=F (I ⟨b,0,U⟩) (Q l) cap:=by
 obtain⟨css,j,-⟩:=h;rcases j.2 with ⟨-,t⟩|⟨g,cap,cur,e,-⟩
 ·omega
 ·exact⟨g,cap,e⟩
theorem cM.aoG(h:cM H own O W S)(M:S 2){m}(hm:m<Q O.cur) x :
 ∃b cap cur,H.vc=F (I ⟨b,0,U⟩) (Q O.cur) cap/\own b=2/\bn W b 3 cur/\cM H own { O with cur:=O.cur.set m x } (aV W ⟨b,m,U⟩ (G J x)) S:=by
 obtain⟨B,A,a3,z,C,⟨T,b2,L,Y⟩,R,a8⟩:=h.gW M
 obtain⟨b,cap,e⟩:=z.abE aZ
 obtain⟨_,_,cur,hb⟩:=z.own (b:=b) Ex
 have N:=L b Ex
 have u:bf (λk=>k=b) W (aV W ⟨b,m,U⟩ (G J x)):=bf.dc (X:=λk=>k=b) rfl m _
 have t:cM H own O (aV W ⟨b,m,U⟩ (G J x)) λj=>S j/\j≠2:=h.to u (λk e=>bG) (λ_ h=>h.1) (λ_ _=>rfl) λk hk e=>aac
 refine⟨b,cap,cur,e,N,hb,t.lo,t.fx,λ_=>⟨B.cA u λe=>by subst e;exact absurd (B.js hb) (by decide),A.cA u λe=>(e▸A).cells hb,a3,?_,C.to u (λ_ _=>trivial) (λk hk e=>?_) λ_ _ _=>aI trivial,⟨T,b2,L,Y⟩,R,a8⟩,λh3=>t.dR ⟨h3,aZ⟩,λn y hn=>t.brk n y ⟨hn,aZ⟩,λc l V=>t.got c l ⟨V,aZ⟩⟩
 ·rw[e]at z⊢;have:=z.abz hm (y:=x) (cs:=[G J x]) rfl (λ_ _=>rfl);simpa [dL,show eu.size=1 from rfl]using this
 ·obtain⟨_,_,TW,hb2⟩:=C.own hk;subst e;exact EC
theorem cM.aEU(h:cM H own O W S)(h2:S 2){c}(hS:S (2*c+5)){l}(hl:O.got[c]?=I l){v v'}(hv:H.vs[c]?=I v){x}
 (V:bf (λk=>aW v=I k) W W1) (hO:bK (λk=>own k≠0) 0 43 (aaT dS) (l++[x]) v' W1) (hat:∀b,aW v'=I b->aW v=I b∨Z (D W)<=b) :
 ∃b cap cur,H.vg=F (I ⟨b,0,U⟩) (Q O.got) cap/\own b=2/\bn W1 b 78 cur/\∃z,cM { H with vs:=H.vs.set c v' } z { O with got:=O.got.set c (l++[x]) } (aV W1 ⟨b,c,U⟩ v') S/\∀k,k<Z (D W)->z k=own k:=by
 obtain⟨Y,a2,a3,a4,M,⟨b1,b2,b3,b4⟩,a7,a8⟩:=h.gW h2
 have hcl:=(aF.1 hl).1
 obtain⟨v0,N,jK,L⟩:=h.got c l hS hl
 rw[hv]at N
 injection N with N
 subst N
 obtain⟨b,cap,e⟩:=M.abE (W:=W) aZ
 rw[a7]at e
 obtain⟨_,dt,cur,hb⟩:=M.own (b:=b) Ex
 have ob:=b4 b Ex
 have cD:=hb.cA V λe1=>bG
 have u2:bf (λk=>k=b) W1 (aV W1 ⟨b,c,U⟩ v'):=bf.dc (X:=λk=>k=b) rfl c _
 have hz2:=u2.size
 have u:bf (λk=>aW v=I k∨k=b) W (aV W1 ⟨b,c,U⟩ v'):=(V.more λk e=>aI e).tr (u2.more λk e=>aJ e)
 have hX:∀k,aW v=I k∨k=b->own k=2*c+5∨own k=2:=λk hk=>hk.imp (L k) λe=>bG
 obtain⟨z,ru⟩:∃z:Nat->Nat,z=λk=>if Z (D W)<=k then (if aW v'=I k then 2*c+5 else 0)else own k:=⟨_,rfl⟩
 have B:∀k,k<Z (D W)->z k=own k:=λk hk=>bG
 have kO:∀k,Z (D W)<=k->z k≠0->aW v'=I k/\z k=2*c+5:=λk hk hn=>by
  grind
 have aJg:∀k,Z (D W)<=k->aW v'=I k->z k=2*c+5:=λk hk t=>by
  grind
 have C:cM H z O (aV W1 ⟨b,c,U⟩ v') λj=>S j/\j≠2/\j≠2*c+5:=h.to u (λk hk=>by have:=hX k hk;constructor <;> omega) (λ_ h=>h.1) B λk hk hn=>by obtain⟨T,g2⟩:=kO k hk hn;have:=(hO.blk k T).2;exact⟨aZ,aZ⟩
 have aEV:∀k,aW v'=I k->k≠b:=λk hk t=>by
  grind
 have aEW:∀k,aW v'=I k->z k=2*c+5:=λk hk=>by
  grind
 refine⟨b,cap,cur,e,ob,cD,z,⟨C.lo,C.fx,λ_=>⟨Y.cA u λt=>?_,a2.cA u λt=>?_,a3,a4.to u (λ_ _=>trivial) (λk hk t=>?_) λ_ _ _=>aI trivial,?_,⟨(B _ Y.lt).trans b1,(B _ a2.lt).trans b2,λk hk=>(B k (a4.blk k hk).2).trans (b3 k hk),λk hk=>(B k (M.blk k hk).2).trans (b4 k hk)⟩,bG,a8⟩,λh3=>C.dR ⟨h3,aZ,aZ⟩,λn y hn=>C.brk n y ⟨hn,aZ,aZ⟩,λc2 l2 hc R=>?_⟩,B⟩
 ·rcases t with t|t
  ·grind
  ·subst t;exact absurd (Y.js hb) bC
 ·rcases t with t|t
  ·have:=L _ t;omega
  ·exact (t▸a2).cells hb
 ·rcases t with t|t
  ·have:=L _ t;have:=b3 k hk;omega
  ·obtain⟨_,_,TW,hb2⟩:=a4.own hk;subst t;exact EC
 ·have a6:=M.to V (λ_ _=>trivial) (λk hk t=>by have:=L _ t;have:=b4 k hk;omega) (Y':=λ_=>True) λ_ _ _=>aI trivial
  have e6:=e;rw[<- a7]at e6;rw[e6]at a6;show bK _ 0 _ AE (H.vs.set c v') H.vg _;rw[e6];obtain⟨A,cc,rfl⟩:=hO.slice;have:=a6.abz (j:=c) aZ (y:=F A (Q (l++[x])) cc) (cs:=[F A (Q (l++[x])) cc]) rfl (λ_ _=>⟨rfl,rfl⟩);simpa [dL,show AE.size=1 from rfl]using this
 ·by_cases zy:c=c2
  ·subst zy;simp only[List.getElem?_set_self hcl,Option.some.injEq]at R;subst R;exact⟨v',by rw[List.getElem?_set_self (by omega)],hO.to u2 (λk t=>by subst t;omega) aEV λk hk hn=>by
    by_cases h9:k<Z (D W)
    ·exact aI (B k h9▸hn)
    ·exact aJ (kO k aZ hn).1,aEW⟩
  ·rw[List.getElem?_set_ne zy]at R;obtain⟨v2,T,g2⟩:=C.got c2 l2 ⟨hc,aZ,aZ⟩ R;exact⟨v2,by rw[List.getElem?_set_ne zy];exact T,g2⟩
end
section
variable {W W2:aP} {H:nf} {own:Nat->Nat} {O:cP}
theorem cM.abF(h:cM H own O W eB)(A:pY O) c :
 (∃d:Int,(d != 0)=aA/\nW H O c=(aj U,d)/\(∀ {α:Type} (z:α) f,tF O c z f=(O,z,d))/\(mO O c&&(eF O (oH O c)).isSome)=az) ∨
 ∃n B gd g,n<Q O.gq/\H.ds[n]?=I gd/\eA H.bu (n:Int)=I (aj (I ⟨g,0,U⟩))/\eF O (n:Int)=I B/\nW H O c=(aj (I ⟨g,0,U⟩),0)/\oH O c=(n:Int)/\mO O c=aA /\
  (∀j,K W j->eS (λk=>own k≠0/\own k≠2*n+4) (λk=>own k≠2*n+4/\k<Z (D j)) g gd B j)/\∀ {α:Type} (z:α) f,tF O c z f=(rZ O n (f B).1,(f B).2):=by
 unfold nW tF
 cases mO O c
 ·exact aI ⟨1,rfl,rfl,λ_ _=>rfl,rfl⟩
 ·simp only[if_true];cases hu:eF O (oH O c)with
  | none=>exact aI ⟨210,rfl,rfl,λ_ _=>rfl,rfl⟩
  | some B =>
   have t:=hu;unfold eF mq iJ at t;split at t
   ·next hi =>
    simp only[fB,decide_eq_true_eq]at hi;obtain⟨n,hn⟩:=Int.eq_ofNat_of_zero_le hi.1;rw[hn]at hu⊢;obtain⟨gd,g,L,y,-⟩:=h.up (pB n) A.ln hu;rw[y];refine aJ ⟨n,B,gd,g,bG,L,y,hu,rfl,rfl,trivial,λj C=>?_,λ_ _=>rfl⟩;obtain⟨N,S,M,R,T⟩:=(h.st C).up (pB n) A.ln hu;grind
   ·cases t
theorem cM.via{α fb}{args:aQ->Array aQ}{ret:α×Int->aQ}(h:cM H own O W eB)(T:pY O) c z f
 (V:∀m B,eF O m=I B->∀X y g gd j,K W j->eS X y g gd B j->aK prog fb (args (aj (I ⟨g,0,U⟩))) j λe w'=>e=ak (ret (f B).2)/\eS X y g gd (f B).1 w'/\bf (λk=>¬y k) j w') :
 (∃d:Int,(d != 0)=aA/\nW H O c=(aj U,d)/\tF O c z f=(O,z,d)/\(mO O c&&(eF O (oH O c)).isSome)=az) ∨
 ∃g A r,nW H O c=(aj (I ⟨g,0,U⟩),0)/\tF O c z f=(A,r)/\(mO O c&&(eF O (oH O c)).isSome)=aA/\∀j,K W j->aK prog fb (args (aj (I ⟨g,0,U⟩))) j λe w'=>e=ak (ret r)/\ew H own A W w':=by
 rcases h.abF T c with ⟨d,L,C,M,N⟩|⟨n,B,gd,g,L,C,M,N,S,h6,h7,h8,h9⟩
 ·grind
 ·exact aJ ⟨g,_,_,S,h9 z f,bG,λj t=>(V _ _ N _ _ _ _ j t (h8 j t)).mono λe w' ⟨R,nD,yr⟩=>⟨R,ew.k t ((h.st t).aoD L C M nD yr)⟩⟩
theorem ew.keep{y t cs W1 j}(h:ew H (kP own 1 W W1) y W1 W2)(hg:Z (D W)<=j)(hb:bn W1 j t cs):bn W2 j t cs:=by obtain⟨_,_,_,_,u,_⟩:=h;exact hb.cA u λe=>by grind [kP]
theorem ew.id3{j z}(h:ew H (kP own 1 W (aU W (aq z 42))) j (aU W (aq z 42)) W2) x y u(hz:z.size=3) :
 ew H own j W (((aV W2 ⟨Z (D W),0,U⟩ x).setCell ⟨Z (D W),1,U⟩ y).setCell ⟨Z (D W),2,U⟩ u)/\∀i,(((aV W2 ⟨Z (D W),0,U⟩ x).setCell ⟨Z (D W),1,U⟩ y).setCell ⟨Z (D W),2,U⟩ u).cell? ⟨Z (D W),i,U⟩=#[x,y,u][i]?:=by
 have hb:=bn.new W 42 z
 refine⟨h.D3 hb.cC (bL _) hb.lt (bf.sets (X:=λk=>k=Z (D W)) rfl [x,y,u] 0 W2),?_⟩
 have:=(((h.keep (bL _) hb).cz 0 x).cz 1 y).cz 2 u
 obtain⟨l⟩:=z
 match l,hz with
 | [a,b,c],_=>exact this.cell
theorem asZ(h:cM H own O W eB)(hs:pY O) c(hc:cV c)(hn:∀n B,eF O n=I B->B.calls+1<4611686018427387904) :
 aK prog 58 #[aj (I ⟨H.gw,0,U⟩),G J c] W λe w'=>e=ak (au #[di (ph O c).2.1,G J (ph O c).2.2])/\ew H own (ph O c).1 W w':=by
 have fS:=bn.new W 42 #[G J 0,G E 0,G E 0]
 have T:=h.D3 fS.cC
 have z:=aY (ME T p2 pB hs c)
 have L:=aY λ(N:cP) (S:aP) (hN:ew H _ N _ S)=>aB (hN.keep (bL _) fS) (@ew.id3 W S H own N _ hN)
 have HV:=T.via (ret:=λr=>au #[di r.1,G J r.2]) (args:=λv=>#[v,G J c]) hs c (0,0,0) (λB=>y5 B c) λn B hu X aS g gd S j hL=>aCP hL c hc (hn n B hu)
 have HB:Hid (ph O c=tF O c (0,0,0) λB=>y5 B c):=aY rfl
 generalize ph O c=R at *
 rcases HV with ⟨d,hne,V,M,-⟩|⟨g,N,r,V,M,-,C2⟩
 ·have HR:Hid (R=(O,(0,0,0),d)):=aY (HB.aX.trans M);have HK:=aY λt (j:K _ t)=>L.aX _ _ (T.now j)
  rw[V]at z;go_in;go_wp2_with fail
  apply bN z.aX;intro t j;have y:=(HK.aX t j).1;have C:=aY ((HK.aX t j).2 (G J 0) (G E 0) (G E 0) rfl);have qr:=y.cell;have zr:=y.frozen;go_wp2;obtain⟨hF,e9⟩:=C.aX;refine aM (v:=au #[di (0,0,0),G J d]) amf rfl ?_;exact Kz
 ·obtain⟨A,ec⟩:=r;have HR:=aY (HB.aX.trans M);have Fz:=aY C2;rw[V]at z;go_in;go_wp2_with fail
  apply bN z.aX;intro t j;have C3:=aY (Fz.aX t j);go_wp2_with fail
  apply bN C3.aX;intro w3 Y;have y:=(L.aX _ _ Y).1;have C:=aY ((L.aX _ _ Y).2 (G J A.1) (G E A.2.1) (G E A.2.2) rfl);have qr:=y.cell;have zr:=y.frozen;go_wp2;obtain⟨hF,e9⟩:=C.aX;refine aM (v:=au #[di A,G J ec]) amf rfl ?_;exact Kz
theorem au6(h:cM H own O W eB)(hs:pY O) c(hc:cV c)(n:Nat)(hn':n<18446744073709551616) f vf(hf:fQ f vf W)(hfit:∀t∈f,jF t)(dM:Q f<=1000000)(hn:∀n B,eF O n=I B->B.calls+1<4611686018427387904) :
 aK prog 23 #[aj (I ⟨H.gw,0,U⟩),G J c,G E n,vf] W λe w'=>e=ak (au #[di (qY O c n f).2.1,G J (qY O c n f).2.2])/\ew H own (qY O c n f).1 W w':=by
 have fS:=bn.new W 42 #[G J 0,G E 0,G E 0]
 have V:=h.D3 fS.cC
 have A:=aY (ME V p2 pB hs c)
 have M:=aY λ(S:cP) (T:aP) (hN:ew H _ S _ T)=>aB (hN.keep (bL _) fS) (@ew.id3 W T H own S _ hN)
 have HV:=V.via (ret:=λr=>au #[di r.1,G J r.2]) (args:=λv=>#[v,G J c,G E n,vf]) hs c (0,0,0) (λB=>Bt B c n f) λm B hu X aS g gd T j hL=>aER hL c hc (hn m B hu) n hn' f vf (fJ f vf _ _ hf ((K.new W (aq #[G J 0,G E 0,G E 0] 42)).tr j)) hfit dM
 have HB:Hid (qY O c n f=tF O c (0,0,0) λB=>Bt B c n f):=aY rfl
 generalize qY O c n f=R at *
 rcases HV with ⟨d,hne,Y,N,-⟩|⟨g,S,r,Y,N,-,C2⟩
 ·have HR:Hid (R=(O,(0,0,0),d)):=aY (HB.aX.trans N);have HK:=aY λy (j:K _ y)=>M.aX _ _ (V.now j)
  rw[Y]at A;go_in;go_wp2_with fail
  apply bN A.aX;intro y j;have z:=(HK.aX y j).1;have L:=aY ((HK.aX y j).2 (G J 0) (G E 0) (G E 0) rfl);have qr:=z.cell;have zr:=z.frozen;go_wp2;obtain⟨hF,e9⟩:=L.aX;refine aM (v:=au #[di (0,0,0),G J d]) amg rfl ?_;exact Kz
 ·obtain⟨C,ec⟩:=r;have HR:=aY (HB.aX.trans N);have Fz:=aY C2;rw[Y]at A;go_in;go_wp2_with fail
  apply bN A.aX;intro y j;have C3:=aY (Fz.aX y j);go_wp2_with fail
  apply bN C3.aX;intro w3 xE;have z:=(M.aX _ _ xE).1;have L:=aY ((M.aX _ _ xE).2 (G J C.1) (G E C.2.1) (G E C.2.2) rfl);have qr:=z.cell;have zr:=z.frozen;go_wp2;obtain⟨hF,e9⟩:=L.aX;refine aM (v:=au #[di C,G J ec]) amg rfl ?_;exact Kz
theorem as0(h:cM H own O W eB)(hs:pY O) c(hc:cV c)(n:Nat)(hn':n<18446744073709551616)(hn:∀n B,eF O n=I B->B.calls+1<4611686018427387904) :
 aK prog 59 #[aj (I ⟨H.gw,0,U⟩),G J c,G E n] W λe w'=>e=ak (au #[di (qL O c n).2.1,G J (qL O c n).2.2])/\ew H own (qL O c n).1 W w':=by
 have fS:=bn.new W 42 #[G J 0,G E 0,G E 0]
 have T:=h.D3 fS.cC
 have z:=aY (ME T p2 pB hs c)
 have L:=aY λ(N:cP) (S:aP) (hN:ew H _ N _ S)=>aB (hN.keep (bL _) fS) (@ew.id3 W S H own N _ hN)
 have HV:=T.via (ret:=λr=>au #[di r.1,G J r.2]) (args:=λv=>#[v,G J c,G E n]) hs c (0,0,0) (λB=>Bb B c n) λm B hu X aS g gd S j hL=>aCQ hL c hc (hn m B hu) n hn'
 have HB:Hid (qL O c n=tF O c (0,0,0) λB=>Bb B c n):=aY rfl
 generalize qL O c n=R at *
 rcases HV with ⟨d,hne,V,M,-⟩|⟨g,N,r,V,M,-,C2⟩
 ·have HR:Hid (R=(O,(0,0,0),d)):=aY (HB.aX.trans M);have HK:=aY λt (j:K _ t)=>L.aX _ _ (T.now j)
  rw[V]at z;go_in;go_wp2_with fail
  apply bN z.aX;intro t j;have y:=(HK.aX t j).1;have C:=aY ((HK.aX t j).2 (G J 0) (G E 0) (G E 0) rfl);have qr:=y.cell;have zr:=y.frozen;go_wp2;obtain⟨hF,e9⟩:=C.aX;refine aM (v:=au #[di (0,0,0),G J d]) amh rfl ?_;exact Kz
 ·obtain⟨A,ec⟩:=r;have HR:=aY (HB.aX.trans M);have Fz:=aY C2;rw[V]at z;go_in;go_wp2_with fail
  apply bN z.aX;intro t j;have C3:=aY (Fz.aX t j);go_wp2_with fail
  apply bN C3.aX;intro w3 Y;have y:=(L.aX _ _ Y).1;have C:=aY ((L.aX _ _ Y).2 (G J A.1) (G E A.2.1) (G E A.2.2) rfl);have qr:=y.cell;have zr:=y.frozen;go_wp2;obtain⟨hF,e9⟩:=C.aX;refine aM (v:=au #[di A,G J ec]) amh rfl ?_;exact Kz
end
