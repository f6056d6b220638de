/-
  The walk of broker's last (layer 20). Conditions: none.
-/
import Derived.Test.YtcjlnlcpodcldaaGreatMs03
import Derived.Test.YtcjlnlcpodcldaaGreatMsz
set_option maxRecDepth 100000
set_option maxHeartbeats 16000000
set_option linter.all false
namespace Go.Proofs.YtcjlnlcpodcldaaGreat
open Go Go.RowKit _root_.Go.Proofs.Tryz
open List renaming length→Q
open _root_.Array renaming size→Z
open Go.World renaming heap→D,alloc→aU,setCell→aV
open Go.Value renaming ownBlock→aW
open Go.Value renaming int→G,slice→F,pointer→aj,bool→ar,tuple→au,agg→av,string→aw
open Go.IntKind renaming i64→J,u64→E
open Option renaming none→U,some→I
open Go.Ending renaming returned→ak
open Go.Obj renaming cells→aq
open Go.World renaming setCell→ax,alloc→ay
open Bool renaming false→az,true→aA
open And renaming intro→aB
open List renaming lookup→aC,getElem?_eq_getElem→aE,getElem?_eq_some_iff→aF
open _root_.Array renaming getElem?_toList→aD,getElem?_eq_some_iff→aG
open Nat renaming le_succ→aH
open Or renaming inl→aI,inr→aJ
open Go renaming Calls→aK,execOp→aL,bodyPost_ret→aM,World→aP,Value→aQ
open Go.RowKit renaming Below→aN,intOf→aO
theorem J6 p n:Q (Iq p n)<=Q p:=by
 grind [Iq,um]
theorem aBp{m v W}(h:nG m v W):Aj.rel m v.cells.toList W:=by obtain⟨t,A,y,z,B,j,rfl,h⟩:=h;exact⟨t,A,y,z,B,j,rfl,h⟩
theorem WS{M p B w}(h:cS M p B w)(O:cX B) :
 aK prog 163 #[aj (I ⟨p.g,0,U⟩)] w λe w'=>∃v',e=ak v'/\Fx M (λW=>bw Aj (fg B) v' W) w'/\K w w':=by
 have H:=aY h
 have C1:=aY (WN h O)
 have:Q (rR B)<=16:=cI (J6 _ _) (ud O.tr).2
 have HM:=aY h.low
 have q:=h.q
 have Q1:=aY λW (k:K w W) x=>(Ej (Dn (P:=prog) (kt:=3) underlying3) underlying159 (anh W) (h.rep.st k) x).2
 have HL:Hid (fg B=(rR B).map (jZ B)):=aY rfl
 generalize rR B=t at *
 generalize fg B=R at *
 obtain⟨g,gl,gd,gr,gt,vd,vr,vp,vh,vl,vq,va,vt,vf,vw,kr⟩:=p
 simp only at q Q1
 clear h O
 go_in
 go_wp2_with fail
 apply dD C1.aX
 rintro v1 A⟨ia,k1⟩
 obtain⟨A1,c1,e1,ll,-⟩:=ia.bw
 subst e1
 have LA:=aY ll
 clear ia ll C1
 have y:=bK.nil (λk=>M k) (Z (D A)) 239 Aj A
 have kk:=K.rf A
 go_wp2_with fail
 go_loopw [3,5,9] (fun o _ i W=>∃j:Nat,j<=Q t/\i=G J j/\bK (fun k=>M k) (Z (D A)) 239 Aj ((t.take j).map (jZ B)) o W/\K A W) (fun _ _ i _=>Q t-(aO i).toNat)
 case atStart=>exact⟨0,aZ,rfl,ic,kk⟩
 case round =>
  clear y kk;obtain⟨j,hj,rfl,y,z⟩:=hrel;by_cases hlt:j<Q t
  ·have cd:(j:Int)<Q t:=aZ;obtain⟨b,off,rfl,hcell⟩:=ints_at LA.aX aZ;have cj:=hcell wr z j hlt;have HT:Hid ((t.take (j+1)).map (jZ B)=(t.take j).map (jZ B)++[jZ B t[j]]):=aY YZ;generalize t[j]=x at *;have C:Fx (λk=>M k∨Z (D w)<=k) (λW=>nG (jZ B x) ((eA kr x).getD (av Fk)) W) wr:=(H.aX.df.to (X:=λ_=>False) (N:=λk=>M k∨Z (D w)<=k) (bf.bS (k1.tr z) _) (λ_ h=>h.elim) (λk hk hx=>hx.resolve_right aZ)).mono λW d=>d.dq.look x
   obtain⟨m1,L,V,T,m5,Y,em,hm⟩:=C.now;have ql:=Q1.aX wr (k1.tr z) x;rw[em]at ql C;have qg:=q wr (k1.tr z);simp only[encI]at ql;have dt:=y.blk;have hF1:=C.mono λW h=>aBp h
   have hr:=fL.new (S:=Aj) (e:=239) (v:=av (mK (jZ B x) m1 L V T m5 Y)) hF1 0 (eO _);have dH:=y.st ((K.rf wr).al (aq (mK (jZ B x) m1 L V T m5 Y) 239));have eD:=z.tr ((K.rf wr).al (aq (mK (jZ B x) m1 L V T m5 Y) 239));clear y C hF1 hm em hcell;go_wp2_with (at_builtin;refine kI rfl _ _ 243 rfl _ 8 160 TMs rfl rfl dH _ rfl (jZ B x) ?p1 ?p2 ?p3 ?_)
   case p1 =>
    refine hr.less λk hk=>?_
    rcases hk with hk|hk
    ·exact aI hk
    ·have:=(dt k hk).1;have:=k1.size;exact aJ aZ
   case p2=>simp;omega
   case p3=>exact eD.size
   intro v9 w9 cR dF _ cN;rw[<- List.map_take,<- HT.aX]at cR;have kp:=eD.trans cN;clear hr dH ql qg cj;exact Zy
  ·have cd:¬(j:Int)<Q t:=aZ;obtain rfl:j=Q t:=aZ;rw[nN]at y;have HF:Hid (Fx M (λW=>bw Aj R _ W) wr):=aY (by rw[HL.aX];exact y.fx λk hk=>cQ (HM.aX k hk) k1.size);have kF:=k1.tr z;clear y;go_wp2;go_ret;exact⟨_,rfl,HF.aX,kF⟩
def findF(t:fT)(is:Bool)(_:Nat)(xs:Array aQ)(c:aQ)(_:aP):Prop:=∃vf ve,xs=jm t vf ve/\c=ar is/\(∃A k,vf=F A (Q t.e.f) k)/\∃A k,ve=F A (Q t.e.es) k
abbrev aoj:Array aQ:=jm ya (F U 0 0) (F U 0 0)
theorem asP{M p B w}(h:cS M p B w)(hG:cX B) a :
 aK prog 51 #[aj (I ⟨p.g,0,U⟩),di a] w λe w'=>e=ak (G J (Ib B a))/\K w w':=by
 have HR:Hid (Ib B a=if dI B.st.list a then 3 else if wM B a then 4 else if (vG B.bH a).2 then (if (vG B.bH a).1.asked then 2 else 1)else 0):=aY rfl
 have H:=aY h
 have HG:=aY hG
 have hb:=bn.new w 42 #[G J a.1,G E a.2.1,G E a.2.2]
 have k1:=hb.cC
 have y:=aY λW (k:K w W)=>auq B.bH a p.vt W (h.df.at k).bH hG.tx.small akX
 have A:=aY λW (k:K w W)=>FH B.st a (av (dY B.st p.vl p.vq p.va)) W ⟨_,_,_,rfl,(h.df.at k).list,(h.df.at k).prom,(h.df.at k).ab⟩ Eu
 have hs1:=bD h.df.now.list
 have gH:=bD h.df.now.prom
 have iI:=bD h.df.now.ab
 have hs4:=bD h.df.now.bH
 have q:=h.q
 obtain⟨g,gl,gd,gr,gt,vd,vr,vp,vh,vl,vq,va,vt,vf,vw,kr⟩:=p
 simp only at q y A hs1 gH iI hs4
 obtain⟨Al,cl,rfl⟩:=hs1
 obtain⟨Ap,cp,rfl⟩:=gH
 obtain⟨Aa,ca,rfl⟩:=iI
 obtain⟨At,ct,rfl⟩:=hs4
 obtain⟨ft,oO⟩:∃ft,ft=vG B.bH a:=⟨_,rfl⟩
 obtain⟨hl,hhl⟩:∃hl,hl=dI B.st.list a:=⟨_,rfl⟩
 obtain⟨O,S⟩:∃O,O=wM B a:=⟨_,rfl⟩
 simp only[<- oO,<- hhl,<- S]at y A HR
 have HA:=aY S
 obtain⟨tx,is⟩:=ft
 clear h hG oO hhl S
 generalize Ib B a=R at *
 go_in
 go_upto_region 3 with fail
 generalize w.alloc _=w1 at *
 generalize Z (D w)=ga at hb⊢
 have X:=hb.cells
 have q1:=λW (k:K w1 W)=>q W (k1.tr k)
 have C3:=aY λW (k:K w1 W)=>y.aX W (k1.tr k)
 clear hb y q
 refine aeA 178 aoj (λi=>[aj (I ⟨g,0,U⟩),aj (I ⟨g,0,U⟩),aj (I ⟨g,8,U⟩),F At (Q B.bH) ct,di a].getD i undef) (findF tx is)
  [([],[]),([0],[(10,0)]),([1],[(11,1)]),([2],[(12,2)]),([],[]),([3,4],[(13,3),(14,4)]),([5],[(15,5)]),([6],[(9,6)]),([6],[(9,6)]),([],[]),([7,9],[(5,9),(16,7)]),([8],[(17,8)])] 94 #[F At (Q B.bH) ct,di a] 37 rfl cY cY cY rfl rfl ?gd ?pre ?call ?cc ?h6 ?h7 ?h8 ?h9 ?nD ?yr ?hk ?hlow ?_
 case gd=>simp
 case pre => intro i hi V W kW hp;have:i=0∨i=1∨i=2∨i=3∨i=4:=aZ;rcases this with rfl|rfl|rfl|rfl|rfl <;> simp at hp <;> simp[nC,bP,aC,hp,aL,bR,q1,X,kW,go_sem]
 case call=>intro V W kW h3 h4;simp at h3 h4;simp[nC,bP,aC,h3,h4,aL,bR,go_sem]
 case cc => intro W kW;refine (C3.aX W kW).mono ?_;rintro e w3⟨u,rfl,⟨vf,ve,rfl,hf,he⟩,k3⟩;obtain⟨N,Y,rfl⟩:=dK hf;obtain⟨T,ce,rfl⟩:=bD he;exact⟨_,_,rfl,⟨_,_,rfl,rfl,⟨_,_,rfl⟩,⟨_,_,rfl⟩⟩,k3⟩
 case h6=>intro V W v j;simp[nC,bP,aC,j,aL,bR,go_sem]
 case h7=>intro V W xs c j;simp[nC,bP,aC,j,aL,bR,go_sem]
 case h8=>intro V W xs c j;simp[nC,bP,aC,j,aL,bR,go_sem]
 case h9=>intro V W;simp[nC,aL,bR,go_sem];rfl
 case nD => rintro V W b lo xs c W0 e9 L hb⟨vf,ve,rfl,-,⟨N,Y,rfl⟩,T,ce,rfl⟩;show ∃W',(aL (bP [(5,9),(16,7)] _ V) (bR (.store 178 (.tmp 5) (.tmp 16)) _)).run prog W=_/\_/\_;exact afM (.tmp 5) (.tmp 16) 178 _ 178 b 0 aoj (jm tx (F N (Q tx.e.f) Y) (F T (Q tx.e.es) ce)) ic ic hb cY bq (by simp[Value.oneCell'])
 case yr=>intro V W c j;simp[nC,bP,aC,j,aL,bR,go_sem]
 case hk=>exact λlo xs c W W' h k=>h
 case hlow=>exact λlo xs c W W' b h hb u=>h
 intro V W b xs c lo kW hcs e5 e6 L e8 e9 tV dt hbk hlo Fi
 obtain⟨vf,ve,rfl,rfl,⟨N,Y,rfl⟩,T,ce,rfl⟩:=Fi
 simp only[iu,Act.put,ue,tC,tB,e5,e6,L,e8,e9,tV]
 have t:=k1.tr kW
 have q2:=λW' (k:K W W')=>q1 W' (kW.tr k)
 have Cf:=λW' (k:K W W')=>X W' (kW.tr k)
 have qt:=hbk.cells
 have C4:=aY λW' (k:K W W')=>A.aX W' (t.tr k)
 have z:=aY λW' (k:K W W')=>Ws (H.aX.st (t.tr k)) HG.aX a
 simp only[<- HA.aX]at z
 clear hcs e5 e6 L e8 e9 tV q1 X A C3 hbk HA H HG
 go_upto_region 4 with fail
 cases hl
 rotate_left
 ·have HF:Hid (R=3):=aY ib;have qs:=aB q2 Cf;refine eQ 7 ?_;iterate 5 refine bA.i ?_
  refine bA.is (ar aA) (λV W kW hp=>?_) ?_
  ·(try simp only[dE,bU,bZ,dA,dB,bM]at hp)
   exact akY
  refine bA.i ?_;clear qs;intro V W kW hA;simp only[bU,bZ,dx,bM,Nat.reduceAdd]at hA;refine bJ.h ?_;have kF:=t.tr kW;clear hA q2 Cf z qt HR;go_wp2;exact Ez
 have qs:=aB q2 Cf
 refine eQ 7 ?_
 iterate 5 refine bA.i ?_
 refine bA.is (ar az) (λV W kW hp=>?_) ?_
 ·(try simp only[dE,bU,bZ,dA,dB,bM]at hp)
  exact akY
 refine bA.i ?_
 clear qs
 intro V W kW hA
 simp only[bU,bZ,dx,bM,Nat.reduceAdd]at hA
 refine bJ.h ?_
 have kF:=t.tr kW
 have C6:=aY (z.aX W kW)
 have qa3:=λi=>Cf W kW i
 have HQT:=aY λW' (k:K W W')=>qt W' (kW.tr k)
 clear hA q2 Cf z qt C4 t
 go_wp2_with fail
 refine C6.aX.mono ?_
 rintro e w9⟨rfl,k9⟩
 have kG:=kF.tr k9
 clear C6
 cases O
 rotate_left
 ·have HF:Hid (R=4):=aY ib;clear HR;exact SN
 have C:=HQT.aX w9 k9
 have HE:Hid (R=if is then (if tx.asked then 2 else 1)else 0):=aY ib
 clear HR qa3
 cases E7:is
 ·have HF:Hid (R=0):=aY (by rw[HE.aX,E7];rfl);exact SN
 cases abk:tx.asked
 ·have HF:Hid (R=1):=aY akZ;have q8:w9.cell? ⟨b,8,U⟩=I (ar az):=(C 8).trans (by simp[jm,abk]);clear C HQT;exact SN
 ·have HF:Hid (R=2):=aY akZ;have q8:w9.cell? ⟨b,8,U⟩=I (ar aA):=(C 8).trans (by simp[jm,abk]);clear C HQT;exact SN
theorem axS B o x(h:Q o<=16):Q (lU B o x)<=16:=by
 grind [lU]
theorem Rw B:∀(l o:List bW),Q o<=16->Q (l.foldl (lU B) o)<=16:=by
 intro l
 induction l with
 | nil=>intro o h;exact h
 | cons x l j=>intro o h;exact j _ (axS B o x h)
theorem Tu x cs W(h:cF.rel x cs W):cs[0]?≠I (ar aA):=by obtain⟨vf,ve,rfl,-⟩:=h;simp
theorem aeS{MB Y p B w}(h:cS MB p B w)(hG:cX B) base t tb o l C vl9
 (hb:bn w t 59 #[C]) (ht:bn w tb 114 #[aj (I ⟨p.g,0,U⟩)]) (L:bK Y base 128 cF o C w) (hl:ky (λk=>Y k∨aW C=I k) cF l vl9 w)
 (hYb:∀k,Y k->k<base) (JA:Y t) (hMo:MB t) (hMv:∀k,aW C=I k->MB k) (hXo:¬cO p t) (hXb:∀k,cO p k->k<base) (Vj:tb<base) (L7:tb≠t) (hbase:base<=Z (D w)) (hlo:Q o<=16) (Ck:Q l<=1000000) :
 aK prog 229 #[vl9,aj (I ⟨t,0,U⟩),aj (I ⟨tb,0,U⟩)] w λe w'=>e=ak (au #[])/\OD Y base 59 128 cF (l.foldl (lU B) o) C t w w':=by
 have H:=aY h
 have HG:=aY hG
 have HL:=aY hl
 have HX:=aY hMv
 have HXb:=aY hXb
 have dt:=L.blk
 have:=hYb t JA
 obtain⟨A9,c9,rfl⟩:=hl.slice
 obtain⟨R,HR⟩:∃R,Hid (R=l.foldl (lU B) o):=⟨_,aY rfl⟩
 rw[<- HR.aX]
 have HJ:=aY λ(j:Nat) (hj:j<Q l)=>fold_succ (lU B) l o j hj
 have HN:=aY λ(j:Nat)=>Rw B (l.take j) o hlo
 have HT:=aY ht
 have uu:bf (λk=>k=t∨aW C=I k) w w:=bf.rf _ _
 clear h hG hl hMv ht hXb
 go_in
 go_wp2_with fail
 go_loopw [5,6,9] (fun _ _ i W=>∃(j:Nat) (v':aQ),j<=Q l/\i=G J j/\bn W t 59 #[v']/\bK Y base 128 cF ((l.take j).foldl (lU B) o) v' W/\(∀k,aW v'=I k->aW C=I k∨Z (D w)<=k)/\bf (fun k=>k=t∨aW C=I k) w W) (fun _ _ i _=>Q l-(aO i).toNat)
 case atStart=>exact⟨0,C,aZ,rfl,hb,ic,λk hk=>aI hk,uu⟩
 case round =>
  clear hb L uu;obtain⟨j,v',hj,rfl,hb,L,hat,u⟩:=hrel;have oV:=u.size;by_cases hlt:j<Q l
  ·have cd:(j:Int)<Q l:=aZ;obtain⟨b1,o1,c1,cs1,e9,fF,hcl,hF,hcell⟩:=HL.aX.at j hlt bC;injection e9 with e9 _ iV;subst e9 iV;have HF:=aY (HJ.aX j hlt);have:=HN.aX j;generalize l[j]=x at *;generalize (l.take j).foldl (lU B) o=z at *;obtain⟨N,jz⟩:∃N,Hid (N=(l.take (j+1)).foldl (lU B) o):=⟨_,aY rfl⟩;replace HF:Hid (N=lU B z x):=aY (jz.aX.trans HF.aX);have OI:Q cs1=8:=hcl;have HFr:Hid (Fx (λk=>Y k∨aW v'=I k) (λW=>cF.rel x cs1 W) wr):=aY (hF.to u (λk hk=>hk.elim (λe=>e▸aI JA) aJ) λk hk A=>by
    rcases A with A|A
    ·exact aI A
    ·rcases hat k A with h|h
     ·exact aJ h
     ·omega)
   have wF:=hcell wr (u.more λk hk=>hk.elim (λe=>e▸aI JA) aJ);obtain⟨vf,ve,rfl,hf,he⟩:=hF.now;have q9:∀i,i<8->wr.cell? ⟨b1,o1+j*8+i,U⟩=(bQ x vf ve)[i]?:=λi hi=>(wF i hi).trans aD
   have q0:wr.cell? ⟨b1,o1+j*8,U⟩=I (G J x.kind):=q9 0 bC;have A:=bn.new wr 128 (bQ x vf ve);have T:=A.cC;obtain⟨Af,cf,rfl⟩:=dK hf;obtain⟨Ae,ce,rfl⟩:=bD he;obtain⟨Av,cv,rfl⟩:=L.slice;have hBr:=H.aX.far u (λk hk=>hk.elim (λe=>e▸hMo) (HX.aX k)) (λk hk A=>by
    rcases hk with rfl|hk
    ·exact hXo A
    ·have:=HXb.aX k A;have:=(dt k hk).1;omega) (λk _ hk=>hk) H.aX.sub (λk hk=>cQ (H.aX.low k hk) oV)
   have htr:=HT.aX.cA u (by
    rintro (rfl|hk)
    ·exact L7 rfl
    ·have:=(dt _ hk).1;omega)
   have HB:=aY hBr;clear hf he hF hcell wF hcl OI fF hBr;go_upto_region 3 with fail;generalize wr.alloc _=w3 at *;obtain⟨ga,nH⟩:∃ga,Hid (ga=Z (D wr)):=⟨_,aY rfl⟩;rw[<- nH.aX]at A⊢;clear q9 q0;have dy:=hb.bF T;have GJ:=htr.bF T;have dH:=L.st T;have C1:=aY (Q8 z _ (ju (bB x)) 230 #[aj (I ⟨ga,0,U⟩)] w3 dH.bw aZ (λ_ _=>cY) (λW k y _ u hu=>av2 y x u _ _ ga W hu (A.bF k)));have JB:Hid (z.any (ju (bB x))=dI z (bB x)):=aY rfl;rw[JB.aX]at C1;have q1:=dy.cell;go_wp2_with fail
   apply dP C1.aX T;intro w4 k4 DW;have hb4:=dy.bF k4;have ht4:=GJ.bF k4;have dV:=A.bF k4;have fq:=dH.st k4;have M:=aY (HB.aX.st DW);have HF4:=aY (HFr.aX.k DW);clear C1 JB q1 dy GJ A dH HB HFr hb L htr;have C2:=aY λW (k:K w4 W)=>FH B.st (bB x) (av (dY B.st p.vl p.vq p.va)) W ⟨_,_,_,rfl,(M.aX.df.at k).list,(M.aX.df.at k).prom,(M.aX.df.at k).ab⟩ (by have:=HG.aX.dk.len;omega)
   have C3:=aY λW (k:K w4 W)=>Ws (M.aX.st k) HG.aX (bB x)
   have HP:Hid (N=if dI z (bB x)||dI B.st.list (bB x)||wM B (bB x)||decide (16<=Q z)then z else z++[x]):=aY HF.aX;generalize dI z (bB x)=c1 at *;generalize dI B.st.list (bB x)=c2 at *;generalize wM B (bB x)=c3 at *;have hs1:=bD M.aX.df.now.list;have gH:=bD M.aX.df.now.prom;have iI:=bD M.aX.df.now.ab;have q:=M.aX.q;have qo:=hb4.cells;have qt:=ht4.cells;have qx:=dV.cells;obtain⟨g,gl,gd,gr,gt,vd,vr,vp,vh,vl,vq,va,vt,mh,vw,kr⟩:=p;simp only at q C2 C3 hs1 gH iI qt;obtain⟨Al,cl,rfl⟩:=hs1;obtain⟨Aq,cq,rfl⟩:=gH;obtain⟨Aa,ca,rfl⟩:=iI;clear HF;have hc:(N=z/\(c1=aA∨c1=az/\c2=aA∨(c1=az/\c2=az)/\c3=aA∨((c1=az/\c2=az)/\c3=az)/\(16:Int)<=(Q z:Int)))∨N=z++[x]/\((c1=az/\c2=az)/\c3=az)/\¬(16:Int)<=(Q z:Int):=by rw[HP.aX];have:=@Int.ofNat_le 16 (Q z);by_cases h:16<=Q z <;> cases c1 <;> cases c2 <;> cases c3 <;> simp[h] <;> omega
   have qs:=aB q (aB qo (aB qt (aB qx (show bB x=(x.br,x.life,x.dN)from rfl))));rcases hc with ⟨HQ,rfl|⟨rfl,rfl⟩|⟨⟨rfl,rfl⟩,rfl⟩|⟨⟨⟨rfl,rfl⟩,rfl⟩,aEk⟩⟩|⟨HQ,⟨⟨rfl,rfl⟩,rfl⟩,aEk⟩;all_goals
    replace HQ:=aY HQ
    go_upto_region 4 with fail
    refine eQ 21 ?_
    iterate 21 first|refine bA.i ?_|refine bA.v C2.aX ?_|refine bA.v C3.aX ?_
    clear qs
    intro V W kW hA
    simp only[bU,bZ,dx,bM,Nat.reduceAdd]at hA
    refine bJ.h ?_
    have mL:=hb4.bF kW
    have zX:=fq.st kW
    have uW:=u.tr (bf.bS (DW.tr kW) _)
    clear hA q qo qt qx hb4 fq C2 C3
   ·exact SP
   ·exact SP
   ·exact SP
   ·exact SP
   have Ff:=dV.bF kW;have HFW:=HF4.aX.k kW;clear dV;have q1:=mL.cell;have q2:=Ff.cell;have aEl:=zX.blk;have kA:=K.new W (aq (bQ x (F Af (Q x.f) cf) (F Ae (Q x.es) ce)) 128);have GV:=zX.st kA;have wy:=mL.bF kA;have hr:=fL.new (S:=cF) (e:=128) (v:=av (bQ x (F Af (Q x.f) cf) (F Ae (Q x.es) ce))) HFW 0 (eO _);go_wp2_with (at_builtin;refine kI rfl _ _ 59 rfl _ 8 96 rz rfl rfl GV _ rfl x ?p1 ?p2 ?p3 ?_)
   case p1=>exact hr.less λk hk=>hk
   case p2=>omega
   case p3=>exact cI hbase (cI uW.size kA.size)
   intro O w9 cR dF fO cN;rw[<- HQ.aX]at cR;have qU:=wy.grown dF (by intro e;have:=(aEl t e.symm).1;omega);have q9:=qU.cell;have:=qU.frozen;have HU:=aY ((uW.tr (bf.bS kA _)).iA (X:=λk=>k=t∨aW C=I k) (Y:=λk=>k=t∨aW (F Av (Q z) cv)=I k) ((bf.gy (X:=λk=>k=t∨aW (F Av (Q z) cv)=I k) dF λk e=>aJ e).tr (bf.dc (X:=λk=>k=t∨aW (F Av (Q z) cv)=I k) (aI rfl) 0 O)) λk hk h=>by
    rcases h with h|h
    ·exact aI h
    ·rcases hat k h with h|h
     ·exact aJ h
     ·omega)
   have HBB:Hid (bn (aV w9 ⟨t,0,U⟩ O) t 59 #[O]):=aY (qU.cz 0 O);have Cd:=aY (cR.to (X:=λk=>k=t) (bf.dc (X:=λk=>k=t) rfl 0 O) (λk hk=>SL) (λk hk e=>Zt) λk _ hk=>aI hk);have s7:Hid (∀k,aW O=I k->aW C=I k∨Z (D w)<=k):=aY λk hk=>by
    rcases fO with h|h
    ·exact hat k (h▸hk)
    ·rw[h]at hk;injection hk with hk;have:=uW.size;exact aJ aZ
   obtain⟨A9',c9',rfl⟩:=cR.slice;clear cR dF fO cN qU wy GV hr q1 q2 mL zX Ff;go_wp2;go_roundw
   case rel=>exact⟨j+1,_,aZ,cU,HBB.aX,by rw[<- jz.aX];exact Cd.aX,s7.aX,HU.aX⟩
   case measure=>simp[aO];omega
  ·have cd:¬(j:Int)<Q l:=aZ;obtain rfl:j=Q l:=aZ;rw[nN,<- HR.aX]at L;go_wp2;go_end0;exact⟨rfl,v',hb,L,hat,u⟩
theorem agD{B y}:∀ {l o:List bW},y∈l.foldl (lU B) o->y∈o∨y∈l:=by
 intro l
 induction l with
 | nil=>intro o h;exact aI h
 | cons x l j =>
  grind [lU]
theorem axT{B y}:∀ {l:List gM} {o:List bW},y∈l.foldl (λo k=>k.asks.foldl (lU B) o) o->y∈o∨∃m∈l,y∈m.asks:=by
 intro l
 induction l with
 | nil=>intro o h;exact aI h
 | cons x l j =>
  intro o h;rcases j h with h|⟨m,hm,h⟩
  ·grind [agD]
  ·grind
theorem agE B:∀(l:List gM) (o:List bW),Q o<=16->Q (l.foldl (λo k=>k.asks.foldl (lU B) o) o)<=16:=by
 intro l
 induction l with
 | nil=>intro o h;exact h
 | cons x l j=>intro o h;exact j _ (Rw B _ _ h)
theorem agF B:Q (nt B)<=16:=agE B _ _ (Rw B _ _ bq)
theorem cX.rep{B}(j:cX B) k:jZ B k=yg∨fI (jZ B k)=aA/\pW (jZ B k):=by
 unfold jZ
 cases h:B.dq.find? λp=>decide (p.1=k)with
 | none=>exact aI rfl
 | some x=>exact aJ (j.dq x (List.mem_of_find?_eq_some h))
theorem XO{α f}{l:List α}(h:mA f l=aA):Q l<=16/\∀x∈l,f x=true:=by
 grind [mA]
theorem cX.last{B}(H:cX B){m}(h:m∈fg B):(∀x∈m.asks,dm x=aA/\dQ x)/\Q m.dU<=16/\Q m.asks<=16:=by
 obtain⟨k,-,rfl⟩:=List.mem_map.1 h;rcases H.rep k with e|⟨A,z⟩
 ·grind [yg]
 ·have j:=A;unfold fI at j;simp only[fB]at j;obtain⟨⟨⟨⟨⟨⟨-,C⟩,y⟩,-⟩,-⟩,-⟩,-⟩:=j;exact⟨λx t=>⟨(XO y).2 x t,z.2.2.2.1 x t⟩,(XO C).1,(XO y).1⟩
theorem cX.asks{B}(j:cX B){x}(h:x∈nt B):dm x=aA/\dQ x:=by
 rcases axT h with h|⟨m,hm,h⟩
 ·rcases agD h with h|h
  ·simp at h
  ·obtain⟨t,y,rfl⟩:=List.mem_map.1 (lB h);have:=j.tx.each t (List.mem_filter.1 y).1;exact⟨this.1,this.2.1⟩
 ·exact (j.last hm).1 x h
theorem agG{B}(j:cX B):Q (fg B)<=16:=by unfold fg;rw[List.length_map];exact cI (J6 _ _) (ud j.tr).2
theorem aCH x cs W(h:Aj.rel x cs W):cs[0]?≠I (ar aA):=by obtain⟨t,A,y,z,B,j,rfl,-⟩:=h;simp
theorem afi{M p B w}(h:cS M p B w)(hG:cX B) :
 aK prog 164 #[aj (I ⟨p.g,0,U⟩)] w λe w'=>∃v',e=ak v'/\Fx M (λW=>bw cF (nt B) v' W) w'/\K w w':=by
 have H:=aY h
 have HG:=aY hG
 have HM:=aY h.low
 have D7:=aY h.sub
 have HAB:Hid (nt B=(fg B).foldl (λo k=>k.asks.foldl (lU B) o) ((kY B.bH).foldl (lU B) [])):=aY rfl
 have HJ:=aY λ(j:Nat) (hj:j<Q (fg B))=>fold_succ (λo (k:gM)=>k.asks.foldl (lU B) o) (fg B) ((kY B.bH).foldl (lU B) []) j hj
 have HN:=aY λ(j:Nat)=>agE B ((fg B).take j) _ (Rw B (kY B.bH) [] bq)
 have HLM:=aY λm hm=>hG.last (m:=m) hm
 have:=agG hG
 have:Q (kY B.bH)<=4:=by unfold kY;simp;omega
 have C1:=aY λW (k:K w W)=>avK B.bH p.vt W (h.df.at k).bH hG.tx.small akX
 have hs4:=bD h.df.now.bH
 have q:=h.q
 have hz1:Z (D (aU w (aq #[aj (I ⟨p.g,0,U⟩)] 114)))=Z (D w)+1:=bq
 have k1:=K.lK w (aq #[aj (I ⟨p.g,0,U⟩)] 114) (aq #[F U 0 0] 59)
 have Vj:=(bn.new w 114 #[aj (I ⟨p.g,0,U⟩)]).alloc (aq #[F U 0 0] 59)
 have fS:=bn.new (aU w (aq #[aj (I ⟨p.g,0,U⟩)] 114)) 59 #[F U 0 0]
 rw[hz1]at fS
 clear h hG hz1
 go_in
 go_upto_region 2 with fail
 generalize ay (ay w _) _=w1 at *
 obtain⟨g,hg⟩:∃g,g=Z (D w):=⟨_,rfl⟩
 rw[<- hg]at Vj fS⊢
 have Jv:=aY hg
 clear hg
 have:=fS.lt
 have q1:=q w1 k1
 have qt:=Vj.cell
 obtain⟨At,ct,hAt⟩:=hs4
 simp only[hAt]at C1
 have HAt:=aY hAt
 clear hAt
 have q1t:w1.cell? ⟨p.g,8,U⟩=I (F At (Q B.bH) ct):=by rw[q1 8,<- HAt.aX];rfl
 clear q1 q
 go_wp2_with fail
 apply tH (C1.aX w1 k1) k1
 intro O y eE k2 S
 have:=k2.size
 have abl:=Vj.bF k2
 have aEm:=fS.bF k2
 have gL:=Jv.aX
 have V:=λk hk=>HM.aX k (D7.aX k hk)
 have Gs:cS (λk=>M k∨k=g+1) p B y:=H.aX.far (X:=λ_=>False) (bf.bS S _) (λ_ h=>h.elim) (λ_ h=>h.elim) (λk hk t=>t.resolve_right aZ) (λk hk=>aI (D7.aX k hk)) (λk hk=>hk.elim (λh=>Zz) (λh=>aZ))
 have abm:=eE.tR.blk
 have gj:ky (λk=>(M k∨k=g+1)∨aW (F U 0 0)=I k) cF (kY B.bH) O y:=eE.tR.Jw (λk hk=>aI (by
  rcases hk with (hk|hk)|hk
  ·have:=HM.aX k hk;omega
  ·omega
  ·simp[Value.ownBlock]at hk)) (λk hk t=>by
   have:=(abm k hk).1;rcases t with (t|t)|t
   ·have:=HM.aX k t;omega
   ·omega
   ·simp[Value.ownBlock]at t)
 have C2:=aY (aeS Gs HG.aX (Z (D y)) (g+1) g [] (kY B.bH) (F U 0 0) O aEm abl (bK.nil _ _ _ _ _) gj (λk hk=>hk.elim (λh=>Zz) (λh=>aZ)) (aJ rfl) (aJ rfl) (λk hk=>ak0) (λt=>by have:=V _ t;omega) (λk hk=>by have:=V k hk;omega) aZ aZ (bL _) bq aZ)
 have yF:=aY Gs
 have Vk:=aY V
 obtain⟨A2,c2,rfl⟩:=gj.slice
 clear Gs abm gj eE C1 q1t qt V gL
 go_wp2_with fail
 apply bN C2.aX
 rintro z⟨v3,K0,dH,Ol,R⟩
 replace Ol:∀k,aW v3=I k->Z (D y)<=k:=λk hk=>by
  rcases Ol k hk with h|h
  ·simp[Value.ownBlock]at h
  ·exact h
 replace R:bf (λk=>k=g+1) y z:=R.more λk hk=>hk.elim id λh=>Ia
 have:=R.size
 have aok:=HM.aX
 have sf:cS (λk=>M k∨k=g+1∨(Z (D y)<=k/\k<Z (D z))) p B z:=yF.aX.far R (λk hk=>aJ hk) (λk hk t=>by have:=Vk.aX k t;have:=Jv.aX;omega) (λk hk t=>by
  rcases t with h|h|h
  ·exact aI h
  ·exact aJ h
  ·omega) (λk hk=>aI (D7.aX k hk)) (λk hk=>by
   rcases hk with h|h|h
   ·have:=aok k h;have:=S.size;omega
   ·omega
   ·omega)
 have aol:=abl.cA R aZ
 have C3:=aY (WS sf HG.aX)
 have q3:=aol.cell
 clear C2 sf aok
 go_wp2_with fail
 apply dD C3.aX
 rintro v4 A⟨LV,Y⟩
 have jy:=Fx.fix LV bC aCH
 have GW:=aY jy
 obtain⟨A4,c4,rfl⟩:=jy.slice
 have aom:=K0.bF Y
 have fq:=dH.st Y
 have u4:=R.tr (bf.bS Y (λk=>k=g+1))
 have aon:=dH.blk
 have:=Y.size
 clear C3 q3 jy LV aol K0 dH
 go_wp2_with fail
 have aoo:∀k,aW v3=I k->(Z (D y)<=k/\k<Z (D z))∨Z (D A)<=k:=λk hk=>aI (aon k hk)
 have uu:bf (λk=>k=g+1∨(Z (D y)<=k/\k<Z (D z))) A A:=bf.rf _ _
 clear aon Ol
 go_loopw [6,18] (fun _ i W=>∃(j:Nat) (v':aQ),j<=Q (fg B)/\i=G J j/\bn W (g+1) 59 #[v']/\bK (fun k=>M k∨k=g+1) (Z (D y)) 128 cF (((fg B).take j).foldl (fun o (k:gM)=>k.asks.foldl (lU B) o) ((kY B.bH).foldl (lU B) [])) v' W/\(∀k,aW v'=I k->(Z (D y)<=k/\k<Z (D z))∨Z (D A)<=k)/\bf (fun k=>k=g+1∨(Z (D y)<=k/\k<Z (D z))) A W/\bf (fun k=>k=g+1) y W) (fun _ i _=>Q (fg B)-(aO i).toNat)
 case atStart=>exact⟨0,v3,aZ,rfl,aom,by simpa using fq,aoo,uu,u4⟩
 case round =>
  clear aom fq aoo uu u4;obtain⟨j,v',hj,rfl,hb,N,hat,u,u2⟩:=hrel;by_cases hlt:j<Q (fg B)
  ·have cd:(j:Int)<(Q (fg B):Int):=aZ;obtain⟨b1,o1,c1,cs1,e9,fF,hcl,hF,hcell⟩:=GW.aX.at j hlt bC;injection e9 with e9 _ iV;subst e9 iV;have T:=aY (HJ.aX j hlt);have Ai:=HN.aX j;have hmm:=HLM.aX _ (dG hlt);generalize (fg B)[j]=m at *;generalize ((fg B).take j).foldl (λo (k:gM)=>k.asks.foldl (lU B) o) ((kY B.bH).foldl (lU B) [])=oj at *;obtain⟨P',jz⟩:∃P',Hid (P'=((fg B).take (j+1)).foldl (λo (k:gM)=>k.asks.foldl (lU B) o) ((kY B.bH).foldl (lU B) [])):=⟨_,aY rfl⟩;replace T:Hid (P'=m.asks.foldl (lU B) oj):=aY (jz.aX.trans T.aX);have wF:=hcell wr (u.more λk hk=>by
    rcases hk with h|h
    ·exact aJ (aI h)
    ·exact aJ (aJ h))
   obtain⟨v1,O,v3',v4',v5,v6,rfl,g1,g2,g3,g4,g5,g6⟩:=hF.now;have yN:Fx (λk=>M k∨k=g+1∨(Z (D y)<=k/\k<Z (D z))) (λW=>bw cF m.asks O W) A:=hF.mono λW h=>by obtain⟨x1,x2,x3,x4,x5,x6,e,h1,h2,-⟩:=h;simp at e;obtain⟨-,rfl,-⟩:=e;exact h2
   have wj:=Fx.fix yN bC Tu;have hzu:=u.size;have Ce:Hid (ky (λk=>(M k∨k=g+1)∨aW v'=I k) cF m.asks O wr):=aY (wj.to u (λk hk=>by
    rcases hk with h|h
    ·exact aJ (aI h)
    ·exact aJ (aJ h)) (λk hk t=>by
     rcases t with (h|h)|h
     ·exact aI h
     ·exact aJ (aI h)
     ·rcases hat k h with h|h
      ·exact aJ (aJ h)
      ·omega) bC)
   have q9:∀i,i<8->wr.cell? ⟨b1,o1+j*8+i,U⟩=(mK m v1 O v3' v4' v5 v6)[i]?:=λi hi=>(wF i hi).trans aD
   have q0:wr.cell? ⟨b1,o1+j*8,U⟩=I (G J m.kind):=q9 0 bC;obtain⟨A1,c1,rfl⟩:=bD g1;obtain⟨PR,PS,rfl⟩:=bD g2;obtain⟨A3,c3,rfl⟩:=bD g3;obtain⟨A4,c4,rfl⟩:=bD g4;obtain⟨A5,c5,rfl⟩:=bD g5;obtain⟨A6,c6,rfl⟩:=bD g6;have t:=bn.new wr 239 (mK m (F A1 (Q m.dU) c1) (F PR (Q m.asks) PS) (F A3 (Q m.entries) c3) (F A4 (Q m.gu) c4) (F A5 (Q m.fA) c5) (F A6 (Q m.ends) c6));have C:=t.cC;clear hcell wF hF yN wj hcl fF g1 g2 g3 g4 g5 g6;go_upto_region 7 with fail;generalize wr.alloc _=w5 at *;clear q9 q0;have q8:=t.cell;have gL:=Jv.aX;have IH:=S.size;have OW:=C.size;have L:=u2.tr (bf.bS C (λk=>k=g+1));have fu:=N.st C;have jI:=hb.bF C;have ht5:=abl.cA L aZ;have T5:=fu.blk;have GK:cS (λk=>M k∨k=g+1∨aW v'=I k) p B w5:=yF.aX.far L (λk hk=>aJ hk) (λk hk t=>by have:=Vk.aX k t;omega) (λk hk t=>by
    rcases t with h|h|h
    ·exact aI h
    ·exact aJ h
    ·have:=(T5 k h).1;omega) (λk hk=>aI (D7.aX k hk)) (λk hk=>by
     rcases hk with h|h|h
     ·have:=HM.aX k h;have:=L.size;omega
     ·have:=L.size;omega
     ·exact (T5 k h).2)
   have C5:=aY (aeS GK HG.aX (Z (D y)) (g+1) g oj m.asks v' _ jI ht5 fu (Ce.aX.st C) (λk hk=>hk.elim (λh=>Zz) (λh=>aZ)) (aJ rfl) (aJ (aI rfl)) (λk hk=>aJ (aJ hk)) (λt=>by have:=Vk.aX _ t;omega) (λk hk=>by have:=Vk.aX k hk;omega) aZ aZ (by have:=L.size;omega) Ai (by have:=hmm.2.2;omega));rw[<- T.aX]at C5;clear GK gL IH OW hzu hb N fu jI ht5;go_wp2_with fail
   apply bN C5.aX;rintro w6⟨v6',lQ,mo,aop,u6⟩;have hzu:=u.size;have OW:=C.size;have aEn:∀k,aW v6'=I k->(Z (D y)<=k/\k<Z (D z))∨Z (D A)<=k:=λk hk=>by
    rcases aop k hk with h|h
    ·exact hat k h
    ·exact aJ aZ
   have u7:=(u.tr (bf.bS C _)).iA u6 λk hk h=>by
    rcases h with h|h
    ·exact aI h
    ·rcases hat k h with h|h
     ·exact aJ h
     ·omega
   have u8:=L.iA u6 λk hk h=>by
    rcases h with h|h
    ·exact h
    ·have:=(T5 k h).1;omega
   clear C5 q8 aop u6 hzu OW T5 t;go_wp2;go_roundw
   case rel=>exact⟨j+1,v6',aZ,cU,lQ,by rw[<- jz.aX];exact mo,aEn,u7,u8⟩
   case measure=>simp[aO];omega
  ·have cd:¬(j:Int)<(Q (fg B):Int):=aZ;obtain rfl:j=Q (fg B):=aZ;rw[nN,<- HAB.aX]at N;have T:=aY ((N.less (Y':=M) λk hk=>aI hk).fx λk hk=>by have:=HM.aX k hk;have:=S.size;omega);have kF:=u2.k S λk hk=>by have:=Jv.aX;omega
   have q9:=hb.cell;obtain⟨A9,c9,rfl⟩:=N.slice;clear N hat u u2 hb;go_wp2;go_ret;exact⟨_,rfl,T.aX,kF⟩
theorem lG.settle{l}(h:lG l) a:lG (iq l a):=by
 unfold iq;split
 ·exact h
 ·exact h.erase _
structure pr(B B':cJ):Prop where
 me:B'.me=B.me
 par:B'.par=B.par
 bj:B'.bj=B.bj
 calls:B'.calls=B.calls
 dq:B'.dq=B.dq
 refused:B'.refused=B.refused
 told:B'.told=B.told
 waits:B'.waits=B.waits
 life:B'.st.life=B.st.life
theorem pr.rf B:pr B B:=⟨rfl,rfl,rfl,rfl,rfl,rfl,rfl,rfl,rfl⟩
theorem pr.tr{A B C}(h:pr A B)(k:pr B C):pr A C:=⟨k.me.trans h.me,k.par.trans h.par,k.bj.trans h.bj,k.calls.trans h.calls,k.dq.trans h.dq,k.refused.trans h.refused,k.told.trans h.told,k.waits.trans h.waits,k.life.trans h.life⟩
theorem ak1{s t r}(hk:r.kind≠1)(e:fR s r=I t):t.life=s.life:=by
 grind [fR,BV,zB,zC,zD,BW]
theorem Hg{B r}(hk:r.kind≠1):pr B (fk B r).1:=by
 unfold fk;split
 ·split
  ·exact pr.rf B
  ·rename_i t j;exact⟨rfl,rfl,rfl,rfl,rfl,rfl,rfl,rfl,ak1 hk j⟩
 ·exact pr.rf B
theorem J0{B}(j:cX B){r}(z:lH r):cX (fk B r).1:=by
 unfold fk;split
 ·rename_i y;simp only[fB]at y;split
  ·exact j
  ·rename_i t A;have C:=j.dk.next y.1 z y.2 A;exact⟨j.tr,j.me,j.hm,C,by
    show lG (if r.kind=2 then iq B.bH (bB r.e)else B.bH);split
    ·exact j.tx.settle _
    ·exact j.tx,j.calls,j.dq,j.told,j.ie,j.waits,j.BB⟩
 ·exact j
theorem RO{n x}(hn:n<18446744073709551616)(j:dQ x):lH (oJ n x):=⟨SH,hn,j,SH,CZ,CZ⟩
theorem XP{k a}(hk:cV k)(j:dX a):lH (lE k a):=⟨hk,FP,Ht,j.1,j.2.1,j.2.2⟩
theorem afS{B}(hG:cX B){x}(j:dQ x):cX (oG B x).1:=J0 hG (RO Eu j)
theorem afT B x:pr B (oG B x).1:=Hg (by simp[oJ])
theorem auJ{B}(j:cX B){a}(t:dX a):cX (pO B a).1:=by
 have h:=J0 j (XP (k:=4) tg t);unfold pO;split
 ·exact⟨h.tr,h.me,h.hm,h.dk,h.tx.settle _,h.calls,h.dq,h.told,h.ie,h.waits,h.BB⟩
 ·exact j
theorem auK B a:pr B (pO B a).1:=by
 have h:=Hg (B:=B) (r:=lE 4 a) FP;unfold pO;split
 ·exact⟨h.me,h.par,h.bj,h.calls,h.dq,h.refused,h.told,h.waits,h.life⟩
 ·exact pr.rf B
section
variable {α β γ:Type} {S:fE α} {S2:fE β} {S3:fE γ} {lo:Nat} {e e2 e3:TypeId} {l l':List α} {l2:List β} {l3:List γ} {v v2 v3:aQ} {w w':aP}
structure yi(lo:Nat)(e:TypeId)(S:fE α)(l:List α)(v:aQ)(e2:TypeId)(S2:fE β)(l2:List β)(v2:aQ)(e3:TypeId)(S3:fE γ)(l3:List γ)(v3:aQ)(w:aP):Prop where
 a:bK (λk=>k<lo∨aW v2=I k∨aW v3=I k) lo e S l v w
 b:bK (λk=>k<lo∨aW v3=I k∨aW v=I k) lo e2 S2 l2 v2 w
 c:bK (λk=>k<lo∨aW v=I k∨aW v2=I k) lo e3 S3 l3 v3 w
 n12:∀k,aW v=I k->aW v2=I k->False
 n23:∀k,aW v2=I k->aW v3=I k->False
 n31:∀k,aW v3=I k->aW v=I k->False
theorem yi.Fm(h:yi lo e S l v e2 S2 l2 v2 e3 S3 l3 v3 w):yi lo e2 S2 l2 v2 e3 S3 l3 v3 e S l v w:=⟨h.b,h.c,h.a,h.n23,h.n31,h.n12⟩
theorem yi.st(h:yi lo e S l v e2 S2 l2 v2 e3 S3 l3 v3 w)(k:K w w'):yi lo e S l v e2 S2 l2 v2 e3 S3 l3 v3 w':=⟨h.a.st k,h.b.st k,h.c.st k,h.n12,h.n23,h.n31⟩
theorem yi.nil lo e(S:fE α) y(j:fE β) z(t:fE γ) w:yi lo e S [] (F U 0 0) y j [] (F U 0 0) z t [] (F U 0 0) w :=
 ⟨bK.nil _ _ _ _ _,bK.nil _ _ _ _ _,bK.nil _ _ _ _ _,λk h=>Ia,λk h=>Ia,λk h=>Ia⟩
theorem yi.box(h:yi lo e S l v e2 S2 l2 v2 e3 S3 l3 v3 w){T t}(hb:OD (λk=>k<lo∨aW v2=I k∨aW v3=I k) lo T e S l' v t w w')(H:t<lo) :
 ∃v',bn w' t T #[v']/\yi lo e S l' v' e2 S2 l2 v2 e3 S3 l3 v3 w'/\bf (λk=>k=t∨aW v=I k) w w':=by
 obtain⟨v',C,B,z,y⟩:=hb
 have:=h.b.blk
 have:=h.c.blk
 refine⟨v',C,⟨B,h.b.to y (λk hk=>?_) (λk j h6=>?_) (λk hk A=>?_),h.c.to y (λk hk=>?_) (λk j h6=>?_) (λk hk A=>?_),λk j h6=>?_,h.n23,λk j h6=>?_⟩,y⟩
 ·grind
 ·rcases h6 with rfl|h6
  ·grind
  ·exact h.n12 k h6 j
 ·grind
 ·grind
 ·rcases h6 with rfl|h6
  ·grind
  ·exact h.n31 k j h6
 ·grind
 ·rcases z k j with j|j
  ·exact h.n12 k j h6
  ·grind
 ·rcases z k h6 with h6|h6
  ·exact h.n31 k j h6
  ·grind
end
theorem agH kids a:kZ kids a=0∨kZ kids a=1∨kZ kids a=2:=by
 grind [kZ]
theorem aDt W:(zeroValue 343).run prog W=.ok .nilFunc W:=by rfl
def OJ(lo z B A:Nat)(C os:List bW)(ns:List cB)(W:aP):Prop :=
 ∃j y t,bn W z 59 #[j]/\bn W B 59 #[y]/\bn W A 53 #[t]/\yi lo 128 cF C j 128 cF os y 42 dJ ns t W
theorem atE op kids vo vk w(ho:bw cF op vo w)(hk:bw Aj kids vk w)(uP:∀x∈op,fX x)(hlo:Q op<=1000000)(hlk:Q kids<=1000000)(hv:∀m∈kids,Q m.dU<=1000000) :
 aK prog 216 #[vo,vk] w λe w'=>∃A B Y,e=ak (au #[A,B,Y])/\Fx (λk=>k<Z (D w)) (λW=>bw cF (Gh op kids) A W) w'/\Fx (λk=>k<Z (D w)) (λW=>bw dJ (Fa op kids) B W) w'/\K w w':=by
 have HY:Hid (Gh op kids=op.filter λx=>decide (kZ kids (bB x)=1)):=aY rfl
 have HN:Hid (Fa op kids=(op.filter λx=>decide (kZ kids (bB x)=2)).map bB):=aY rfl
 have C1:=aY λW (k:K w W) a=>afR kids a vk W (cH hk k) hlk hv
 have HS:=aY uP
 have abn:=aY λa=>agH kids a
 obtain⟨Ao,co,rfl,hl,-⟩:=ho
 obtain⟨Ak,ck,rfl⟩:=bD hk
 generalize Gh op kids=RY at *
 generalize Fa op kids=RN at *
 generalize kZ kids=t at *
 have hz2:Z (D ((aU w (aq #[F U 0 0] 59)).alloc (aq #[F U 0 0] 59)))=Z (D w)+2:=bq
 have hz1:Z (D (aU w (aq #[F U 0 0] 59)))=Z (D w)+1:=bq
 have mf:Z (D (((aU w (aq #[F U 0 0] 59)).alloc (aq #[F U 0 0] 59)).alloc (aq #[F U 0 0] 53)))=Z (D w)+3:=bq
 have cD:=((bn.new w 59 #[F U 0 0]).alloc (aq #[F U 0 0] 59)).alloc (aq #[F U 0 0] 53)
 have hb2:=(bn.new (aU w (aq #[F U 0 0] 59)) 59 #[F U 0 0]).alloc (aq #[F U 0 0] 53)
 have dy:=bn.new ((aU w (aq #[F U 0 0] 59)).alloc (aq #[F U 0 0] 59)) 53 #[F U 0 0]
 have y:=K.TS w (aq #[F U 0 0] 59) (aq #[F U 0 0] 59) (aq #[F U 0 0] 53)
 rw[hz1]at hb2
 rw[hz2]at dy
 clear hk uP hv hz1 hz2
 go_in
 go_upto_region 3 with fail
 generalize ay (ay (ay w _) _) _=w3 at *
 obtain⟨g,hg⟩:∃g,g=Z (D w):=⟨_,rfl⟩
 rw[<- hg]at cD hb2 dy mf⊢
 have HG:=aY hg
 clear hg
 have hmm:=JV (P:=prog) underlying344 w3
 rw[mf]at hmm
 have m0:fC encI (aU w3 (.map #[] 0)) (g+3) []:=mf▸fC.new w3
 have kA:=K.new w3 (.map #[] 0)
 have KI:=Dn (P:=prog) (kt:=3) underlying3
 obtain⟨w4,r4,m4,g4⟩:=FK KI underlying344 m0 0 (.func (.func 270) #[] #[aj (I ⟨g+1,0,U⟩)])
 obtain⟨w5,r5,m5,g5⟩:=FK KI underlying344 m4 1 (.func (.func 271) #[] #[aj (I ⟨g,0,U⟩)])
 obtain⟨w6,r6,m6,g6⟩:=FK KI underlying344 m5 2 (.func (.func 272) #[] #[aj (I ⟨g+2,0,U⟩)])
 have PU:uo (uo (uo ([]:List (Int×aQ)) 0 (.func (.func 270) #[] #[aj (I ⟨g+1,0,U⟩)])) 1 (.func (.func 271) #[] #[aj (I ⟨g,0,U⟩)])) 2 (.func (.func 272) #[] #[aj (I ⟨g+2,0,U⟩)])=[(0,.func (.func 270) #[] #[aj (I ⟨g+1,0,U⟩)]),(1,.func (.func 271) #[] #[aj (I ⟨g,0,U⟩)]),(2,.func (.func 272) #[] #[aj (I ⟨g+2,0,U⟩)])]:=cY
 rw[PU]at m6
 simp only[encI]at r4 r5 r6
 have M:=(bf.bS kA _).tr (((bf.gy (X:=λk=>k=g+3) g4 λk e=>bG).tr (bf.gy (X:=λk=>k=g+3) g5 λk e=>bG)).tr (bf.gy (X:=λk=>k=g+3) g6 λk e=>bG))
 have k6:=M.k y λk hk=>SQ
 have:=m6.lt
 have aEo:=cD.cA M aZ
 have aEp:=hb2.cA M aZ
 have aEq:=dy.cA M aZ
 go_wp2_with fail
 clear r4 r5 r6 hmm m0 m4 m5 g4 g5 g6 cD hb2 dy M kA y PU mf
 have S:OJ (Z (D w6)) g (g+1) (g+2) [] [] [] w6:=⟨_,_,_,aEo,aEp,aEq,yi.nil _ _ _ _ _ _ _ _⟩
 have uu:bf (λk=>k=g∨k=g+1∨k=g+2) w6 w6:=bf.rf _ _
 go_loopw [12,13,14,22] (fun _ _ _ i W=>∃j:Nat,j<=Q op/\i=G J j/\OJ (Z (D w6)) g (g+1) (g+2) ((op.take j).filter fun x=>decide (t (bB x)=1)) ((op.take j).filter fun x=>decide (t (bB x)=0)) (((op.take j).filter fun x=>decide (t (bB x)=2)).map bB) W/\bf (fun k=>k=g∨k=g+1∨k=g+2) w6 W) (fun _ _ _ i _=>Q op-(aO i).toNat)
 case atStart=>exact⟨0,aZ,rfl,ic,uu⟩
 case round =>
  clear S uu;obtain⟨j,hj,rfl,S,u⟩:=hrel;by_cases N:j<Q op
  ·have cd:(j:Int)<Q op:=aZ;obtain⟨b1,o1,cs1,rfl,jU,hrl,d0,d⟩:=eN hl j N bC;have F0:=aY (MH (λx=>decide (t (bB x)=0)) op j N);have F1:=aY (MH (λx=>decide (t (bB x)=1)) op j N);have F2:=aY (MH (λx=>decide (t (bB x)=2)) op j N);have sC:=HS.aX _ (dG N);have:=ni (λx=>decide (t (bB x)=1)) (op.take j);have:=ni (λx=>decide (t (bB x)=0)) (op.take j);have:=ni (λx=>decide (t (bB x)=2)) (op.take j);have:Q (op.take j)<=1000000:=cG;generalize op[j]=x at *;have gL:=HG.aX;have O:=u.k k6 λk hk=>aZ
   clear gL;obtain⟨vf,ve,rfl,hf,he⟩:=hrl w (K.rf w);have HE:Hid (∀W,K w W->fc x (av (bQ x vf ve)) W):=aY λW k=>⟨_,_,rfl,fJ _ _ _ _ hf k,cH he k⟩
   have q9:∀i,i<8->wr.cell? ⟨b1,o1+j*8+i,U⟩=(bQ x vf ve)[i]?:=λi hi=>(d wr O i hi).trans aD
   have q0:wr.cell? ⟨b1,o1+j*8,U⟩=I (G J x.kind):=d0 wr O;have hx:=bn.new wr 128 (bQ x vf ve);have y:=hx.cC;obtain⟨Af,cf,rfl⟩:=dK hf;obtain⟨Ae,ce,rfl⟩:=bD he;clear d d0 hf he hrl jU;go_upto_region 7 with fail;generalize wr.alloc _=w7 at *;clear q9 q0;have q8:=hx.cell;have k07:=O.tr y;have u7:=u.tr (bf.bS y _);go_wp2_with fail
   apply dP (C1.aX w7 k07 (bB x)) k07;intro z H yK;have u8:=u7.tr (bf.bS H _);have m8:=m6.cA u8 aZ;have uU:=hx.bF H;clear q8;have q8:=uU.cell;obtain⟨A,B,Y,B1,B2,R,T⟩:=S;have Vn:=B1.bF (y.tr H);have Vo:=B2.bF (y.tr H);have Vp:=R.bF (y.tr H);have T8:=T.st (y.tr H);have s8:=u8.size;have C:=aY λn=>(Ej (Dn (P:=prog) (kt:=3) underlying3) underlying344 (aDt z) m8 n).1
   have aEr:=T8.a.blk;have aEs:=T8.b.blk;have aEt:=T8.c.blk;clear B1 B2 R T;rcases abn.aX (bB x)with h|h|h
   ·have ql:=C.aX 0;simp only[eA,iG,encI]at ql;simp at ql;rw[h];have PW:Hid ((op.take (j+1)).filter (λx=>decide (t (bB x)=0))=(op.take j).filter (λx=>decide (t (bB x)=0))++[x]):=aY ZA;have PX:Hid ((op.take (j+1)).filter (λx=>decide (t (bB x)=1))=(op.take j).filter (λx=>decide (t (bB x)=1))):=aY ZB;have L:Hid (((op.take (j+1)).filter (λx=>decide (t (bB x)=2))).map bB=((op.take j).filter (λx=>decide (t (bB x)=2))).map bB):=aY ZC;have CC:=aY (av3 _ _ _ _ (g+1) x _ z (HE.aX z yK) sC Vo T8.Fm.a (λk hk=>bG) (aI aZ) s8 aZ aZ);clear h C;go_wp2_with fail
    apply bN CC.aX;intro w9 hB;obtain⟨v9,B9,T9,sE⟩:=T8.Fm.box hB aZ;have N1:=Vn.cA sE bG;have N3:=Vp.cA sE bG;have Vq:OJ (Z (D w6)) g (g+1) (g+2) ((op.take (j+1)).filter λx=>decide (t (bB x)=1)) ((op.take (j+1)).filter λx=>decide (t (bB x)=0)) (((op.take (j+1)).filter λx=>decide (t (bB x)=2)).map bB) w9:=by rw[PW.aX,PX.aX,L.aX];have TT:=T9.Fm.Fm;exact⟨A,v9,Y,N1,B9,N3,TT⟩
    exact ZE
   ·have ql:=C.aX 1;simp only[eA,iG,encI]at ql;simp at ql;rw[h];have PW:Hid ((op.take (j+1)).filter (λx=>decide (t (bB x)=0))=(op.take j).filter (λx=>decide (t (bB x)=0))):=aY ZA;have PX:Hid ((op.take (j+1)).filter (λx=>decide (t (bB x)=1))=(op.take j).filter (λx=>decide (t (bB x)=1))++[x]):=aY ZB;have L:Hid (((op.take (j+1)).filter (λx=>decide (t (bB x)=2))).map bB=((op.take j).filter (λx=>decide (t (bB x)=2))).map bB):=aY ZC;have CC:=aY (av4 _ _ _ _ g x _ z (HE.aX z yK) sC Vn T8.a (λk hk=>bG) (aI aZ) s8 aZ aZ);clear h C;go_wp2_with fail
    apply bN CC.aX;intro w9 hB;obtain⟨v9,B9,T9,sE⟩:=T8.box hB aZ;have N2:=Vo.cA sE bG;have N3:=Vp.cA sE bG;have Vq:OJ (Z (D w6)) g (g+1) (g+2) ((op.take (j+1)).filter λx=>decide (t (bB x)=1)) ((op.take (j+1)).filter λx=>decide (t (bB x)=0)) (((op.take (j+1)).filter λx=>decide (t (bB x)=2)).map bB) w9:=by rw[PW.aX,PX.aX,L.aX];have TT:=T9;exact⟨v9,B,Y,B9,N2,N3,TT⟩
    exact ZE
   ·have ql:=C.aX 2;simp only[eA,iG,encI]at ql;simp at ql;rw[h];have PW:Hid ((op.take (j+1)).filter (λx=>decide (t (bB x)=0))=(op.take j).filter (λx=>decide (t (bB x)=0))):=aY ZA;have PX:Hid ((op.take (j+1)).filter (λx=>decide (t (bB x)=1))=(op.take j).filter (λx=>decide (t (bB x)=1))):=aY ZB;have L:Hid (((op.take (j+1)).filter (λx=>decide (t (bB x)=2))).map bB=((op.take j).filter (λx=>decide (t (bB x)=2))).map bB++[bB x]):=aY ZC;have CC:=aY (av5 _ _ _ _ (g+2) x _ z (HE.aX z yK) Vp T8.Fm.Fm.a (aI aZ) s8 aZ bG);clear h C;go_wp2_with fail
    apply bN CC.aX;intro w9 hB;obtain⟨v9,B9,T9,sE⟩:=T8.Fm.Fm.box hB aZ;have N1:=Vn.cA sE bG;have N2:=Vo.cA sE bG;have Vq:OJ (Z (D w6)) g (g+1) (g+2) ((op.take (j+1)).filter λx=>decide (t (bB x)=1)) ((op.take (j+1)).filter λx=>decide (t (bB x)=0)) (((op.take (j+1)).filter λx=>decide (t (bB x)=2)).map bB) w9:=by rw[PW.aX,PX.aX,L.aX];have TT:=T9.Fm;exact⟨A,B,v9,N1,N2,B9,TT⟩
    exact ZE
  ·have cd:¬(j:Int)<Q op:=aZ;obtain rfl:j=Q op:=aZ;rw[nN,<- HY.aX,<- HN.aX]at S;obtain⟨A,B,Y,B1,B2,R,T⟩:=S;have gL:=HG.aX;have O:=u.k k6 λk hk=>aZ
   clear gL;have q1:=B1.cells;have q2:=B2.cells;have q3:=R.cells;have:=k6.size;have X1:=aY ((T.a.less (Y':=λk=>k<Z (D w)) λk hk=>aI aZ).fx λk hk=>aZ);have X3:=aY ((T.c.less (Y':=λk=>k<Z (D w)) λk hk=>aI aZ).fx λk hk=>aZ);obtain⟨A1,c1,rfl⟩:=T.a.slice;obtain⟨A2,c2,rfl⟩:=T.b.slice;obtain⟨A3,c3,rfl⟩:=T.c.slice;clear B1 B2 R T;go_upto_region 11 with fail;have qs:=aB q1 (aB q2 q3);refine eQ 6 ?_;iterate 6 refine bA.i ?_
   clear qs;intro V W kW hA;simp only[bU,bZ,dx,bM,Nat.reduceAdd]at hA;refine bJ.h ?_;have kF:=O.tr kW;have Y1:=aY (X1.aX.k kW);have Y3:=aY (X3.aX.k kW);clear hA q1 q2 q3 X1 X3;go_wp2;go_ret3;exact⟨_,_,⟨_,rfl⟩,Y1.aX,Y3.aX,kF⟩
theorem agI{s y}:∀ {l:List bW} {p:List bW×List bW},(y∈(l.foldl (rO s) p).1->y∈p.1∨y∈l)/\(y∈(l.foldl (rO s) p).2->y∈p.2∨y∈l):=by
 intro l
 induction l with
 | nil=>intro p;exact⟨aI,aI⟩
 | cons x l j =>
  grind [rO]
theorem cX.open'{B}(j:cX B):(∀x∈(qK B.st B.waits (nt B)).1,dm x=aA/\dQ x)/\(∀x∈(qK B.st B.waits (nt B)).2,dm x=aA/\dQ x)/\Q (qK B.st B.waits (nt B)).1<=1000000/\Q (qK B.st B.waits (nt B)).2<=16:=by
 have h:=agC B.st (nt B) (B.waits,[]);have:=j.BB;have:=agF B;refine⟨λx t=>?_,λx t=>?_,?_,?_⟩
 ·rcases agI.1 t with h|h
  ·exact j.waits x h
  ·exact j.asks h
 ·rcases agI.2 t with h|h
  ·simp at h
  ·exact j.asks h
 ·grind [qK]
 ·grind [qK]
theorem J1{l:List bW}:∀ {B:cJ},cX B->(∀x∈l,dQ x)->cX (l.foldl (λb x=>(oG b x).1) B)/\pr B (l.foldl (λb x=>(oG b x).1) B):=by
 induction l with
 | nil=>intro B h _;exact⟨h,pr.rf B⟩
 | cons x l z =>
  intro B h j;have t:=z (afS h (j x bq)) λy A=>j y bG
  exact⟨t.1,(afT B x).tr t.2⟩
theorem awa{kids p x}(h:cX p.1)(j:dQ x):cX (mP kids p x).1/\pr p.1 (mP kids p x).1/\(∀y∈(mP kids p x).2,y∈p.2∨y=x)/\Q (mP kids p x).2<=Q p.2+1:=by
 have:dX (bB x):=⟨j.2.1,j.2.2.2.1,j.2.2.2.2.1⟩
 have:∀y∈p.2++[x],y∈p.2∨y=x:=λy A=>bG
 unfold mP
 grind [afS,afT,pr.rf,auJ,auK]
theorem MO{kids}{l:List bW}:∀ {p:cJ×List bW},cX p.1->(∀x∈l,dQ x)->cX (l.foldl (mP kids) p).1/\pr p.1 (l.foldl (mP kids) p).1/\(∀y∈(l.foldl (mP kids) p).2,y∈p.2∨y∈l)/\Q (l.foldl (mP kids) p).2<=Q p.2+Q l:=by
 induction l with
 | nil=>intro p h _;exact⟨h,pr.rf _,λy j=>aI j,bq⟩
 | cons x l B =>
  intro p h t;have A:=awa (kids:=kids) (x:=x) h (t x bq);have z:=B (p:=mP kids p x) A.1 λy j=>t y bG
  refine⟨z.1,A.2.1.tr z.2.1,λy j=>?_,?_⟩;all_goals grind
theorem MP{B}(z:cX B):cX (iX B):=by
 have y:=z.open';unfold iX;split
 ·have A:=J1 z λx t=>(y.2.1 x t).2
  have j:=MO (kids:=fg B) (p:=(Bg B,[])) A.1 λx t=>(y.1 x t).2
  exact⟨j.1.tr,j.1.me,j.1.hm,j.1.dk,j.1.tx,j.1.calls,j.1.dq,j.1.told,j.1.ie,λx t=>by
   rcases j.2.2.1 x t with h|h
   ·simp at h
   ·exact y.1 x h,by
   exact cI (show Q (pR B).2<=0+Q (qK B.st B.waits (nt B)).1 from j.2.2.2) (by have:=y.2.2.1;omega)⟩
 ·exact z
theorem awb{B B'}(h:pr B B'):fg B'=fg B:=by unfold fg rR jZ;rw[h.me,h.par,h.dq]
theorem aBq{op kids x}(j:x∈op):dI (Gh op kids) (bB x)=decide (kZ kids (bB x)=1):=by
 grind [dI,Gh,bB,kZ]
theorem aCI{op kids x}(j:x∈op):fD (Fa op kids) (bB x)=decide (kZ kids (bB x)=2):=by
 grind [fD,Fa,bB,kZ]
def T6(M:Nat->Prop)(op y:List bW)(v:aQ)(W:aP):Prop:=∃j t,v=au #[j,t]/\Fx M (λW=>bw cF op j W) W/\Fx M (λW=>bw cF y t W) W
theorem ak2 M op j:∀v w w',T6 M op j v w->aN (Z (D w)) w w'->T6 M op j v w':=by rintro v w w'⟨y,A,e,z,t⟩ k;exact⟨y,A,e,z.k k,t.k k⟩
def JC(M:Nat->Prop)(l:List bW)(v:aQ)(W:aP):Prop:=Fx M (λW=>bw cF l v W) W
theorem N8 M l:∀v w w',JC M l v w->aN (Z (D w)) w w'->JC M l v w':=λ_ _ _ h k=>Fx.k h k
theorem afj{M p B w}(h:cS M p B w)(hG:cX B) :
 aK prog 158 #[aj (I ⟨p.g,0,U⟩)] w λe w'=>e=ak (au #[])/\eX M p (iX B) w w':=by
 have HR:Hid (iX B=if pn B then { (pR B).1 with waits:=(pR B).2 }else B):=aY rfl
 have HWL:Hid (Bg B=(qK B.st B.waits (nt B)).2.foldl (λb x=>(oG b x).1) B):=aY rfl
 have HWD:Hid (pR B=(qK B.st B.waits (nt B)).1.foldl (mP (fg B)) (Bg B,[])):=aY rfl
 have HO:=aY hG.open'
 have H:=aY h
 have HG:=aY hG
 have gG:=hG.FY
 have C0:=aY (Q6 h)
 have C1:=aY λW (k:K w W)=>afi (h.st k) hG
 have C2:=aY λW (k:K w W) va (ha:bw cF (nt B) va W)=>auH B.st B.waits (nt B) p.vl p.vq p.va p.vw va W ⟨_,_,_,rfl,(h.df.at k).list,(h.df.at k).prom,(h.df.at k).ab⟩ (h.df.at k).waits ha gG.2.2 (λx t=>xH (hG.asks t).1) ⟨Eu,Eu⟩ hG.BB (by have:=agF B;omega)
 have HM:=aY h.low
 have hs1:=bD h.df.now.list
 have gH:=bD h.df.now.prom
 have iI:=bD h.df.now.ab
 have hs4:=bD h.df.now.waits
 have q:=h.q
 obtain⟨op,hop⟩:∃op,op=(qK B.st B.waits (nt B)).1:=⟨_,rfl⟩
 obtain⟨z,yx⟩:∃z,z=(qK B.st B.waits (nt B)).2:=⟨_,rfl⟩
 simp only[<- hop,<- yx]at C2 HO HWL HWD
 clear hop yx gG h hG
 generalize Pb:iX B=WB at *
 clear Pb
 obtain⟨g,gl,gd,gr,gt,vd,vr,vp,vh,vl,vq,va,vt,mh,vw,kr⟩:=p
 simp only at q C1 C2 hs1 gH iI hs4
 obtain⟨Al,cl,rfl⟩:=hs1
 obtain⟨Aq,cq,rfl⟩:=gH
 obtain⟨Aa,ca,rfl⟩:=iI
 obtain⟨Aw,cw,rfl⟩:=hs4
 go_in
 go_wp2
 go_step3
 go_wp2_with fail
 apply bN C0.aX
 intro w1 k1
 clear C0
 cases anv:pn B
 ·have HF:Hid (WB=B):=aY ak3;have HN:=aY (H.aX.n k1);clear HR;go_wp2;rw[jt];refine aM (results_none rfl _ _ _) rfl ?_;exact ZF
 have LC:Hid (WB={ (pR B).1 with waits:=(pR B).2 }):=aY ak3
 have q1:=λW (k:K w1 W)=>q W (k1.tr k)
 clear HR q anv
 go_upto_region 2 with fail
 have qs:=q1
 refine QW 16 [([],[]),([0],[(23,0)]),([1],[(24,1)]),([2],[(25,2)]),([],[]),([4],[(27,4)]),([5],[(28,5)]),([6],[(29,6)]),([],[]),([8],[(31,8)]),([3,7,9],[(26,3),(30,7),(32,9)]),([10],[(33,10)]),([11],[(22,11)]),([11],[(22,11)]),([12],[(34,12)]),([13],[(35,13)])] 94 ?_
 iterate 9 refine bA.i ?_
 refine bA.op (JC M (nt B)) (N8 _ _) (λV W kW hp=>?_) ?_
 ·(try simp only[dE,bU,bZ,dA,dB,bM]at hp)
  simp[dC,bP,aC,hp,eH,aL,bR,q1,go_sem];apply dD (C1.aX W (k1.tr kW));rintro v4 w4⟨hF,k4⟩;exact⟨_,rfl,hF,k4⟩
 refine bA.op (T6 M op z) (ak2 _ _ _) (λV W kW hp=>?_) ?_
 ·simp only[dE,bU,bZ,dA,dB,bM]at hp;obtain⟨e3,e7,h9,-⟩:=hp;simp[dC,bP,aC,e3,e7,eH,aL,bR,go_sem];refine (C2.aX W (k1.tr kW) (V 9) (Fx.now h9)).mono ?_;rintro e w4⟨v1,v2,rfl,hT,k4⟩;refine⟨_,rfl,⟨v1,v2,rfl,?_,?_⟩,k4⟩
  ·exact (hT.a.less (Y':=M) λk hk=>aI (cQ (HM.aX k hk) (k1.tr kW).size)).fx λk hk=>cQ (HM.aX k hk) (k1.tr kW).size
  ·exact (hT.b.less (Y':=M) λk hk=>aI (cQ (HM.aX k hk) (k1.tr kW).size)).fx λk hk=>cQ (HM.aX k hk) (k1.tr kW).size
 refine bA.op (T6 M op z) (ak2 _ _ _) (λV W kW hp=>?_) ?_
 ·simp only[dE,bU,bZ,dA,dB,bM]at hp;obtain⟨⟨v1,v2,e,h1,h2⟩,-⟩:=hp;simp[dC,bP,aC,e,eH,aL,bR,ed,go_sem];exact⟨v1,v2,rfl,h1,h2⟩
 refine bA.op (JC M op) (N8 _ _) (λV W kW hp=>?_) ?_
 ·simp only[dE,bU,bZ,dA,dB,bM]at hp;obtain⟨⟨v1,v2,e,h1,h2⟩,-⟩:=hp;simp[dC,bP,aC,e,eH,aL,bR,ed,go_sem];exact h1
 refine bA.op (JC M z) (N8 _ _) (λV W kW hp=>?_) ?_
 ·simp only[dE,bU,bZ,dA,dB,bM]at hp;obtain⟨⟨v1,v2,e,h1,h2⟩,-⟩:=hp;simp[dC,bP,aC,e,eH,aL,bR,ed,go_sem];exact h2
 refine bA.op (JC M op) (N8 _ _) (λV W kW hp=>?_) ?_
 ·exact ak4
 refine bA.op (JC M z) (N8 _ _) (λV W kW hp=>?_) ?_
 ·exact ak4
 clear qs
 intro V W kW hA
 simp only[bU,bZ,dx,bM,Nat.reduceAdd]at hA
 refine bJ.h ?_
 obtain⟨-,-,-,-,-,-,-,-,-,-,-,-,-,-,h14,JD,-⟩:=hA
 have kA:=k1.tr kW
 have hb0:=H.aX.st kA
 have hL4:=Fx.fix h14 bC Tu
 have hL5:=Fx.fix JD bC Tu
 generalize V 14=v14 at *
 generalize V 15=v15 at *
 obtain⟨A4,c4,rfl⟩:=hL4.slice
 obtain⟨A5,c5,rfl⟩:=hL5.slice
 have GW:=aY hL4
 have nc:=aY hL5
 have zS:=aY hb0
 have EY:=hb0.n (K.rf W)
 have Vr:=aY kA
 have hlb:=HO.aX.2.2.2
 have fS:=HO.aX.2.2.1
 clear h14 JD hL4 hL5 C1 C2 q1 kW k1 hb0 kA
 go_wp2_with fail
 go_loopw [7,38] (fun _ i wr=>∃j:Nat,j<=Q z/\i=G J j/\eX M ⟨g,gl,gd,gr,gt,vd,vr,vp,vh,F Al (Q B.st.list) cl,F Aq (Q B.st.prom) cq,F Aa (Q B.st.ab) ca,vt,mh,F Aw (Q B.waits) cw,kr⟩ ((z.take j).foldl (fun b x=>(oG b x).1) B) W wr) (fun _ i _=>Q z-(aO i).toNat)
 case atStart=>exact⟨0,aZ,rfl,by simpa using EY⟩
 case round =>
  clear EY;obtain⟨j,hj,rfl,p',L,u,C,R⟩:=hrel;by_cases T:j<Q z
  ·have cd:(j:Int)<Q z:=aZ;obtain⟨b1,o1,c1,cs1,e9,fF,hcl,hF,hcell⟩:=nc.aX.at j T bC;injection e9 with e9 _ iV;subst e9 iV;have HF:=aY (fold_succ (λb x=>(oG b x).1) z B j T);have hm:=HO.aX.2.1 _ (dG T);have Y:=J1 HG.aX (l:=z.take j) λx t=>(HO.aX.2.1 x (lB t)).2
   generalize z[j]=x at *;generalize (z.take j).foldl (λb x=>(oG b x).1) B=Bj at *;have uM:=u.more zS.aX.sub;have wF:=hcell wr uM;obtain⟨vf,ve,rfl,hf,he⟩:=hF wr uM;have q9:∀i,i<8->wr.cell? ⟨b1,o1+j*8+i,U⟩=(bQ x vf ve)[i]?:=λi hi=>(wF i hi).trans aD
   have q0:wr.cell? ⟨b1,o1+j*8,U⟩=I (G J x.kind):=q9 0 bC;have HE:Hid (∀W,K wr W->fc x (av (bQ x vf ve)) W):=aY λW k=>⟨_,_,rfl,fJ _ _ _ _ hf k,cH he k⟩
   have t:=bn.new wr 128 (bQ x vf ve);have k3:=t.cC;obtain⟨Af,cf,rfl⟩:=dK hf;obtain⟨Ae,ce,rfl⟩:=bD he;clear hcell wF hF hcl fF hf he;go_upto_region 6 with fail;generalize wr.alloc _=w3 at *;clear q9 q0;have q8:=t.cell;have C3:=aY (afb (L.st k3) Y.1 x _ (HE.aX w3 k3) hm.2 (xH hm.1));simp only[DY C]at C3;have u3:=u.tr (bf.bS k3 _);have D7:=aY R;have zT:=aY C;clear L Y C R;go_wp2_with fail
   apply bN C3.aX;intro w4 hN;have GX:=eX.tr u3 zT.aX D7.aX (λk hk=>aI hk) hN;rw[<- HF.aX]at GX;clear C3 q8 t hN;go_wp2;go_roundw
   case rel=>exact⟨j+1,aZ,cU,GX⟩
   case measure=>simp[aO];omega
  ·have cd:¬(j:Int)<Q z:=aZ;obtain rfl:j=Q z:=aZ;rw[nN,<- HWL.aX]at L;have hg1:=J1 HG.aX (l:=z) λx t=>(HO.aX.2.1 x t).2
   rw[<- HWL.aX]at hg1;obtain⟨hg1,hs1⟩:=hg1;have aEu:=aY (awb hs1);generalize Bg B=B1 at *;have C3:=aY (WS L hg1);rw[aEu.aX]at C3;simp only[DY C]at C3;have sW:=agG HG.aX;have PU:∀m∈fg B,Q m.dU<=1000000:=λm hm=>by have:=(HG.aX.last hm).2.1;omega
   have aEv:=aY (λW' (k:K wr W')=>cH ((GW.aX.fx bC) wr (u.more zS.aX.sub)) k);have Pr:=aY hg1;have Ju:=aY L;have D7:=aY R;have zT:=aY C;have uP:=λx t=>xH (HO.aX.1 x t).1
   have C4:=aY λW' (k:K wr W') vk (hk:bw Aj (fg B) vk W')=>atE op (fg B) _ vk W' (aEv.aX W' k) hk uP fS aZ PU
   clear L hg1 hs1 R C PU uP;go_wp2_with fail
   apply dD C3.aX;rintro vk w6⟨hFk,k6⟩;have JE:=hFk.now;have C5:=aY (C4.aX w6 k6 vk JE);obtain⟨Ak,ck,rfl⟩:=bD JE;clear C3 C4 hFk JE;go_wp2_with fail
   refine C5.aX.mono ?_;rintro e A⟨vy,vn,vz,rfl,L8,JE,k7⟩;have GH:=k6.tr k7;have hB7:=Ju.aX.st GH;have hBl:=Ju.aX.low;have u7:=u.tr (bf.bS GH _);have BL:=k6.size;have HL7:Hid (ky (λk=>M k∨cO p' k) cF op (F A4 (Q op) c4) A):=aY (GW.aX.to u7 zS.aX.sub (λk hk t=>by
    rcases t with h|h
    ·exact h
    ·exact zS.aX.sub k ((D7.aX k h).resolve_right aZ)) bC)
   have HY:=aY L8;have HN:=aY JE;have HBS:=aY (λk (hk:cO p' k)=>cQ (hBl k (aJ hk)) BL);obtain⟨Ay,cy,hy⟩:=bD L8.now;obtain⟨An,cn,hn⟩:=bD JE.now;subst hy hn;have hyl:Q (Gh op (fg B))<=1000000:=cI (ni _ _) fS;have hnl:Q (Fa op (fg B))<=1000000:=by unfold Fa;rw[List.length_map];exact cI (ni _ _) fS
   have LU:=aY u7;have wu:cS (λk=>((M k∨cO p' k)∨aW (F U 0 0)=I k)∨cO p' k) p' B1 A:=hB7.less (λk hk=>aJ hk) λk hk=>by
    rcases hk with (h|h)|h
    ·exact h
    ·simp[Value.ownBlock]at h
    ·exact aJ h
   have lr:=bK.nil (λk=>(M k∨cO p' k)∨Z (D A)<=k) (Z (D A)) 128 cF A;clear C5 L8 JE k7 hB7 hBl u u7;go_wp2_with fail
   go_step3;go_wp2_with fail
   go_loopw [11,13,14,56] (fun o _ _ i wr=>∃(j:Nat) (p'':pH),j<=Q op/\i=G J j/\cS (fun k=>((M k∨cO p' k)∨aW o=I k)∨cO p'' k) p'' ((op.take j).foldl (mP (fg B)) (B1,[])).1 wr/\bf (cO p') A wr/\p''.key=(g,gd)/\(∀k,cO p'' k->cO p' k∨Z (D A)<=k)/\(∀k,aW o=I k->¬cO p'' k)/\bK (fun k=>(M k∨cO p' k)∨Z (D A)<=k) (Z (D A)) 128 cF ((op.take j).foldl (mP (fg B)) (B1,[])).2 o wr) (fun _ _ _ i _=>Q op-(aO i).toNat)
   case atStart=>exact⟨0,p',aZ,rfl,wu,bf.rf _ _,zT.aX,λk hk=>aI hk,λk hk=>ak0,lr⟩
   case round =>
    clear wu lr;obtain⟨j,p2,hj,rfl,L,u,C,R,Ma,O⟩:=hrel;by_cases T:j<Q op
    ·have cd:(j:Int)<Q op:=aZ;obtain⟨b1,o1,c1,cs1,e9,fF,hcl,hF,hcell⟩:=HL7.aX.at j T bC;injection e9 with e9 _ iV;subst e9 iV;have Mb:=aY (fold_succ (mP (fg B)) op (B1,[]) j T);have hm:=HO.aX.1 _ (dG T);have hyh:=aBq (kids:=fg B) (dG T);have PZ:=aCI (kids:=fg B) (dG T);have Y:=MO (kids:=fg B) (p:=(B1,[])) (l:=op.take j) Pr.aX λx t=>(HO.aX.1 x (lB t)).2
     have Vm:=Y.2.2.2;replace Y:=Y.1;generalize op[j]=x at *;generalize (op.take j).foldl (mP (fg B)) (B1,[])=aR at *;obtain⟨P',jz⟩:∃P',Hid (P'=(op.take (j+1)).foldl (mP (fg B)) (B1,[])):=⟨_,aY rfl⟩;replace Mb:Hid (P'=mP (fg B) aR x):=aY (jz.aX.trans Mb.aX);obtain⟨Bj,lj⟩:=aR;simp only at L O Y Vm;have uM:bf (λk=>M k∨cO p' k) A wr:=u.more λk hk=>aJ hk
     have wF:=hcell wr uM;obtain⟨vf,ve,rfl,hf,he⟩:=hF wr uM;have ox:Fx (λk=>(M k∨cO p' k)∨Z (D A)<=k) (λW=>cF.rel x (bQ x vf ve).toList W) wr:=hF.to uM (λ_ h=>h) λk hk t=>t.resolve_right aZ
     have q9:∀i,i<8->wr.cell? ⟨b1,o1+j*8+i,U⟩=(bQ x vf ve)[i]?:=λi hi=>(wF i hi).trans aD
     have q0:wr.cell? ⟨b1,o1+j*8,U⟩=I (G J x.kind):=q9 0 bC;have HE:Hid (∀W,K wr W->fc x (av (bQ x vf ve)) W):=aY λW k=>⟨_,_,rfl,fJ _ _ _ _ hf k,cH he k⟩
     have t:=bn.new wr 128 (bQ x vf ve);have k3:=t.cC;have dt:=O.blk;obtain⟨Af,cf,rfl⟩:=dK hf;obtain⟨Ae,ce,rfl⟩:=bD he;obtain⟨Ao,co,rfl⟩:=O.slice;have Vs:=aY ox;have mf:=u.size;have HYr:=aY (λW' (k:K wr W')=>cH (HY.aX wr (u.more HBS.aX)) k);have HNr:=aY (λW' (k:K wr W')=>cH (HN.aX wr (u.more HBS.aX)) k);have HBr:=aY L;have Vt:=aY u;have T7:=aY C;have JF:=aY R;have Cn:=aY Ma;have HOr:=aY O;have HBL:=aY dt;clear hcell wF hF hcl fF hf he ox uM L u C R Ma O dt;go_upto_region 13 with fail;generalize wr.alloc _=w8 at *;obtain⟨ga,nH⟩:∃ga,Hid (ga=Z (D wr)):=⟨_,aY rfl⟩;rw[<- nH.aX]at t⊢;clear q9 q0;have C6:=aY (Q8 (Gh op (fg B)) _ (ju (bB x)) 218 #[aj (I ⟨ga,0,U⟩)] w8 (HYr.aX w8 k3) hyl (λ_ _=>cY) (λW k y _ u hu=>auD y x u _ _ ga W hu (t.bF k)));have JB:Hid ((Gh op (fg B)).any (ju (bB x))=decide (kZ (fg B) (bB x)=1)):=aY hyh;rw[JB.aX]at C6;clear hyh JB;go_wp2_with fail
     apply dP C6.aX k3;intro w9 k9 xB;have rE:=t.bF k9;have q8:=rE.cell;have hE9:=HE.aX w9 xB;have xy:=HBr.aX.st xB;have mW:=kg T7.aX;have abn:=agH (fg B) (bB x);have Vu:Hid (P'=if kZ (fg B) (bB x)=1 then (if (oG Bj x).2 then ((oG Bj x).1,lj)else (Bj,lj++[x]))else if kZ (fg B) (bB x)=2 then (if (pO Bj (bB x)).2 then ((pO Bj (bB x)).1,lj)else (Bj,lj++[x]))else (Bj,lj++[x])):=aY Mb.aX;clear C6 t Mb;generalize kZ (fg B) (bB x)=sx at *;rcases abn with rfl|rfl|rfl
     ·have HQ:Hid (P'=(Bj,lj++[x])):=aY ZG;have N:=aY λW (k:K w9 W)=>Hd (Fa op (fg B)) (bB x) _ W (HNr.aX W (xB.tr k)) hnl
      rw[PZ]at N;clear Vu PZ;go_wp2_with fail
      apply dP (N.aX w9 (K.rf _)) xB;intro Az Vv Ua;have BG:=HBr.aX.st Ua;have uR:=Vt.aX.tr (bf.bS Ua _);have Gl:=T7.aX;have Gm:=JF.aX;have Gc:=Cn.aX;have pX:=HOr.aX.st Ua;clear N mW;have OK:=rE.bF Vv;have Mc:=OK.cell;have HFa:=aY (Vs.aX.k Ua);have kA:=K.new Az (aq (bQ x (F Af (Q x.f) cf) (F Ae (Q x.es) ce)) 128);have GV:=pX.st kA;have Ub:=pX.blk;have hr:=fL.new (S:=cF) (e:=128) (v:=av (bQ x (F Af (Q x.f) cf) (F Ae (Q x.es) ce))) HFa.aX 0 (eO _);have OL:=BG.st kA;have abo:=uR.size;have Co:=aY (aB BG (aB uR (aB Gl (aB Gm (aB Gc pX)))));have K1:=aY OL;have aEw:Q lj<=1000000:=by simp at Vm;omega
      clear BG uR Gl Gm Gc pX OL xy q8;go_wp2_with (at_builtin;refine kI rfl _ _ 59 rfl _ 8 96 rz rfl rfl GV _ rfl x ?p1 ?p2 ?p3 ?_)
      case p1 => exact ak5
      case p2=>omega
      case p3=>exact cI abo kA.size
      intro v11 Vw Ds zj Iw K2;have aoq:=aY Ds;have hBw:cS (λk=>((M k∨cO p' k)∨aW v11=I k)∨cO p2 k) p2 Bj Vw:=K1.aX.far (X:=λk=>aW (F Ao (Q lj) co)=I k) (bf.gy zj λk e=>e) (λk hk=>aI (aJ hk)) (λk hk=>Co.aX.2.2.2.2.1 k hk) (λk hk h=>by
       rcases h with (h|h)|h
       ·exact aI (aI h)
       ·exact ak6
       ·exact aJ h) (λk hk=>aJ hk) (λk hk=>by
        rcases hk with (h|h)|h
        ·exact ak7
        ·exact (Ds.blk k h).2
        ·exact cQ (K1.aX.low k (aJ h)) zj.size)
      have Oj:∀k,aW v11=I k->¬cO p2 k:=λk hk h=>by exact ak8
      have u11:=(Co.aX.2.1.tr (bf.bS kA _)).iA (bf.gy (X:=λk=>aW (F Ao (Q lj) co)=I k) zj λk e=>e) λk hk h=>by have:=(Ub k h).1;omega
      have HH:=aY (aB hBw (aB u11 (aB Co.aX.2.2.1 (aB Co.aX.2.2.2.1 Oj))));clear hBw u11 Oj hr GV Ds zj Iw K2 Mc OK;go_wp2;go_roundw
      case rel=>exact⟨j+1,p2,aZ,cU,ZH,HH.aX.2.1,HH.aX.2.2.1,HH.aX.2.2.2.1,HH.aX.2.2.2.2,ak9⟩
      case measure=>simp[aO];omega
     ·have N:=aY (afb (M:=λk=>((M k∨cO p' k)∨aW (F Ao (Q lj) co)=I k)∨cO p2 k) xy Y x _ hE9 hm.2 (xH hm.1));simp only[mW]at N;have uQ:Hid ((oG Bj x).2=az->(oG Bj x).1=Bj):=aY aht;clear PZ mW;generalize oG Bj x=LB at *;obtain⟨L1,L2⟩:=LB;simp only at N uQ Vu;go_wp2_with fail
      apply bN N.aX;intro Az hN;obtain⟨p3,sf,u3,kj,P4⟩:=hN;have qA:=xB.size;have uR:=(Vt.aX.tr (bf.bS xB _)).iA u3 λk hk h=>(JF.aX k h).resolve_right aZ
      have Gm:∀k,cO p3 k->cO p' k∨Z (D A)<=k:=λk hk=>by exact ala
      have Gc:∀k,aW (F Ao (Q lj) co)=I k->¬cO p3 k:=λk hk h=>by exact alb
      have pX:=(HOr.aX.st xB).to (Y':=λk=>(M k∨cO p' k)∨Z (D A)<=k) u3 (λk hk=>(JF.aX k hk).imp aJ id) (λk hk h=>Cn.aX k hk h) λk _ hk=>aI hk
      have BG:cS (λk=>((M k∨cO p' k)∨aW (F Ao (Q lj) co)=I k)∨cO p3 k) p3 L1 Az:=sf.less (λk hk=>aJ hk) λk hk=>by exact alc
      have Gl:=kj.trans T7.aX;clear N;exact ald
     ·have N:=aY λW (k:K w9 W)=>Hd (Fa op (fg B)) (bB x) _ W (HNr.aX W (xB.tr k)) hnl
      rw[PZ]at N;clear PZ;go_wp2_with fail
      apply bN (N.aX w9 (K.rf _));intro w9' k9';replace xB:=xB.tr k9';replace rE:=rE.bF k9';replace q8:=rE.cell;replace xy:=xy.st k9';have C8:=aY (asL (M:=λk=>((M k∨cO p' k)∨aW (F Ao (Q lj) co)=I k)∨cO p2 k) xy Y (bB x) ⟨hm.2.2.1,hm.2.2.2.2.1,hm.2.2.2.2.2.1⟩);simp only[mW]at C8;have uQ:Hid ((pO Bj (bB x)).2=az->(pO Bj (bB x)).1=Bj):=aY λh=>by
       unfold pO at h⊢;split
       ·rename_i hh;rw[bT hh]at h;cases h
       ·rfl
      clear mW N;generalize pO Bj (bB x)=LB at *;obtain⟨L1,L2⟩:=LB;simp only at C8 uQ Vu;go_wp2_with fail
      apply bN C8.aX;intro Az hN;obtain⟨p3,sf,u3,kj,P4⟩:=hN;have qA:=xB.size;have uR:=(Vt.aX.tr (bf.bS xB _)).iA u3 λk hk h=>(JF.aX k h).resolve_right aZ
      have Gm:∀k,cO p3 k->cO p' k∨Z (D A)<=k:=λk hk=>by exact ala
      have Gc:∀k,aW (F Ao (Q lj) co)=I k->¬cO p3 k:=λk hk h=>by exact alb
      have pX:=(HOr.aX.st xB).to (Y':=λk=>(M k∨cO p' k)∨Z (D A)<=k) u3 (λk hk=>(JF.aX k hk).imp aJ id) (λk hk h=>Cn.aX k hk h) λk _ hk=>aI hk
      have BG:cS (λk=>((M k∨cO p' k)∨aW (F Ao (Q lj) co)=I k)∨cO p3 k) p3 L1 Az:=sf.less (λk hk=>aJ hk) λk hk=>by exact alc
      have Gl:=kj.trans T7.aX;clear C8;exact ald
    ·have cd:¬(j:Int)<Q op:=aZ;obtain rfl:j=Q op:=aZ;rw[nN,<- HWD.aX]at L O;have uf:=LU.aX.iA u λk hk h=>(D7.aX k h).resolve_right aZ
     have GY:=LU.aX.size;have hX9:∀k,cO p2 k->cO ⟨g,gl,gd,gr,gt,vd,vr,vp,vh,F Al (Q B.st.list) cl,F Aq (Q B.st.prom) cq,F Aa (Q B.st.ab) ca,vt,mh,F Aw (Q B.waits) cw,kr⟩ k∨Z (D W)<=k:=λk hk=>by
      rcases R k hk with h|h
      ·exact D7.aX k h
      ·exact aJ aZ
     obtain⟨Ao,co,rfl⟩:=O.slice;have dt:=O.blk;have hMl:=HM.aX;have oV:=Vr.aX.size;have aor:ky (λk=>M k∨cO p2 k) cF (pR B).2 _ wr:=O.Jw (λk hk=>by
      rcases hk with h|h
      ·exact aI (aI (aI h))
      ·rcases R k h with h|h
       ·exact aI (aI (aJ h))
       ·exact aI (aJ h)) (λk hk h=>by
        rcases h with h|h
        ·have:=hMl k h;have:=(dt k hk).1;have:=LU.aX.size;omega
        ·exact Ma k hk h)
     have hb2:cS (λk=>M k∨cO p2 k) p2 (pR B).1 wr:=L.less (λk hk=>aJ hk) λk hk=>by
      rcases hk with h|h
      ·exact aI (aI (aI h))
      ·exact aJ h
     have hfin:=hb2.aD7 (aor.fx bC);have u9:bf (cO p2) wr (aV wr ⟨p2.g,13,U⟩ (F Ao (Q (pR B).2) co)):=bf.dc (X:=cO p2) (aI rfl) 13 _;have HF:Hid (∀W9,W9=wr.setCell ⟨p2.g,13,U⟩ (F Ao (Q (pR B).2) co)->cS (λk=>M k∨cO p2 k) { p2 with vw:=F Ao (Q (pR B).2) co } { (pR B).1 with waits:=(pR B).2 } W9):=aY λW9 e=>e▸hfin
     rw[kg C]at u9;have Jf:=aY (uf.iA u9 λk hk h=>(hX9 k h).resolve_right aZ);have HX9:=aY hX9;have aos:=aY C;have qg:=hb2.blk.cell;have zg:=hb2.blk.frozen;rw[kg C]at qg zg;clear L R Ma O dt hMl oV aor hb2 hfin u9 uf hX9 C u GY;go_wp2;first|go_end0|(rw[Exit.noGoto_normal];go_end0)|(simp only[Exit.noGoto];go_end0)
     refine⟨rfl,?_⟩;rw[LC.aX];have hN:eX M ⟨g,gl,gd,gr,gt,vd,vr,vp,vh,F Al (Q B.st.list) cl,F Aq (Q B.st.prom) cq,F Aa (Q B.st.ab) ca,vt,mh,F Aw (Q B.waits) cw,kr⟩ { (pR B).1 with waits:=(pR B).2 } W (aV wr ⟨g,13,U⟩ (F Ao (Q (pR B).2) co)):=⟨{ p2 with vw:=F Ao (Q (pR B).2) co },HF.aX _ (by rw[kg aos.aX]),Jf.aX,aos.aX,HX9.aX⟩;exact hN.zW Vr.aX λk hk=>HM.aX k (zS.aX.sub k hk)
structure wG(M:Nat->Prop)(p:pH)(w w9:aP)(o9:aQ)(p2:pH)(B:cJ)(l:List cB)(o:aQ)(W:aP):Prop where
 br:cS (λk=>(M k∨aW o=I k)∨cO p2 k) p2 B W
 uw:bf (cO p) w W
 u9:bf (λk=>cO p k∨aW o9=I k) w9 W
 key:p2.key=p.key
 new:∀k,cO p2 k->cO p k∨Z (D w9)<=k
 no:∀k,aW o=I k->¬cO p2 k
 Vx:∀k,aW o=I k->aW o9=I k∨Z (D w9)<=k
 own:bK (λ_=>True) (Z (D w)) 42 dJ l o W
 hz:Z (D w)<=Z (D w9)
 low:∀k,cO p k->k<Z (D w)
 Uc:∀k,M k->k<Z (D w)
section
variable {M:Nat->Prop} {p p2:pH} {w w9 W W':aP} {o9 o:aQ} {B B':cJ} {l l':List cB}
theorem bK.anw{Y base e}(h:bK Y base e dJ l o W):bK (λ_=>True) base e dJ l o W:=by obtain⟨css,y,j,t⟩:=h;exact⟨css,y,j,λ_ _=>t W (bf.rf _ _)⟩
theorem bK.aot{N base e}(h:bK (λ_=>True) base e dJ l o W)(u:bf N W W')(B:∀k,aW o=I k->¬N k):bK (λ_=>True) base e dJ l o W':=by obtain⟨css,y,t,A⟩:=h;exact⟨css,ke y u B,t,λj z=>A j ((u.more λ_ _=>aI trivial).tr z)⟩
theorem wG.start(h:cS M p B w)(k:K w w9)(z:bK (λ_=>True) (Z (D w)) 42 dJ l o9 w9):wG M p w w9 o9 p B l o9 w9:=by
 have:=z.blk;have A:=λk hk=>h.low k (h.sub k hk)
 refine⟨h.far (X:=λ_=>False) (bf.bS k _) (λ_ h=>h.elim) (λ_ h=>h.elim) (λj t y=>?_) (λj t=>aJ t) (λj t=>?_),bf.bS k _,bf.rf _ _,rfl,λ_ h=>aI h,λj t y=>bG,λ_ h=>aI h,z,k.size,A,h.low⟩
 ·rcases y with (y|y)|y
  ·exact y
  ·grind
  ·exact h.sub j y
 ·rcases t with (t|t)|t
  ·exact cQ (h.low j t) k.size
  ·grind
  ·exact cQ (A j t) k.size
theorem wG.st(h:wG M p w w9 o9 p2 B l o W)(k:K W W'):wG M p w w9 o9 p2 B l o W' :=
 ⟨h.br.st k,h.uw.tr (bf.bS k _),h.u9.tr (bf.bS k _),h.key,h.new,h.no,h.Vx,h.own.st k,h.hz,h.low,h.Uc⟩
theorem wG.note(h:wG M p w w9 o9 p2 B l o W)(A:eX (λk=>(M k∨aW o=I k)∨cO p2 k) p2 B' W W'):∃p3,wG M p w w9 o9 p3 B' l o W':=by
 obtain⟨p3,z,u,hg,y⟩:=A;have:=h.u9.size;have:=h.hz;have:=h.own.blk;refine⟨p3,z.less (λk hk=>aJ hk) (λk hk=>hk.imp aI λh=>h),h.uw.iA u λk hk j=>(h.new k j).resolve_right aZ,h.u9.iA u λk hk j=>(h.new k j).imp (λh=>h) λh=>aZ,hg.trans h.key,λk hk=>?_,λk hk j=>?_,h.Vx,h.own.aot u λk hk=>h.no k hk,h.hz,h.low,h.Uc⟩
 ·rcases y k hk with t|t
  ·exact h.new k t
  ·omega
 ·rcases y k j with t|t
  ·exact h.no k hk t
  ·grind
theorem wG.push(h:wG M p w w9 o9 p2 B l o W){o'}(y:bK (λ_=>True) (Z (D w)) 42 dJ l' o' W')(hg:W.grownBy W' (aW o))(L:aW o'=aW o∨aW o'=I (Z (D W))):wG M p w w9 o9 p2 B l' o' W':=by
 have u:=bf.gy hg λk e=>e
 have:=h.own.blk;have:=y.blk;have:=h.u9.size;have z:∀k,aW o'=I k->aW o=I k∨Z (D W)<=k:=λk hk=>by
  grind
 refine⟨h.br.far u (λk hk=>aI (aJ hk)) (λk hk=>h.no k hk) (λk hk j=>?_) (λk hk=>aJ hk) (λk hk=>?_),h.uw.iA u λk hk j=>bG,h.u9.iA u λk hk j=>(h.Vx k j).elim aJ λh=>aZ,h.key,h.new,λk hk j=>?_,λk hk=>?_,y,h.hz,h.low,h.Uc⟩
 ·grind
 ·rcases hk with (hk|hk)|hk
  ·exact cQ (h.br.low k (aI (aI hk))) u.size
  ·grind
  ·exact cQ (h.br.low k (aJ hk)) u.size
 ·rcases z k hk with t|t
  ·exact h.no k t j
  ·have:=h.br.low k (aJ j);omega
 ·rcases z k hk with t|t
  ·exact h.Vx k t
  ·omega
theorem wG.fin(h:wG M p w w9 o9 p2 B l o W):eX M p { B with refused:=l } w (aV W ⟨p.g,11,U⟩ o):=by
 have hg:=DY h.key;have y:=h.own.blk;have z:Fx (λk=>M k∨cO p2 k) (λW=>bw dJ l o W) W:=λW' u=>(h.own.aot u λk hk j=>by
  rcases j with j|j
  ·have:=(y k hk).1;have:=h.Uc k j;omega
  ·exact h.no k hk j).bw
 have hb:cS (λk=>M k∨cO p2 k) p2 B W:=h.br.less (λk hk=>aJ hk) λk hk=>hk.imp aI λh=>h
 have hp:=hb.aD8 z;rw[<- hg];have A:∀k,cO { p2 with vf:=o } k->cO p2 k:=λk hk=>hk
 refine⟨{ p2 with vf:=o },hp,h.uw.iA (bf.dc (X:=λk=>k=p2.g) rfl 11 o) λk hk e=>aI (e.trans hg),h.key,λk hk=>?_⟩;rcases h.new k (A k hk)with t|t
 ·exact aI t
 ·have:=h.hz;exact aJ aZ
end
def yj(told:List cB)(p:List cB×List bW)(x:bW):List cB×List bW:=if fD told (bB x)then (p.1++[bB x],p.2)else (p.1,p.2++[x])
theorem aCJ B l:l.foldl (yj B.told) ([],[])=(vQ B l,nU B l):=by
 have key:∀(l:List bW) (p:List cB×List bW),l.foldl (yj B.told) p=(p.1++vQ B l,p.2++nU B l):=by
  intro l
  induction l with
  | nil=>intro p;simp[vQ,nU]
  | cons x l j =>
   grind [yj,vQ,nU,fD,bB]
 simpa using key l ([],[])
theorem aBr told:∀(l:List bW) (p:List cB×List bW),Q (l.foldl (yj told) p).1<=Q p.1+Q l/\Q (l.foldl (yj told) p).2<=Q p.2+Q l:=by
 intro l
 induction l with
 | nil=>intro p;simp
 | cons x l j =>
  grind [yj]
theorem aeT{s y}:∀ {l:List bW} {p:List bW×List cB},y∈(l.foldl (lJ s) p).1->y∈p.1∨y∈l:=by
 intro l
 induction l with
 | nil=>intro p h;exact aI h
 | cons x l j =>
  grind [lJ]
theorem agJ{B r}(h:(fk B r).2=az):(fk B r).1=B:=by
 grind [fk]
theorem auL{p x}(h:cX p.1)(j:dQ x):cX (kJ p x).1:=by
 unfold kJ;split
 ·exact J0 h ⟨SR,FR,j,SR,FR,FR⟩
 ·exact h
theorem afU{l:List bW}:∀ {p:cJ×List cB},cX p.1->(∀x∈l,dQ x)->cX (l.foldl kJ p).1/\Q (l.foldl kJ p).2<=Q p.2+Q l:=by
 induction l with
 | nil=>intro p h _;exact⟨h,bq⟩
 | cons x l j =>
  grind [auL,kJ,fY]
theorem asg{M p B w}(h:cS M p B w)(hG:cX B) l va(hl:Fx M (λW=>bw cF l va W) w)(hok:∀x∈l,dm x=aA/\dQ x)(hlen:Q l<=16) :
 aK prog 250 #[aj (I ⟨p.g,0,U⟩),va] w λe w'=>e=ak (au #[])/\eX M p (vH B l) w w':=by
 have HR:Hid (vH B l={ (tE B l).1 with refused:=(tE B l).2 }):=aY rfl
 have HPD:Hid (tE B l=(pK B.st (nU B l)).1.foldl kJ (B,vQ B l++(pK B.st (nU B l)).2)):=aY rfl
 have HME:=aY (aCJ B l)
 have BC:=aY λj=>aBr B.told (l.take j) ([],[])
 have j8:=aY hok
 have H:=aY h
 have HG:=aY hG
 have Q1:=aY λW (k:K w W) a=>(Ej TU underlying160 (Y9 W) (h.yJ.st k) a).1
 simp only[afK]at Q1
 have PN:=KE hl.now
 have hs1:=bD h.df.now.list
 have gH:=bD h.df.now.prom
 have iI:=bD h.df.now.ab
 have hs4:=bD h.df.now.ie
 have CP:=aY λW (k:K w W) ml vm (hm:bw cF ml vm W) (X:∀x∈ml,fX x) (h2:Q ml<=500000)=>asO B.st ml p.vl p.vq p.va vm W ⟨_,_,_,rfl,(h.df.at k).list,(h.df.at k).prom,(h.df.at k).ab⟩ hm X ⟨Eu,Eu,Eu⟩ h2
 have q:=h.q
 generalize vH B l=R at *
 obtain⟨g,gl,gd,gr,gt,vd,vr,vp,vh,vl,vq,vab,vt,mh,vw,kr⟩:=p
 simp only at q Q1 hs1 gH iI hs4 CP
 obtain⟨Al,cl,rfl⟩:=hs1
 obtain⟨Aq,cq,rfl⟩:=gH
 obtain⟨Ab,cb,rfl⟩:=iI
 obtain⟨Ar,cr,rfl⟩:=hs4
 obtain⟨A,c,rfl⟩:=PN.slice
 have HLA:=aY PN
 obtain⟨P5,abp⟩:∃n:Nat,Hid (n=0):=⟨0,aY rfl⟩
 have Uu:nz P5 (Z (D w)) 42 dJ ([]:List cB) (F U 0 0) 128 cF ([]:List bW) (F U 0 0) w:=nz.aa2 (bK.nil _ _ _ _ _) (by rw[abp.aX];exact eO _)
 have kk:=K.rf w
 go_in
 go_wp2_with fail
 go_loopw [5,6,8,9,10,19] (fun o1 o2 _ _ _ i W=>∃j:Nat,j<=Q l/\i=G J j/\nz P5 (Z (D w)) 42 dJ ((l.take j).foldl (yj B.told) ([],[])).1 o1 128 cF ((l.take j).foldl (yj B.told) ([],[])).2 o2 W/\K w W) (fun _ _ _ _ _ i _=>Q l-(aO i).toNat)
 case atStart=>exact⟨0,aZ,rfl,by simpa using Uu,kk⟩
 case round =>
  obtain⟨j,hj,rfl,T,kV⟩:=hrel;by_cases hlt:j<Q l
  ·have cd:(j:Int)<Q l:=aZ;obtain⟨b1,off,c1,cs1,e9,fF,jU,hF,hcell⟩:=HLA.aX.at j hlt bC;injection e9 with e9 _ iV;subst e9 iV;have HF:=aY (fold_succ (yj B.told) l ([],[]) j hlt);have hpl:=BC.aX j;generalize l[j]=x at *;generalize (l.take j).foldl (yj B.told) ([],[])=P at *;obtain⟨L,jz⟩:∃L,Hid (L=(l.take (j+1)).foldl (yj B.told) ([],[])):=⟨_,aY rfl⟩;replace HF:Hid (L=yj B.told P x):=aY (jz.aX.trans HF.aX);have KZ:Q P.1<=500000:=NP;have OG:Q P.2<=500000:=NP;obtain⟨P1,P2⟩:=P;simp only at T KZ OG;have uM:bf (λk=>Z (D w)<=k) w wr:=bf.bS kV _;have wF:=hcell wr uM;have Vs:=aY hF;obtain⟨vf,ve,rfl,hf,he⟩:=hF wr uM;have q9:∀i,i<8->wr.cell? ⟨b1,off+j*8+i,U⟩=(bQ x vf ve)[i]?:=λi hi=>(wF i hi).trans aD
   have q0:wr.cell? ⟨b1,off+j*8,U⟩=I (G J x.kind):=q9 0 bC;have t:=bn.new wr 128 (bQ x vf ve);have k3:=t.cC;obtain⟨Af,cf,rfl⟩:=dK hf;obtain⟨Ae,ce,rfl⟩:=bD he;obtain⟨A1,c1',rfl⟩:=T.a.slice;obtain⟨A3,c3,rfl⟩:=T.b.slice;go_upto_region 6 with fail;have PO:=T.st k3;have eD:=kV.tr k3;generalize wr.alloc _=w3 at *;have q8:=t.cells;have q1:=λW (k:K w3 W)=>q W (eD.tr k)
   obtain⟨vz,hvz⟩:∃vz,vz=(eA (rT B.told) (bB x)).getD (G J 0):=⟨_,rfl⟩;have ql:∀W,K w3 W->(Instr.lookup 160 (.map (I gt)) (av #[G J x.br,G E x.life,G E x.dN]) aA).run prog W=.ok (au #[vz,ar (fD B.told (bB x))]) W:=λW k=>by rw[hvz];exact Q1.aX W (eD.tr k) (bB x)
   have qs:=aB q1 (aB q8 ql);refine eQ 12 ?_;iterate 12 refine bA.i ?_
   intro V W kW hA;simp only[bU,bZ,dx,bM,Nat.reduceAdd]at hA;refine bJ.h ?_;have D6:=PO.st kW;have jo:=eD.tr kW;have dV:=t.bF kW;have wy:=D6.a.blk;have gB:=D6.b.blk;generalize W=Y at *;have q9:=dV.cell;cases ht:fD B.told (bB x)
   ·have HP:Hid (L=(P1,P2++[x])):=aY ale;have ox:Fx (λk=>(k<P5∨aW (F A1 (Q P1) c1')=I k)∨aW (F A3 (Q P2) c3)=I k) (λW=>cF.rel x (av (bQ x (F Af (Q x.f) cf) (F Ae (Q x.es) ce))).cells.toList W) Y:=λW' u=>Vs.aX W' ((bf.bS jo _).iA u λk hk h=>by
     rcases h with (h|h)|h
     ·have:=abp.aX;omega
     ·exact (wy k h).1
     ·exact (gB k h).1)
    have hr:=fL.new (S:=cF) (e:=128) (v:=av (bQ x (F Af (Q x.f) cf) (F Ae (Q x.es) ce))) ox 0 (eO _);have kA:=K.new Y (aq (bQ x (F Af (Q x.f) cf) (F Ae (Q x.es) ce)) 128);have tX:=D6.st kA;have kp:=jo.tr kA;have qA:=kp.size;go_wp2_with (at_builtin;refine kI rfl _ _ 59 rfl _ 8 96 rz rfl rfl tX.b _ rfl x ?p1 ?p2 ?p3 ?_)
    case p1=>exact hr
    case p2=>omega
    case p3=>simpa using qA
    exact Zx
   ·have HP:Hid (L=(P1++[bB x],P2)):=aY ale;have hr:=fL.new (S:=dJ) (e:=42) (x:=bB x) (v:=av (dZ (bB x))) (w:=Y) (N:=λk=>(k<P5∨aW (F A3 (Q P2) c3)=I k)∨aW (F A1 (Q P1) c1')=I k) (λW u=>rfl) 0 (eO _);have kA:=K.new Y (aq (dZ (bB x)) 42);have tX:=D6.st kA;have kp:=jo.tr kA;have qA:=kp.size;go_wp2_with (at_builtin;refine kI rfl _ _ 53 rfl _ 3 24 wg rfl rfl tX.a _ rfl (bB x) ?p1 ?p2 ?p3 ?_)
    case p1=>exact hr
    case p2=>omega
    case p3=>simpa using qA
    exact alf
  ·have cd:¬(j:Int)<Q l:=aZ;obtain rfl:j=Q l:=aZ;rw[nN,HME.aX]at T;simp only at T;have yq:∀x∈nU B l,dm x=aA/\dQ x:=λx t=>j8.aX x (List.mem_filter.1 t).1
   have zx:Q (nU B l)<=16:=cI (ni _ _) hlen;have Vy:Q (vQ B l)<=16:=by unfold vQ;rw[List.length_map];exact cI (ni _ _) hlen
   have C2:=aY (CP.aX wr kV (nU B l) _ T.b.bw (λx t=>xH (yq x t).1) aZ);have hpm:∀y∈(pK B.st (nU B l)).1,dm y=aA/\dQ y:=λy hy=>yq y ((aeT hy).resolve_left bq)
   have hpn:=afh B.st (nU B l) ([],[]);have HPM:=aY hpm;obtain⟨A3,c3,e3⟩:=T.b.slice;have hTa:=T.a;have sf:=λk hk=>(T.b.blk k (e3▸hk)).2
   generalize vQ B l=rB at *;generalize nU B l=mB at *;have P6:Q (pK B.st mB).1<=16:=alg;have qG:Q (pK B.st mB).2<=16:=alg;generalize pK B.st mB=PV at *;obtain⟨C,PV2⟩:=PV;simp only at C2 HPD HPM P6 qG;have q1:=q wr kV;subst e3;obtain⟨A1,c1',rfl⟩:=hTa.slice;generalize wr=w5 at *;go_wp2_with fail
   refine C2.aX.mono ?_;rintro e w6⟨v1,v2,rfl,xA,k6⟩;have Fl:=hTa.st k6;have wy:=hTa.blk;have tQ:=kV.size;have cD:=xA.a.blk;have hb2:=xA.b.blk;have jL:ky (λk=>(k<P5∨aW (F A3 (Q mB) c3)=I k)∨aW (F A1 (Q rB) c1')=I k) dJ PV2 v2 w6:=xA.b.anw.Jw (λ_ _=>aI trivial) λk hk t=>by
    have X:=(hb2 k hk).1;rcases t with (t|t)|t
    ·have:=abp.aX;omega
    ·have:=Fl.slice;exact absurd X (by have:=sf k t;omega)
    ·have:=(wy k t).2;omega
   have k06:=kV.tr k6;obtain⟨Av1,cv1,e1⟩:=xA.a.slice;have aEx:=xA.a;go_wp2_with (at_builtin;refine Q7 rfl _ _ 53 rfl _ 3 24 wg rfl rfl Fl _ rfl jL ?p2 ?p3 ?_)
   case p2=>omega
   case p3=>exact k06.size
   intro v9 w9 cR dF fO cN;have k09:=k06.trans cN;have z:=wG.start H.aX k09 cR.anw;have u19:=bf.gy dF λk e=>e
   have Cm:=aEx.to (Y':=λk=>k<Z (D w5)∨Z (D w6)<=k) u19 (λk hk=>aI (wy k hk).2) (λk X h2=>by have:=(cD k X).1;have:=(wy k h2).2;omega) (λk X hk=>hk.elim (λh=>aI (aI h)) λh=>aZ);have HV1:=aY (Cm.Jw (N:=λk=>cO ⟨g,gl,gd,gr,gt,vd,vr,vp,vh,F Al (Q B.st.list) cl,F Aq (Q B.st.prom) cq,F Ab (Q B.st.ab) cb,vt,F Ar (Q B.refused) cr,vw,kr⟩ k∨aW v9=I k) (λk hk=>aI (by
    rcases hk with hk|hk
    ·have:=z.low k hk;exact aI aZ
    ·rcases fO with e|e
     ·exact aI ((wy k (e▸hk)).2)
     ·rw[e]at hk;injection hk with hk;exact aJ aZ)) λk X hk=>by
    have:=cD k X;rcases hk with hk|hk
    ·have:=z.low k hk;omega
    ·rcases fO with e|e
     ·have:=(wy k (e▸hk)).2;omega
     ·rw[e]at hk;injection hk with hk;omega)
   subst e1;obtain⟨O,Pn⟩:∃O,Hid (O=rB++PV2):=⟨_,aY rfl⟩;rw[<- Pn.aX]at cR z;have hl9:Q O<=32:=by rw[Pn.aX];simp;omega
   have aEy:Hid (tE B l=C.foldl kJ (B,O)):=aY (by rw[HPD.aX,Pn.aX]);obtain⟨A9,c9,rfl⟩:=cR.slice;obtain⟨P0,GA⟩:∃P0:pH,Hid (P0=⟨g,gl,gd,gr,gt,vd,vr,vp,vh,F Al (Q B.st.list) cl,F Aq (Q B.st.prom) cq,F Ab (Q B.st.ab) cb,vt,F Ar (Q B.refused) cr,vw,kr⟩):=⟨_,aY rfl⟩;rw[<- GA.aX]at z HV1;have U0:Hid (P0.g=g):=aY (by rw[GA.aX]);go_wp2_with fail
   go_loopw [5,14,58] (fun o _ i W=>∃(j:Nat) (p2:pH),j<=Q C/\i=G J j/\wG M P0 w w9 (F A9 (Q O) c9) p2 ((C.take j).foldl kJ (B,O)).1 ((C.take j).foldl kJ (B,O)).2 o W) (fun _ _ i _=>Q C-(aO i).toNat)
   case atStart=>exact⟨0,P0,aZ,rfl,by simpa using z⟩
   case round =>
    obtain⟨j,p2,hj,rfl,z⟩:=hrel;have mW:=(DY z.key).trans U0.aX;have HP:=aY z;by_cases hlt:j<Q C
    ·have cd:(j:Int)<Q C:=aZ;obtain⟨b1,o1,c1,cs1,e9,fF,jU,hF,hcell⟩:=HV1.aX.at j hlt bC;injection e9 with e9 _ iV;subst e9 iV;have HF:=aY (fold_succ kJ C (B,O) j hlt);have hm:=HPM.aX _ (dG hlt);have yQ:=afU (p:=(B,O)) HG.aX (l:=C.take j) λx t=>(HPM.aX x (lB t)).2
     generalize C[j]=x at *;generalize (C.take j).foldl kJ (B,O)=P at *;obtain⟨L,jz⟩:∃L,Hid (L=(C.take (j+1)).foldl kJ (B,O)):=⟨_,aY rfl⟩;replace HF:Hid (L=kJ P x):=aY (jz.aX.trans HF.aX);obtain⟨Bj,rj⟩:=P;simp only at z HP yQ;have hrl:Q rj<=100:=by have:=yQ.2;simp at this;omega
     have wF:=hcell wr z.u9;obtain⟨vf,ve,rfl,hf,he⟩:=hF wr z.u9;have q9:∀i,i<8->wr.cell? ⟨b1,o1+j*8+i,U⟩=(bQ x vf ve)[i]?:=λi hi=>(wF i hi).trans aD
     have q0:wr.cell? ⟨b1,o1+j*8,U⟩=I (G J x.kind):=q9 0 bC;have t:=bn.new wr 128 (bQ x vf ve);have k3:=t.cC;have Ca:∀W,K wr W->si (xm x) (av (gP (xm x) vf ve)) W:=λW k=>⟨_,_,rfl,fJ _ _ _ _ hf k,cH he k⟩
     obtain⟨Af,cf,rfl⟩:=dK hf;obtain⟨Ae,ce,rfl⟩:=bD he;have zH:=aY Ca;obtain⟨Ao,co,rfl⟩:=z.own.slice;go_upto_region 16 with fail;have P7:=z.st k3;generalize wr.alloc _=w3 at *;have hxe:¬cO p2 (Z (D wr)):=λh=>by have:=z.br.low _ (aJ h);omega
     generalize Fj:Z (D wr)=gx at *;have q8:=t.cell;have C3:=aY (MG P7.br yQ.1 (xm x) _ (zH.aX w3 k3) ⟨SR,FR,hm.2,SR,FR,FR⟩ (xH hm.1));simp only[mW]at C3;have uQ:Hid ((fk Bj (xm x)).2=az->(fk Bj (xm x)).1=Bj):=aY agJ;have Md:Hid (L=if (fk Bj (xm x)).2 then ((fk Bj (xm x)).1,rj)else (Bj,rj++[bB x])):=aY HF.aX;generalize fk Bj (xm x)=NB at *;obtain⟨N1,N2⟩:=NB;simp only at C3 uQ Md;go_wp2_with fail
     apply bN C3.aX;intro Y hN;obtain⟨p3,P8⟩:=P7.note hN;obtain⟨_,_,uN,_⟩:=hN;have dV:=t.cA uN hxe;cases N2
     ·have Ma:=uQ.aX rfl;subst Ma;have HQ:Hid (L=(N1,rj++[bB x])):=aY (by rw[Md.aX];rfl);have Mc:=dV.cell;have hr:=fL.new (S:=dJ) (e:=42) (x:=bB x) (v:=av (dZ (bB x))) (w:=Y) (N:=λk=>True∨aW (F Ao (Q rj) co)=I k) (λW u=>rfl) 0 (eO _);have kA:=K.new Y (aq (dZ (bB x)) 42);have hP5:=P8.st kA;have fu:=hP5.own;have tQ:=hP5.uw.size;go_wp2_with (at_builtin;refine kI rfl _ _ 53 rfl _ 3 24 wg rfl rfl fu _ rfl (bB x) ?p1 ?p2 ?p3 ?_)
      case p1=>exact hr.less λk _=>aI trivial
      case p2=>omega
      case p3=>simpa using tQ
      intro v9 Az cR dF fO cN;have GS:=hP5.push (cR.less λ_ _=>trivial) dF vE;go_wp2;go_roundw
      case rel=>exact⟨j+1,p3,aZ,cU,by rw[<- jz.aX,HQ.aX];exact GS⟩
      case measure=>simp[aO];omega
     ·have HQ:Hid (L=(N1,rj)):=aY (by rw[Md.aX];rfl);go_wp2;go_roundw
      case rel=>exact⟨j+1,p3,aZ,cU,by rw[<- jz.aX,HQ.aX];exact P8⟩
      case measure=>simp[aO];omega
    ·have cd:¬(j:Int)<Q C:=aZ;obtain rfl:j=Q C:=aZ;rw[nN,<- aEy.aX]at z;have xy:=z.fin;rw[U0.aX]at xy;obtain⟨Ao,co,e8⟩:=z.own.slice;have qg:=z.br.blk.cell;have zg:=z.br.blk.frozen;rw[mW]at qg zg;subst e8;have U6:=aY xy;rw[GA.aX]at U6;go_wp2;go_end0;refine⟨rfl,?_⟩;rw[HR.aX];exact U6.aX
theorem aeC{M p B w}(h:cS M p B w)(hG:cX B) a(fa:dX a) S C(hb:bn w S 114 #[aj (I ⟨p.g,0,U⟩)])(hn:bn w C 226 #[.func (.func 247) #[aj (I ⟨p.g,0,U⟩)] #[]]) :
 aK prog 248 #[di a,aj (I ⟨S,0,U⟩),aj (I ⟨C,0,U⟩)] w λe w'=>e=ak (au #[])/\eX M p (lA B a) w w':=by
 have L:Hid (lA B a=if dI B.st.prom a then (fk B (lE 5 a)).1 else B):=aY rfl
 have hlo:=λk hk=>h.low k (h.sub k hk)
 have t:=bn.new w 42 (dZ a)
 have k1:=t.cC
 have z:=hb.bF k1
 have y:=hn.bF k1
 have H:=aY h
 have yC:=aY hlo
 have A:=aY λW (k:K w W)=>Mv B.st a (av (dY B.st p.vl p.vq p.va)) W ⟨_,_,_,rfl,(h.df.at k).list,(h.df.at k).prom,(h.df.at k).ab⟩ Eu
 have Ca:∀W,si (lE 5 a) (av (gP (lE 5 a) (F U 0 0) (F U 0 0))) W:=λW=>⟨_,_,rfl,⟨U,0,rfl,Reads.nil _ _ _ _⟩,gN _ _⟩
 have C2:=aY λW (k:K w W)=>MG (h.st k) hG (lE 5 a) _ (Ca W) (XP tg fa) ⟨by simp[lE,fo],by simp[lE,fo],by simp[lE,fo]⟩
 have Y:=bD h.df.now.list
 have O:=bD h.df.now.prom
 have T:=bD h.df.now.ab
 have q:=h.q
 generalize lA B a=R at *
 obtain⟨g,gl,gd,gr,gt,vd,vr,vp,vh,vl,vq,va,vt,vf,vw,kr⟩:=p
 simp only at q A C2 Y O T z y
 obtain⟨Al,cl,rfl⟩:=Y
 obtain⟨Ap,cp,rfl⟩:=O
 obtain⟨Aa,ca,rfl⟩:=T
 go_in
 go_upto_region 1 with fail
 generalize w.alloc _=w1 at *
 generalize Z (D w)=ga at t⊢
 have qa:=t.cells
 have N:=z.cells
 have X:=λW (k:K w1 W)=>q W (k1.tr k)
 have qs:=aB X (aB qa N)
 refine eQ 6 ?_
 iterate 5 refine bA.i ?_
 refine bA.is (ar (dI B.st.prom a)) (λV W kW hp=>?_) ?_
 ·(try simp only[dE,bU,bZ,dA,dB,bM]at hp)
  simp[dC,bP,aC,hp,eH,aL,bR,bM,X,qa,N,go_sem];apply bN (A.aX W (k1.tr kW));intro w4 k4;grind
 intro V W kW hA
 simp only[bU,bZ,dx,bM,Nat.reduceAdd]at hA
 refine bJ.h ?_
 have j:=k1.tr kW
 have:=y.cells W kW
 generalize W=w2 at *
 cases hp:dI B.st.prom a
 ·have HF:Hid (R=B):=aY (by rw[L.aX,hp];rfl);have HN:=aY (H.aX.n j);go_wp2;go_end0;exact ZF
 ·have HF:Hid (R=(fk B (lE 5 a)).1):=aY (by rw[L.aX,hp];rfl);have C3:=aY (C2.aX w2 j);go_wp2_with fail
  apply bN C3.aX;intro w3 hN;have HN:=aY (hN.zW j yC.aX);go_wp2;go_end0;exact ZF
theorem XQ{α}[DecidableEq α]{k}:∀ {bu:List (α×aQ)} {i:Nat},(∀p∈bu,p.1≠k)->iG k bu i=U
 | [],_,_=>rfl
 | p :: r,i,h=>by unfold iG;have j:=h p bq;simp only[j,if_false];exact XQ λq t=>h q (by simp[t])
theorem awc{l a}(h:fD l a=az):uo (rT l) a (G J (Q l))=rT (l++[a]):=by
 grind [rT,List.fst_mem_of_mem_zipIdx,fD,uo,XQ]
theorem cS.tell{M p B w w'}(h:cS M p B w){a}(hm:fC nS w' p.gt (rT (B.told++[a])))(hg:w.grownBy w' (I p.gt)):cS M p { B with told:=B.told++[a] } w':=by
 obtain⟨C,t,H,L,A⟩:=h.apart;have u:bf (λk=>k=p.gt) w w':=bf.gy hg λk e=>bG
 have y:=u.more λk hk=>h.sub k (hk▸aJ (aJ (aI rfl)))
 refine⟨h.blk.cA u t,h.lg.cA u λk hk e=>A (e▸hk),h.rep.cA u h.ne,hm,λW z=>?_,h.sub,λk hk=>cQ (h.low k hk) u.size,h.ne⟩;have j:=h.df W (y.tr z);exact⟨j.par,j.bj,j.list,j.prom,j.ab,j.bH,j.ie,j.waits,j.dq⟩
theorem azW{M p B w}(h:cS M p B w){a}(y:fD B.told a=az) :
 ∃w',(Instr.mapUpdate 160 (.map (I p.gt)) (av (dZ a)) (G J (Q B.told))).run prog w=.ok () w'/\cS M p { B with told:=B.told++[a] } w'/\bf (λk=>k=p.gt) w w':=by
 obtain⟨w',z,j,t⟩:=FK TU underlying160 h.yJ a (G J (Q B.told))
 rw[awc y]at j
 exact⟨w',z,h.tell j t,bf.gy t λk e=>bG⟩
theorem fC.len{α enc P w b}{bu:List (α×aQ)}(h:fC enc w b bu){t ty k e}(A:P.underlying t=some (.map k e)):(Builtin.len_ #[t] ty #[.map (I b)]).run P w=.ok (G J (Q bu)) w:=by
 obtain⟨es,c,z,j,-⟩:=h;have y:P.underlying t=some (.map (P.mapKeyOf t) (P.mapElemOf t)):=by unfold Program.mapKeyOf Program.mapElemOf;rw[A]
 have:=congrArg Q j;simp only[List.length_map,Array.length_toList]at this;rw[run_len_map w t ty b es c y z,this];rfl
theorem cS.aBs{M p B w}(h:cS M p B w):∀W,K w W->∀ty,(Builtin.len_ #[160] ty #[.map (I p.gt)]).run prog W=.ok (G J (Q B.told)) W:=λW k ty=>by have:=(h.yJ.st k).len (ty:=ty) underlying160;rw[this];simp[rT]
@[local go_sem] theorem aI8 {P:Program} {w:aP} (a:Addr) (m:Mode) (f:Fn) (bs cs:Array aQ):(store a (.func f bs cs) m).run P w=stored P w a (.func f bs cs) m:=run_store P w a _ m rfl
theorem alh:∀(x:cB) (cs:List aQ) (W:aP),dJ.rel x cs W->cs[0]?≠I (ar aA):=λx cs W h=>by have:cs=gY x:=h;rw[this];simp
theorem awd{B n j}{l:List bW}(h:j<Q l):nP B ((n+j)%18446744073709551616) (l.drop j)=if (n+j)%18446744073709551616=Q B.st.list then (if (fk B (oJ ((n+j)%18446744073709551616) l[j])).2 then nP (fk B (oJ ((n+j)%18446744073709551616) l[j])).1 ((n+(j+1))%18446744073709551616) (l.drop (j+1))else B)else nP B ((n+(j+1))%18446744073709551616) (l.drop (j+1)):=by
 have e:((n+j)%18446744073709551616+1)%18446744073709551616=(n+(j+1))%18446744073709551616:=aZ;rw[List.drop_eq_getElem_cons h];conv=>lhs;unfold nP
 rw[e]
theorem aCK(n:Nat):E.wrap (n:Int)=((n%18446744073709551616:Nat):Int):=by rfl
theorem SS{m}(h:fI m=aA)(j:pW m):(∀x∈m.entries,dm x=aA/\dQ x)/\Q m.entries<=16/\(∀x∈m.gu,dm x=aA/\dQ x)/\Q m.gu<=16/\(∀a∈m.fA,dX a)/\Q m.fA<=16/\(∀a∈m.ends,dX a)/\Q m.ends<=16/\m.got<18446744073709551616:=by
 grind [fI,pW,dm,dQ,dX,mA]
theorem Rj:∀ {l:List bW} {B:cJ} {n:Nat},cX B->n<18446744073709551616->(∀x∈l,dQ x)->cX (nP B n l)
 | [],B,n,h,_,_=>h
 | x :: l,B,n,h,hn,hl=>by
  unfold nP;have j:=J0 h (RO hn (hl x bq));have hm:(n+1)%18446744073709551616<18446744073709551616:=Nat.mod_lt _ bC;split
  ·split
   ·exact Rj j hm λy hy=>hl y Kn
   ·exact h
  ·exact Rj h hm λy hy=>hl y Kn
theorem QY{B a}(h:cX B)(j:dX a):cX (lA B a)/\(lA B a).told=B.told:=by
 unfold lA;split
 ·exact⟨J0 h (XP tg j),(Hg FP).told⟩
 ·grind
theorem Xb{B a}(h:cX B)(hl:Q B.told+1<=1000000):cX { B with told:=B.told++[a],bH:=iq B.bH a } :=
 ⟨h.tr,h.me,h.hm,h.dk,h.tx.settle _,h.calls,h.dq,Za,h.ie,h.waits,h.BB⟩
theorem Rk:∀ {l:List bW} {B:cJ} {n:Nat},(nP B n l).told=B.told
 | [],B,n=>rfl
 | x :: l,B,n=>by
  unfold nP;split
  ·split
   ·exact Rk.trans (Hg CZ).told
   ·rfl
  ·exact Rk
theorem auM{M p B w}(h:cS M p B w)(hG:cX B) m v1 v2 v3 v4 v5 v6(h1:bw qj m.dU v1 w)(h2:bw cF m.asks v2 w)(h3:Fx M (λW=>bw cF m.entries v3 W) w)(h4:Fx M (λW=>bw cF m.gu v4 W) w)(h5:Fx M (λW=>bw dJ m.fA v5 W) w)(h6:Fx M (λW=>bw dJ m.ends v6 W) w)
 (hok:fI m=aA) (hfit:pW m) (iO:Q B.told+Q m.fA<=1000000) :
 aK prog 171 #[aj (I ⟨p.g,0,U⟩),av (mK m v1 v2 v3 v4 v5 v6)] w λe w'=>e=ak (au #[])/\eX M p (sM B m) w w':=by
 have HR:Hid (sM B m=vH (m.ends.foldl lA (m.fA.foldl po (nP B m.got m.entries))) m.gu):=aY rfl
 have HL3:=aY (Fx.fix h3 bC Tu)
 have nc:=aY (Fx.fix h5 bC alh)
 have HL6:=aY (Fx.fix h6 bC alh)
 have H4:=aY h4
 have H:=aY h
 have HG:=aY hG
 have hlo:=λk hk=>h.low k (h.sub k hk)
 have yC:=aY hlo
 have j8:=aY hok
 have HTL:=aY iO
 have Bw:=aY hfit
 have hs4:=bD h4.now
 obtain⟨A1,c1,rfl⟩:=bD h1
 obtain⟨A2,c2,rfl⟩:=bD h2
 obtain⟨A3,c3,rfl⟩:=bD h3.now
 obtain⟨A4,c4,rfl⟩:=hs4
 obtain⟨A5,c5,rfl⟩:=bD h5.now
 obtain⟨A6,c6,rfl⟩:=bD h6.now
 generalize sM B m=R at *
 obtain⟨g,hg⟩:∃g,Hid (g=p.g):=⟨_,aY rfl⟩
 rw[<- hg.aX]
 generalize hma:mK m (F A1 (Q m.dU) c1) (F A2 (Q m.asks) c2) (F A3 (Q m.entries) c3) (F A4 (Q m.gu) c4) (F A5 (Q m.fA) c5) (F A6 (Q m.ends) c6)=ma at *
 have k1:=K.lK w (aq #[aj (I ⟨g,0,U⟩)] 114) (aq ma 239)
 have hb:=(bn.new w 114 #[aj (I ⟨g,0,U⟩)]).alloc (aq ma 239)
 have hc:=bn.new (aU w (aq #[aj (I ⟨g,0,U⟩)] 114)) 239 ma
 have hz1:Z (D (aU w (aq #[aj (I ⟨g,0,U⟩)] 114)))=Z (D w)+1:=bq
 rw[hz1]at hc
 subst hma
 go_in
 go_upto_region 1 with fail
 generalize ay (ay w _) _=w1 at *
 generalize oW:Z (D w)=lo at hb hc⊢
 have nH:=aY oW
 have qb:=hb.cells
 have qc:=hc.cells
 have:=qb w1 (K.rf _)
 have hd:=bn.new w1 226 #[.func (.func 247) #[aj (I ⟨g,0,U⟩)] #[]]
 go_step3
 go_wp2_with fail
 have k2:=K.new w1 (aq #[.func (.func 247) #[aj (I ⟨g,0,U⟩)] #[]] 226)
 have hb2:=hb.bF k2
 have jC:=hc.bF k2
 have hz1:=hc.lt
 generalize ay w1 _=T at *
 generalize hgd:Z (D w1)=gd at hd hz1⊢
 have HGD:=aY hgd
 have cT:=k1.tr k2
 have hnX:∀k,lo<=k->¬cO p k:=λk hk C=>by have:=yC.aX k C;have:=nH.aX;omega
 have N:=aY hnX
 have DU:=H.aX.st cT
 have DG:Hid (∀W,bf (cO p) T W->bf M w W):=aY λW u=>(bf.bS cT M).tr (u.more λk hk=>H.aX.sub k hk)
 have:=jC.cells T (K.rf _)
 go_step3
 go_upto_block 0 with fail
 obtain⟨zA,yB,P6,qG,sk,uH,Qa,Qb,Ud⟩:=SS j8.aX Bw.aX
 have Me:=aY (Rj HG.aX Ud λx C=>(zA x C).2)
 obtain⟨S,hBE⟩:∃S,Hid (S=nP B m.got m.entries):=⟨_,aY rfl⟩
 rw[<- hBE.aX]at HR Me
 have Qc:=aY zA
 have yH:=aY P6
 have JB:=aY sk
 have BU:=aY Qa
 have EY:=DU.now rfl (λk hk=>aI hk) (bf.rf _ T)
 go_cut [5,6,7]from 18 to 43 (fun _ _ _ W=>eX M p S T W)
 case first =>
  go_wp2_with fail
  go_loopw [5,6,7,18] (fun _ _ _ i W=>∃(j:Nat) (t:cJ),j<=Q m.entries/\i=G J j/\eX M p t T W/\cX t/\S=nP t ((m.got+j)%18446744073709551616) (m.entries.drop j)) (fun _ _ _ i _=>Q m.entries-(aO i).toNat)
  case atStart=>exact⟨0,B,aZ,rfl,EY,HG.aX,by rw[hBE.aX,List.drop_zero,Nat.add_zero,Nat.mod_eq_of_lt Ud]⟩
  case round =>
   obtain⟨j,t,hj,rfl,hN,A,Qd⟩:=hrel;obtain⟨p2,hV,y,L,O⟩:=hN;have mW:=(DY L).trans hg.aX.symm;by_cases hlt:j<Q m.entries
   ·have cd:(j:Int)<Q m.entries:=aZ;obtain⟨b1,o1,c1',cs1,Y,fF,jU,hF,hcell⟩:=HL3.aX.at j hlt bC;injection Y with Y _ iV;subst Y iV;have HST:=aY (Qd.trans (awd hlt));have hx1:=Qc.aX _ (dG hlt);have:=cQ hlt yB;generalize m.entries[j]=x at *;have hcw:=hcell wr (DG.aX wr y);obtain⟨vf,ve,rfl,hf,he⟩:=hF wr (DG.aX wr y);have q9:∀i,i<8->wr.cell? ⟨b1,o1+j*8+i,U⟩=(bQ x vf ve)[i]?:=λi hi=>(hcw i hi).trans aD
    have q0:wr.cell? ⟨b1,o1+j*8,U⟩=I (G J x.kind):=q9 0 bC;obtain⟨Af,cf,rfl⟩:=dK hf;obtain⟨Ae,ce,rfl⟩:=bD he;have C:=bn.new wr 128 (bQ x (F Af (Q x.f) cf) (F Ae (Q x.es) ce));have k3:=C.cC;have Ca:∀n W,K wr W->si (oJ n x) (av (gP (oJ n x) (F Af (Q x.f) cf) (F Ae (Q x.es) ce))) W:=λn W k=>⟨_,_,rfl,fJ _ _ _ _ hf k,cH he k⟩
    have zH:=aY Ca;go_upto_region 5 with fail;have pJ:=hV.st k3;have z:=y.tr (bf.bS k3 _);generalize ay wr _=w3 at *;generalize Fj:Z (D wr)=gx at *;have dy:=hb2.cA z (N.aX lo (bL _));have qE:=jC.cA z (N.aX (lo+1) aZ);have hd3:=hd.cA z (N.aX gd aZ);have qb:=dy.cell;have qc:=qE.cell;have:=hd3.cell;have qx:=C.cell;have:=A.dk.len;have:E.wrap (j:Int)=j:=ali;have:E.wrap ((m.got:Int)+j)=(((m.got+j)%18446744073709551616:Nat):Int):=cY;generalize hn:(m.got+j)%18446744073709551616=n at *;have Lh:n<18446744073709551616:=aZ;have:E.wrap (Q t.st.list:Int)=Q t.st.list:=ali;have:=aY hV;have HV3:=aY pJ;have anx:=aY λ(e:n=Q t.st.list) W (k:K w3 W)=>MG (pJ.st k) A (oJ n x) _ (zH.aX n W (k3.tr k)) (RO Lh hx1.2) (xH hx1.1)
    have qB:=pJ.blk.cell;obtain⟨Al,cl,el⟩:=bD pJ.df.now.list;have aEz:=hx1.2;have HN3:=aY (show eX M p t T w3 from ⟨p2,pJ,z,L,O⟩);have HKEY:=aY L;obtain⟨g',gl,gd',gr,gt,vd,vr,vp,vh,vl,vq,va,vt,mh,vw,kr⟩:=p2;simp only at mW qB el anx HKEY;subst mW;subst el;have HG2:=aY (J0 A (RO Lh aEz));have uQ:Hid ((fk t (oJ n x)).2=az->(fk t (oJ n x)).1=t):=aY agJ;by_cases hnl:n=Q t.st.list
    ·have HC:=aY (anx.aX hnl w3 (K.rf _));have OM:=aY (HST.aX.trans (bT hnl));have HNN:=aY hnl;generalize fk t (oJ n x)=NB at *;obtain⟨N1,N2⟩:=NB;simp only at HC OM HG2 uQ;go_wp2_with fail
     rw[HNN.aX]at HC;apply bN HC.aX;intro w4 GX;have xD:=aY (eX.tr z HKEY.aX O (λ_ h=>aI h) GX);cases N2
     ·have e1:=uQ.aX rfl;subst e1;have HF:Hid (S=N1):=aY (by rw[OM.aX];rfl);go_wp2;go_meet;rw[HF.aX];exact xD.aX
     ·have HF:Hid (S=nP N1 ((m.got+(j+1))%18446744073709551616) (m.entries.drop (j+1))):=aY (by rw[OM.aX];rfl);go_wp2;go_roundw
      case rel=>exact⟨j+1,N1,aZ,cU,xD.aX,HG2.aX,HF.aX⟩
      case measure=>simp[aO];omega
    ·have OM:=aY (HST.aX.trans (bO hnl));go_wp2;go_roundw
     case rel=>exact⟨j+1,t,aZ,cU,HN3.aX,A,OM.aX⟩
     case measure=>simp[aO];omega
   ·obtain rfl:j=Q m.entries:=aZ;have cd:¬(Q m.entries:Int)<Q m.entries:=aZ;have HF:Hid (S=t):=aY (by rw[Qd,List.drop_length];rfl);have xD:=aY (show eX M p t T wr from ⟨p2,hV,y,L,O⟩);go_wp2;go_meet;rw[HF.aX];exact xD.aX
 generalize wc=w3 at *
 have HTB:Hid (Q S.told+Q m.fA<=1000000):=aY (by rw[hBE.aX,Rk];exact HTL.aX)
 obtain⟨BA,hBA⟩:∃BA,Hid (BA=m.fA.foldl po S):=⟨_,aY rfl⟩
 rw[<- hBA.aX]at HR
 have xE:=aY hcut
 obtain⟨_,_,z,_⟩:=hcut
 have qE:=jC.cA z (N.aX (lo+1) aZ)
 have qc:=qE.cell
 go_upto_block 2 with fail
 go_wp2_with fail
 go_loopw [10,48] (fun _ i W=>∃(j:Nat) (t:cJ),j<=Q m.fA/\i=G J j/\eX M p t T W/\cX t/\Q t.told<=Q S.told+j/\BA=(m.fA.drop j).foldl po t) (fun _ i _=>Q m.fA-(aO i).toNat)
 case atStart=>exact⟨0,S,aZ,rfl,xE.aX,Me.aX,aZ,ic⟩
 case round =>
  obtain⟨j,t,hj,rfl,hN,A,htj,Qd⟩:=hrel;obtain⟨p2,hV,y,L,O⟩:=hN;have mW:=(DY L).trans hg.aX.symm;by_cases hlt:j<Q m.fA
  ·have cd:(j:Int)<Q m.fA:=aZ;obtain⟨b1,o1,c1',cs1,Y,fF,jU,hF,hcell⟩:=nc.aX.at j hlt bC;injection Y with Y _ iV;subst Y iV;have HST:Hid (BA=(m.fA.drop (j+1)).foldl po (po t m.fA[j])):=aY alj;have hx1:=JB.aX _ (dG hlt);have iO:Q t.told+1<=1000000:=by have:=HTB.aX;omega
   generalize m.fA[j]=a at *;have hcw:=hcell wr (DG.aX wr y);have hcs:cs1=gY a:=hF wr (DG.aX wr y);have q9:∀i,i<3->wr.cell? ⟨b1,o1+j*3+i,U⟩=(dZ a)[i]?:=λi hi=>(hcw i hi).trans (by rw[hcs];exact aD)
   have q0:wr.cell? ⟨b1,o1+j*3,U⟩=I (G J a.1):=q9 0 bC;have C:=bn.new wr 42 (dZ a);have k3:=C.cC;go_upto_region 13 with fail;have pJ:=hV.st k3;have z:=y.tr (bf.bS k3 _);have hpx:=λk hk=>hV.low k (aJ hk)
   have vW:∀ {k},k=lo∨k=gd∨k=Z (D wr)->¬cO p2 k:=λ{k} e hk=>by
    have h1:=hb2.lt;have h2:=hd.lt;have h3:=HGD.aX;have h4:=hpx k hk;rcases O k hk with h|h
    ·rcases e with e|e|e
     ·exact N.aX k aZ h
     ·exact N.aX k aZ h
     ·omega
    ·omega
   generalize ay wr _=w3 at *;generalize Fj:Z (D wr)=gx at *;have dy:=hb2.cA z (N.aX lo (bL _));have hd3:=hd.cA z (N.aX gd aZ);have qb:=dy.cell;have qx:=C.cell;have HN3:=aY (show eX M p t T w3 from ⟨p2,pJ,z,L,O⟩);have HKEY:=aY L;have HV3:=aY pJ;have C3:=Ws pJ A a;have Vz:=aY (QY (Xb (a:=a) A iO) hx1);have aEA:=aY iO;have HX1:=aY hx1;have HOA:Hid (po t a=if wM t a then t else lA { t with told:=t.told++[a],bH:=iq t.bH a } a):=aY rfl;rw[mW]at C3;generalize po t a=BO at *;go_wp2_with fail
   apply bN C3;intro w4 k4;cases hab:wM t a
   ·have Pp:Hid (BO=lA { t with told:=t.told++[a],bH:=iq t.bH a } a):=aY alk;have Qe:fD t.told a=false:=by unfold wM at hab;simp only[Bool.or_eq_false_iff]at hab;exact hab.1
    have Mf:=HV3.aX.st k4;have hu4:=z.tr (bf.bS k4 _);have HV4:=aY Mf;have HNT:=aY Qe;have HU4:=aY hu4;have D8:=dy.bF k4;have qx4:=C.bF k4;have qt4:=Mf.aBs;have qd4:=hd3.bF k4;have Cn:Hid (∀ {k},k=lo∨k=gd∨k=gx->¬cO p2 k):=aY vW;have Bz:=aY O;have qB4:=Mf.q;have q1:=D8.cells;have q2:=qx4.cells;obtain⟨g',gl,gd',gr,gt,vd,vr,vp,vh,vl,vq,va,vt,mh,vw,kr⟩:=p2;simp only at mW qB4 qt4 HKEY;subst mW;go_wp2_with fail
    have qs:=aB q1 (aB q2 (aB qB4 qt4));refine eQ 10 ?_;iterate 10 refine bA.i ?_
    intro V W kW hA;simp only[bU,bZ,dx,bM,Nat.reduceAdd]at hA;obtain⟨d0,d1,d2,d3,d4,d5,d6,d7,d8,d9,-⟩:=hA;obtain⟨w5,j0,VA,GZ⟩:=azW (HV4.aX.st kW) HNT.aX;simp only at j0;refine bJ.skip w5 rfl (by simp[bP,aC,d0,d1,d2,d3,d4,d5,d6,d7,d8,d9,aL,bR,j0,go_sem]) ?_;refine bJ.e ?_;have mL:=(D8.bF kW).cA GZ λe=>Cn.aX (aI rfl) (e▸aJ (aJ (aI rfl)))
    have Ff:=(qx4.bF kW).cA GZ λe=>Cn.aX (aJ (aJ rfl)) (e▸aJ (aJ (aI rfl)))
    have hdW:=(qd4.bF kW).cA GZ λe=>Cn.aX (aJ (aI rfl)) (e▸aJ (aJ (aI rfl)))
    have HU5:=aY ((HU4.aX.tr (bf.bS kW _)).iA GZ λk _ e=>(Bz.aX k (e▸aJ (aJ (aI rfl)))).resolve_right aZ);have Mg:=aY VA;have C5:=aY λW (k:K w5 W)=>Ri t.bH a vt W (VA.df.at k).bH A.tx.small A.tx.zi
    have hs4:=bD VA.df.now.bH;have q2:=VA.q;have qb:=mL.cells;have qx:=Ff.cells;simp only at q2 C5 hs4;obtain⟨At,ct,rfl⟩:=hs4;go_wp2_with fail
    have qs:=aB q2 (aB qb qx);refine eQ 7 ?_;iterate 6 refine bA.i ?_
    refine bA.op (λv W'=>cE (Z (D w5)) (Z (D w5)) 178 eC (iq t.bH a) v W') (λ_ _ _ h k=>h.st k) (λV W kW hp=>?_) ?_
    ·(try simp only[dE,bU,bZ,dA,dB,bM]at hp)
     simp[dC,bP,aC,hp,eH,aL,bR,q2,qb,qx,go_sem];apply dD (C5.aX W kW);rintro v4 w4⟨hO,k4⟩;exact alm
    intro V W kW hA;simp only[bU,bZ,dx,bM,Nat.reduceAdd]at hA;obtain⟨d0,d1,d2,d3,d4,d5,lr,-⟩:=hA;generalize Jt:V 6=v8 at *;have wu:=Mg.aX.st kW;have kU:=lr.PA Mg.aX.low;obtain⟨A8,c8,rfl⟩:=bD lr.bw;have q8:=wu.blk.cell;have z8:=wu.blk.frozen;simp only at q8 z8;iterate 2 (apply bJ.pure;rfl;(simp[bP,aC,cK,d0,Jt,aL,bR,go_sem];rfl))
    refine bJ.skip (aV W ⟨g',8,U⟩ (F A8 (Q (iq t.bH a)) c8)) rfl Zk ?_;refine bJ.e ?_;have GS:=wu.Oz kU;have uS:bf (λk=>k=g') W (aV W ⟨g',8,U⟩ (F A8 (Q (iq t.bH a)) c8)):=bf.dc (X:=λk=>k=g') rfl 8 _;have cN:=(mL.bF kW).cA uS λe=>Cn.aX (aI rfl) (aI e)
    have rE:=(Ff.bF kW).cA uS λe=>Cn.aX (aJ (aJ rfl)) (aI e)
    have zK:=(hdW.bF kW).cA uS λe=>Cn.aX (aJ (aI rfl)) (aI e)
    have Jf:=aY ((HU5.aX.tr (bf.bS kW _)).iA uS λk _ e=>(Bz.aX k (aI e)).resolve_right aZ);have C7:=aY (aeC GS (Xb (a:=a) A aEA.aX) a HX1.aX lo gd cN zK);have q9:=rE.cell;generalize ax _ _ _=w6 at *;go_wp2_with fail
    apply bN C7.aX;intro w7 hN7;have HN7:=aY (eX.tr Jf.aX HKEY.aX Bz.aX (λ_ h=>aI h) hN7);go_wp2;go_roundw
    case rel=>exact⟨j+1,BO,aZ,cU,by rw[Pp.aX];exact HN7.aX,by rw[Pp.aX];exact Vz.aX.1,by rw[Pp.aX,Vz.aX.2];simp;omega,HST.aX⟩
    case measure=>simp[aO];omega
   ·have HF:Hid (BO=t):=aY alk;have xD:=aY (HN3.aX.k k4);go_wp2;go_roundw
    case rel=>exact⟨j+1,t,aZ,cU,xD.aX,A,aZ,by rw[HST.aX,HF.aX]⟩
    case measure=>simp[aO];omega
  ·obtain rfl:j=Q m.fA:=aZ;have cd:¬(Q m.fA:Int)<Q m.fA:=aZ;obtain rfl:BA=t:=bG;have GX:eX M p BA T wr:=⟨p2,hV,y,L,O⟩;obtain⟨BD,hBD⟩:∃BD,Hid (BD=m.ends.foldl lA BA):=⟨_,aY rfl⟩;rw[<- hBD.aX]at HR;have qE:=jC.cA y (N.aX (lo+1) aZ);have qc:=qE.cell;have xD:=aY GX;have aEB:=aY A;generalize wr=w3 at *;go_wp2_with fail
   go_loopw [12,81] (fun _ i W=>∃(j:Nat) (t:cJ),j<=Q m.ends/\i=G J j/\eX M p t T W/\cX t/\BD=(m.ends.drop j).foldl lA t) (fun _ i _=>Q m.ends-(aO i).toNat)
   case atStart=>exact⟨0,BA,aZ,rfl,xD.aX,aEB.aX,ic⟩
   case round =>
    obtain⟨j,t,hj,rfl,hN,A,Qd⟩:=hrel;obtain⟨p2,hV,y,L,O⟩:=hN;have mW:=(DY L).trans hg.aX.symm;by_cases hlt:j<Q m.ends
    ·have cd:(j:Int)<Q m.ends:=aZ;obtain⟨b1,o1,c1',cs1,Y,fF,jU,hF,hcell⟩:=HL6.aX.at j hlt bC;injection Y with Y _ iV;subst Y iV;have HST:Hid (BD=(m.ends.drop (j+1)).foldl lA (lA t m.ends[j])):=aY alj;have hx1:=BU.aX _ (dG hlt);generalize m.ends[j]=a at *;have hcw:=hcell wr (DG.aX wr y);have hcs:cs1=gY a:=hF wr (DG.aX wr y);have q9:∀i,i<3->wr.cell? ⟨b1,o1+j*3+i,U⟩=(dZ a)[i]?:=λi hi=>(hcw i hi).trans (by rw[hcs];exact aD)
     have q0:wr.cell? ⟨b1,o1+j*3,U⟩=I (G J a.1):=q9 0 bC;have C:=bn.new wr 42 (dZ a);have k3:=C.cC;go_upto_region 21 with fail;have pJ:=hV.st k3;have z:=y.tr (bf.bS k3 _);generalize ay wr _=w3 at *;generalize Fj:Z (D wr)=gx at *;have dy:=hb2.cA z (N.aX lo (bL _));have hd3:=hd.cA z (N.aX gd aZ);have qx:=C.cell;have C3:=aY (aeC pJ A a hx1 lo gd (by rw[mW];exact dy) (by rw[mW];exact hd3));have Vz:=aY (QY A hx1);have Eb:=aY z;have HKEY:=aY L;have Bz:=aY O;generalize lA t a=BO at *;go_wp2_with fail
     apply bN C3.aX;intro w4 hN5;have HN5:=aY (eX.tr Eb.aX HKEY.aX Bz.aX (λ_ h=>aI h) hN5);go_wp2;go_roundw
     case rel=>exact⟨j+1,BO,aZ,cU,HN5.aX,Vz.aX.1,HST.aX⟩
     case measure=>simp[aO];omega
    ·obtain rfl:j=Q m.ends:=aZ;have cd:¬(Q m.ends:Int)<Q m.ends:=aZ;obtain rfl:BD=t:=bG;have dy:=hb2.cA y (N.aX lo (bL _));have qE:=jC.cA y (N.aX (lo+1) aZ);have qb:=dy.cell;have qc:=qE.cell;have hfp:Fx (λk=>M k∨cO p2 k) (λW=>bw cF m.gu (F A4 (Q m.gu) c4) W) wr:=H4.aX.to (DG.aX wr y) (λ_ h=>h) λk hk h=>h.elim (λh=>h) λh=>(O k h).elim (H.aX.sub k) λh=>(by have:=cT.size;omega)
     have C8:=aY (asg hV A m.gu _ hfp yH.aX qG);rw[mW]at C8;have Eb:=aY y;have HKEY:=aY L;have Bz:=aY O;have gZ:=aY HR.aX;go_wp2_with fail
     apply bN C8.aX;intro w4 hN5;have HN5:=aY (eX.tr Eb.aX HKEY.aX Bz.aX (λ_ h=>aI h) hN5);go_wp2;rw[Exit.noGoto_normal];go_end0;refine⟨rfl,?_⟩;rw[gZ.aX];exact eX.zW HN5.aX cT yC.aX
structure mT(B:cJ):Prop where
 nd:B.told.Nodup
 tf:∀a∈B.told,dX a
 rf:∀a∈B.refused,dX a
 nk:(B.dq.map (·.1)).Nodup
theorem mT.same{B B'}(h:mT B)(j:B'.told=B.told)(t:B'.refused=B.refused/\B'.dq=B.dq):mT B':=⟨by rw[j];exact h.nd,by rw[j];exact h.tf,by rw[t.1];exact h.rf,by rw[t.2];exact h.nk⟩
theorem Rx{B}(y:cX B)(h:mT B):mT (iX B):=by
 have z:=y.open';unfold iX;split
 ·have t:=J1 y λx j=>(z.2.1 x j).2
  have A:=MO (kids:=fg B) (p:=(Bg B,[])) t.1 λx j=>(z.1 x j).2
  have e:=t.2.tr A.2.1;exact h.same e.told ⟨e.refused,e.dq⟩
 ·exact h
theorem afk B a:(lA B a).refused=B.refused/\(lA B a).dq=B.dq:=by
 unfold lA;split
 ·have h:=Hg (B:=B) (r:=lE 5 a) FP;exact⟨h.refused,h.dq⟩
 ·simp
theorem Xr:∀ {l:List bW} {B:cJ} {n:Nat},(nP B n l).refused=B.refused/\(nP B n l).dq=B.dq
 | [],B,n=>⟨rfl,rfl⟩
 | x :: l,B,n=>by
  unfold nP;split
  ·split
   ·have h:=Hg (B:=B) (r:=oJ n x) CZ;have g:=Xr (l:=l) (B:=(fk B (oJ n x)).1) (n:=(n+1)%18446744073709551616);exact⟨g.1.trans h.refused,g.2.trans h.dq⟩
   ·exact⟨rfl,rfl⟩
  ·exact Xr
theorem axU{B a}(h:mT B)(C:cX B)(z:dX a)(y:Q B.told+1<=1000000):mT (po B a)/\cX (po B a)/\Q (po B a).told<=Q B.told+1:=by
 unfold po;split
 ·grind
 ·rename_i hn;have j:=QY (Xb (a:=a) C y) z;have t:=afk { B with told:=B.told++[a],bH:=iq B.bH a } a;have A:a∉B.told:=λH=>hn (by grind [wM,M8])
  refine⟨⟨?_,?_,?_,?_⟩,j.1,?_⟩
  ·rw[j.2];exact Rc h.nd A
  ·rw[j.2];intro b hb;rcases List.mem_append.1 hb with hb|hb
   ·exact h.tf b hb
   ·grind
  ·rw[t.1];exact h.rf
  ·rw[t.2];exact h.nk
  ·grind
theorem afV:∀ {l:List cB} {B:cJ},mT B->cX B->(∀a∈l,dX a)->Q B.told+Q l<=1000000->mT (l.foldl po B)/\cX (l.foldl po B)/\Q (l.foldl po B).told<=Q B.told+Q l
 | [],B,h,hG,_,_=>⟨h,hG,bq⟩
 | a :: l,B,h,hG,hl,hn=>by simp only[fY]at hn;obtain⟨z,y,C⟩:=axU h hG (hl a bq) aZ;obtain⟨t,j,A⟩:=afV (l:=l) z y (λb hb=>hl b (by simp[hb])) aZ;exact⟨t,j,by simp only[List.foldl_cons,fY];omega⟩
theorem afl:∀ {l:List cB} {B:cJ},mT B->cX B->(∀a∈l,dX a)->mT (l.foldl lA B)/\cX (l.foldl lA B)/\(l.foldl lA B).told=B.told
 | [],B,h,hG,_=>⟨h,hG,rfl⟩
 | a :: l,B,h,hG,hl=>by
  have j:=QY hG (hl a bq);obtain⟨y,t,z⟩:=afl (l:=l) (h.same j.2 (afk B a)) j.1 λb hb=>hl b (by simp[hb])
  exact⟨y,t,z.trans j.2⟩
theorem agK{s:fe}{y:cB}:∀ {l:List bW} {p:List bW×List cB},y∈(l.foldl (lJ s) p).2->y∈p.2∨∃x∈l,y=bB x
 | [],p,h=>aI h
 | x :: l,p,h=>by
  rcases agK (l:=l) h with h|⟨z,hz,e⟩
  ·unfold lJ at h;exact aln
  ·exact aJ ⟨z,Kv,e⟩
theorem ahw{s}:∀(l:List bW) (p:List bW×List cB),Q (l.foldl (lJ s) p).1+Q (l.foldl (lJ s) p).2<=Q p.1+Q p.2+Q l
 | [],p=>bq
 | x :: l,p=>by
  have:=ahw (s:=s) l (lJ s p x);have:Q (lJ s p x).1+Q (lJ s p x).2<=Q p.1+Q p.2+1:=by
   unfold lJ;split
   ·omega
   ·split <;> simp <;> omega
  simp only[List.foldl_cons,fY];omega
theorem Ry{y}:∀ {l:List bW} {p:cJ×List cB},((l.foldl kJ p).1.told=p.1.told/\(l.foldl kJ p).1.dq=p.1.dq)/\(y∈(l.foldl kJ p).2->y∈p.2∨∃x∈l,y=bB x)
 | [],p=>⟨⟨rfl,rfl⟩,aI⟩
 | x :: l,p=>by
  obtain⟨t,A⟩:=Ry (y:=y) (l:=l) (p:=kJ p x);have j:((kJ p x).1.told=p.1.told/\(kJ p x).1.dq=p.1.dq)/\(y∈(kJ p x).2->y∈p.2∨y=bB x):=by
   unfold kJ;split
   ·have g:=Hg (B:=p.1) (r:=xm x) FR;exact⟨⟨g.told,g.dq⟩,aI⟩
   ·exact⟨⟨rfl,rfl⟩,λh=>Er⟩
  refine⟨⟨t.1.trans j.1.1,t.2.trans j.1.2⟩,λh=>?_⟩;rcases A h with h|⟨z,hz,e⟩
  ·rcases j.2 h with h|h
   ·exact aI h
   ·exact aJ ⟨x,bq,h⟩
  ·exact aJ ⟨z,Kv,e⟩
theorem NQ{x}(h:dQ x):dX (bB x):=⟨h.2.1,h.2.2.2.1,h.2.2.2.2.1⟩
theorem axV{B l}(h:mT B)(M:cX B)(z:∀x∈l,dQ x)(hn:Q l<=16):mT (vH B l)/\cX (vH B l)/\(vH B l).told=B.told:=by
 have hm:∀x∈nU B l,x∈l:=λx j=>(List.mem_filter.1 j).1
 have hp:∀x∈(pK B.st (nU B l)).1,x∈l:=λx j=>by rcases aeT j with h|h;all_goals grind
 have C:=afU (l:=(pK B.st (nU B l)).1) (p:=(B,vQ B l++(pK B.st (nU B l)).2)) M λx j=>z x (hp x j)
 have H:=ahw (s:=B.st) (nU B l) ([],[]);have N:Q (nU B l)<=Q l:=ni _ _;have O:Q (vQ B l)<=Q l:=by grind [vQ]
 have A:(tE B l).1.told=B.told:=(Ry (y:=(0,0,0))).1.1;have L:(tE B l).1.dq=B.dq:=(Ry (y:=(0,0,0))).1.2;refine⟨⟨by show (tE B l).1.told.Nodup;rw[A];exact h.nd,by show ∀a∈(tE B l).1.told,_;rw[A];exact h.tf,λa t=>?_,by show ((tE B l).1.dq.map (·.1)).Nodup;rw[L];exact h.nk⟩,?_,A⟩
 ·rcases Ry.2 t with t|⟨x,j,rfl⟩
  ·rcases List.mem_append.1 t with t|t
   ·unfold vQ at t;obtain⟨x,j,rfl⟩:=List.mem_map.1 t;exact NQ (z x (List.mem_filter.1 j).1)
   ·rcases agK t with t|⟨x,j,rfl⟩
    ·simp at t
    ·exact NQ (z x (hm x j))
  ·exact NQ (z x (hp x j))
 ·have g:=C.1;refine⟨g.tr,g.me,g.hm,g.dk,g.tx,g.calls,g.dq,g.told,?_,g.waits,g.BB⟩;have:=C.2;simp only[eU]at this;simp only[pK]at this;simp only[List.length_nil]at H;show Q (tE B l).2<=1000000;unfold tE pK;omega
theorem axW{B m}(h:mT B)(C:cX B)(T:fI m=aA)(hfit:pW m)(iO:Q B.told+Q m.fA<=1000000):mT (sM B m)/\cX (sM B m)/\Q (sM B m).told<=Q B.told+16:=by
 obtain⟨A,yB,y,L,M,uH,R,X,W⟩:=SS T hfit
 have H:=Rk (l:=m.entries) (B:=B) (n:=m.got)
 have V:=h.same H (Xr (l:=m.entries) (B:=B) (n:=m.got))
 have t:=Rj C W λx j=>(A x j).2
 obtain⟨O,N,l2⟩:=afV V t M bG
 obtain⟨z,S,l3⟩:=afl O N R
 obtain⟨h4,Y,l4⟩:=axV z S (λx j=>(y x j).2) L
 grind [fI,pW,sM,vH,lA,po,nP]
theorem awe{l k m x}(h:x∈oB l k m):x∈l∨x=(k,m):=by
 grind [oB]
theorem axX{l k m}(h:(l.map (·.1)).Nodup):((oB l k m).map (·.1)).Nodup:=by
 grind [oB]
theorem Rz{B k m}(j:cX B)(t:fI m=aA)(hfit:pW m):cX { B with dq:=oB B.dq k m } :=
 ⟨j.tr,j.me,j.hm,j.dk,j.tx,j.calls,λx y=>by
  rcases awe y with h|rfl
  ·exact j.dq x h
  ·exact⟨t,hfit⟩,j.told,j.ie,j.waits,j.BB⟩
theorem afm{B}(h:mT B)(A:cX B) j b(L:Q B.told+16<=1000000):mT (jr B j b).1/\cX (jr B j b).1/\Q (jr B j b).1.told<=Q B.told+16:=by
 unfold jr
 split
 ·split
  ·grind
  ·rename_i m hm;have y:=(Ru hm).2;have hfit:=RI hm;split
   ·have g:=Rz (k:=j) A y hfit;have f:mT { B with dq:=oB B.dq j m }:=⟨h.nd,h.tf,h.rf,axX h.nk⟩;refine⟨Rx g f,MP g,?_⟩;have C:=g.open';have z:=J1 g λx t=>(C.2.1 x t).2
    have H:=MO (kids:=fg { B with dq:=oB B.dq j m }) (p:=(Bg { B with dq:=oB B.dq j m },[])) z.1 λx t=>(C.1 x t).2
    have e:(iX { B with dq:=oB B.dq j m }).told=B.told:=by
     unfold iX;split
     ·exact (z.2.tr H.2.1).told
     ·rfl
    grind
   ·split
    ·have hA:=(SS y hfit).2.2.2.2.2.1;obtain⟨N,M,O⟩:=axW h A y hfit aZ;grind
    grind
 grind
theorem XR{l cs x}(h:dQ x):dQ (lM l cs x):=by
 grind [dQ,lM]
theorem ahx{ab:List cB}{a:cB}:∀ {l:List bW} {o:List cB},a∈l.foldl (sL ab) o->a∈o∨∃x∈l,a=bB x
 | [],o,h=>aI h
 | x :: l,o,h=>by
  rcases ahx (l:=l) h with h|⟨z,hz,e⟩
  ·unfold sL at h;split at h
   ·exact alo
   ·exact aI h
  ·exact aJ ⟨z,Kv,e⟩
theorem ahy{s:fe}{op:List bW}{a:cB}:∀ {l:List mX} {o:List cB},a∈l.foldl (nr s op) o->a∈o∨∃x∈l,a=x.id
 | [],o,h=>aI h
 | x :: l,o,h=>by
  rcases ahy (l:=l) h with h|⟨z,hz,e⟩
  ·unfold nr at h;exact aln
  ·exact aJ ⟨z,Kv,e⟩
theorem afW{j:List gM}{v:mX}:∀ {l:List bW} {o:List mX},v∈l.foldl (tu j) o->v∈o∨∃x∈l,v.id=bB x
 | [],o,h=>aI h
 | x :: l,o,h=>by
  rcases afW (l:=l) h with h|⟨z,hz,e⟩
  ·unfold tu at h;split at h
   ·rcases List.mem_append.1 h with h|h
    ·exact aI h
    ·simp at h;exact aJ ⟨x,bq,by rw[h]⟩
   ·exact aI h
  ·exact aJ ⟨z,Kv,e⟩
theorem afX{v:mX}:∀ {l:List cB} {o:List mX},v∈l.foldl oA o->v∈o∨v.id∈l
 | [],o,h=>aI h
 | x :: l,o,h=>by
  rcases afX (l:=l) h with h|h
  ·unfold oA at h;split at h
   ·exact aI h
   ·split at h
    ·exact aI h
    ·rcases List.mem_append.1 h with h|h
     ·exact aI h
     ·simp at h;exact aJ (by rw[h];simp)
  ·exact aJ Kg
theorem cX.anj{B}(t:cX B) k:(∀x∈(jZ B k).asks,dQ x)/\(∀v∈(jZ B k).dU,dX v.id)/\Q (jZ B k).asks<=16/\Q (jZ B k).dU<=16/\(jZ B k).got<18446744073709551616:=by
 rcases t.rep k with h|⟨h,f⟩
 ·grind [yg]
 ·simp only[fI,mA,fB,decide_eq_true_eq,xW]at h;obtain⟨⟨⟨⟨⟨⟨-,y,-⟩,j,-⟩,-⟩,-⟩,-⟩,-⟩:=h;exact⟨f.2.2.2.1,f.2.2.1,j,y,f.2.1⟩
theorem aeU{B}(z:cX B) k:pW (wN B k):=by
 have C:=z.dk.inv;have H:=z.anj k;have L:=z.dk.len;refine⟨by simp[wN,cV],?_,by simp[wN],by simp[wN],λx j=>?_,λx j=>?_,λa A=>?_,λa A=>?_⟩
 ·grind [pW,wN,rS]
 ·have j:x∈Dj B (xM B k) (rS B k) (Bf B.st.list (rS B k)):=j;unfold Dj at j;obtain⟨y,t,rfl⟩:=List.mem_map.1 j;have:=List.fst_mem_of_mem_zipIdx t;exact XR (C.B6 _ (List.mem_of_mem_drop (lB this))).2
 ·have j:x∈((if pn B then B.waits else B.st.prom).take 16).map (lM (mw B.st.list) (xM B k)):=j;obtain⟨y,t,rfl⟩:=List.mem_map.1 j;have t:=lB t;split at t
  ·exact XR (z.waits y t).2
  ·exact XR (C.B7 y t).2
 ·rcases ahx (show a∈(jZ B k).asks.foldl (sL (EE B)) []from A)with h|⟨x,j,rfl⟩
  ·simp at h
  ·exact NQ (H.1 x j)
 ·rcases ahy (show a∈(jZ B k).dU.foldl (nr B.st B.waits) []from A)with h|⟨x,j,rfl⟩
  ·simp at h
  ·exact H.2.1 x j
theorem afn{B}(y:cX B)(h:mT B):pW (CI B):=by
 have z:=y.dk.inv;have:=y.dk.len;refine⟨by simp[CI,cV],by show Q B.st.list<_;omega,λv j=>?_,λx t=>(y.asks t).2,SU,SU,SU,SU⟩;rcases afX (show v∈B.refused.foldl oA (B.st.prom.foldl (tu (fg B)) [])from j)with j|j
 ·rcases afW j with j|⟨x,t,e⟩
  ·grind
  ·rw[e];exact NQ (z.B7 x t).2
 ·exact h.rf _ j
def uY(a b:Vl):Prop:=a.1<b.1∨a.1=b.1/\(a.2.1<b.2.1∨a.2.1=b.2.1/\nY a.2.2 b.2.2=aA)
theorem Rl a b:iE a b=-1/\uY a b∨iE a b=0/\a=b∨iE a b=1/\uY b a:=by
 grind [iE,kM,Br,uY,aib,nY,R4]
theorem Xc a:¬uY a a:=by
 grind [uY,WX]
theorem Cv{a b c}(h:uY a b)(k:uY b c):uY a c:=by
 grind [uY,agd]
theorem Na a b:iE a b<0↔uY a b:=by
 grind [Rl,Xc,Cv]
theorem Kc a b:0<iE a b↔uY b a:=by
 grind [Rl,Xc,Cv]
theorem RA a b:iE a b=0↔a=b:=by
 grind [Rl,Xc]
theorem ZI a b:iE a b<=0↔uY a b∨a=b:=by rw[<- Na,<- RA];omega
theorem SV a b:0<=iE a b↔uY b a∨a=b:=by rw[<- Kc,<- RA];omega
theorem ahz a b:preB a b=aA↔fW b <+: fW a:=by
 unfold preB;rw[ByteArray.toList_eq,ByteArray.toList_eq];simp only[fB,decide_eq_true_eq,beq_iff_eq,ByteArray.data_extract,Array.toList_extract,List.extract_eq_take_drop,List.drop_zero,Nat.sub_zero];have j:a.size=Q (fW a):=bq;have t:b.size=Q (fW b):=bq;rw[j,t];constructor
 ·grind
 ·grind [List.prefix_iff_eq_take]
theorem atF{a b:List UInt8}(h:b <+: a):¬a<b:=by
 obtain⟨t,rfl⟩:=h
 induction b with
 | nil=>simp
 | cons x b j=>simp only[bZ,List.cons_lt_cons_iff];intro h;rcases h with h|⟨-,h⟩;exact absurd h bq;exact j h
theorem aBt{v a}(h:lW v a=aA)(y:v.2.1=0)(A:a.2.1=0):¬uY v a:=by
 unfold lW at h
 simp only[fB,beq_iff_eq]at h
 obtain⟨⟨t,j⟩,z⟩:=h
 grind [uY,Nq,atF,ahz]
theorem awf{a b c}(h:lW a b=aA)(k:lW b c=aA):lW a c=true:=by
 unfold lW at *
 simp only[fB,beq_iff_eq,ahz]at *
 grind
def Gn(a b:eT):Bool :=
 if a.2.1=1 then kQ b a.2.2
 else if a.2.1=3 then decide ((b.2.1=3∨b.2.1=4∨b.2.1=2)/\iE a.2.2 b.2.2<=0)
 else if a.2.1=4 then (if b.2.1=4 then decide (iE a.2.2 b.2.2<=0)else decide ((b.2.1=3∨b.2.1=2)/\iE a.2.2 b.2.2<0))
 else if a.2.1=5 then decide ((b.2.1=5∨b.2.1=6∨b.2.1=2)/\0<=iE a.2.2 b.2.2)
 else if a.2.1=6 then (if b.2.1=6 then decide (0<=iE a.2.2 b.2.2)else decide ((b.2.1=5∨b.2.1=2)/\0<iE a.2.2 b.2.2))
 else if a.2.1=7 then (if b.2.1=7 then lW a.2.2 b.2.2 else if b.2.1=6 then decide (0<=iE a.2.2 b.2.2)else if b.2.1=5 then decide (0<iE a.2.2 b.2.2)else if b.2.1=2 then !lW b.2.2 a.2.2 else az)
 else az
def Fo(o:Int):Bool:=decide (1<=o)&&decide (o<=8)
def sU(a b:eT):Bool :=
 if a.1≠b.1∨Fo a.2.1=az∨Fo b.2.1=az then az
 else if a=b∨b.2.1=8 then aA
 else if a.2.1=8∨a.2.2.1≠b.2.2.1 then az
 else Gn a b
def qV(f g:List eT):Bool:=f.all λt=>g.any λu=>sU u t
def qX:List (List eT)->List (List eT)->List (List eT)
 | out,[]=>out
 | out,f :: r=>if out.any (λs=>qV s f)||r.any (λs=>qV s f)then qX out r else qX (out++[f]) r
def uz(l:List (List eT)):List (List eT):=qX [] l
def lY(l:List (List eT))(e:List dW):Bool:=l.any λf=>oz f e
theorem azX{t v}(h:kQ t v=aA)(h8:t.2.1≠8):v.1=t.2.2.1:=by
 grind [kQ]
theorem alp{v:Vl}(h:km v.1 v.2.1 v.2.2=aA)(k:v.1=2):v.2.1=0:=by
 grind [km]
theorem axY{a b v}(S:iU a=aA)(hb:iU b=aA)(hv:km v.1 v.2.1 v.2.2=aA)(h:sU a b=aA)(j:kQ a v=aA):kQ b v=true:=by
 unfold sU at h;split at h
 ·cases h
 split at h
 ·rename_i C;rcases C with rfl|C
  ·exact j
  ·unfold kQ;simp[C]
 rename_i C;split at h
 ·cases h
 rename_i R;have M:a.2.1≠8:=λe=>R (aI e)
 have N:b.2.1≠8:=λe=>C (aJ e)
 have hk:=Decidable.byContradiction λe=>R (aJ e)
 have O:=azX j M;have T:=(Hh S).2.2.2.2 M;have gb:=(Hh hb).2.2.2.2 N;obtain⟨na,y,va⟩:=a;obtain⟨Y,t,z⟩:=b;simp only at *;have V:kQ (Y,t,z) v=(if t==1 then iE v z==0 else if t==2 then iE v z != 0 else if t==3 then decide (iE v z<0)else if t==4 then decide (iE v z<=0)
  else if t==5 then decide (0<iE v z)else if t==6 then decide (0<=iE v z)else if t==7 then lW v z else az):=by
  unfold kQ;simp[N,O,hk]
 have i2:kQ (na,y,va) v=(if y==1 then iE v va==0 else if y==2 then iE v va != 0 else if y==3 then decide (iE v va<0)else if y==4 then decide (iE v va<=0)
  else if y==5 then decide (0<iE v va)else if y==6 then decide (0<=iE v va)else if y==7 then lW v va else az):=by
  unfold kQ;simp[M,O]
 rw[i2]at j;have h3:=h;unfold Gn at h;simp only at h;split at h
 ·rename_i e;simp only[e,beq_self_eq_true,if_true,beq_iff_eq,RA]at j;rw[j];exact h
 rw[V];split at h
 ·rename_i e;subst e;simp at j h;rw[Na]at j;rw[ZI]at h;have A:=h.2.elim (λk=>Cv j k) λk=>k▸j
  have L:=(Na _ _).2 A;rcases h.1 with rfl|rfl|rfl <;> simp <;> omega
 split at h
 ·rename_i e;subst e;simp at j;rw[ZI]at j;split at h
  ·rename_i e;subst e;simp at h⊢;rw[ZI]at h⊢;rcases j with j|rfl
   ·exact aI (h.elim (λk=>Cv j k) λk=>k▸j)
   ·exact h
  ·simp at h;rw[Na]at h;have A:=j.elim (λk=>Cv k h.2) λk=>k▸h.2
   have L:=(Na _ _).2 A;rcases h.1 with rfl|rfl <;> simp <;> omega
 split at h
 ·rename_i e;subst e;simp at j h;rw[Kc]at j;rw[SV]at h;have A:=h.2.elim (λk=>Cv k j) λk=>k▸j
  have L:=(Kc _ _).2 A;rcases h.1 with rfl|rfl|rfl <;> simp <;> omega
 split at h
 ·rename_i e;subst e;simp at j;rw[SV]at j;split at h
  ·rename_i e;subst e;simp at h⊢;rw[SV]at h⊢;rcases j with j|rfl
   ·exact aI (h.elim (λk=>Cv k j) λk=>k▸j)
   ·exact h
  ·simp at h;rw[Kc]at h;have A:=j.elim (λk=>Cv h.2 k) λk=>k▸h.2
   have L:=(Kc _ _).2 A;rcases h.1 with rfl|rfl <;> simp <;> omega
 split at h
 ·rename_i e;subst e;simp at j;have H:=j;unfold lW at H;simp only[fB,beq_iff_eq]at H;have X:=alp hv H.1.1;have W:=alp T H.1.2;have hge:=aBt j X W;have B:uY va v∨va=v:=by
   rcases Rl va v with h|h|h
   ·exact aI h.2
   ·exact aJ h.2
   ·exact absurd h.2 hge
  split at h
  ·rename_i e;subst e;simp;exact awf j h
  split at h
  ·rename_i e;subst e;simp at h⊢;rw[SV]at h⊢;rcases B with B|rfl
   ·exact aI (h.elim (λk=>Cv k B) λk=>k▸B)
   ·exact h
  split at h
  ·rename_i e;subst e;simp at h⊢;rw[Kc]at h⊢;exact B.elim (λk=>Cv h k) λk=>k▸h
  split at h
  ·rename_i e;subst e;simp at h⊢;intro P;rw[RA]at P;subst P;rw[j]at h;cases h
  ·cases h
 ·cases h
theorem auN{a b e}(A:iU a=aA)(hb:iU b=aA)(z:∀x∈e,mF x=aA)(h:sU a b=aA)(j:sI a e=aA):sI b e=true:=by
 have hn:a.1=b.1:=by
  grind [iU,mF,sU,sI]
 unfold sI at *;rw[<- hn];split at j
 ·rename_i x y;have hm:=List.mem_of_find?_eq_some y;have t:=z x hm;unfold mF at t;simp only[fB]at t;exact axY A hb t.2 h j
 ·cases j
theorem agL{f g e}(y:∀t∈f,iU t=aA)(hg:∀t∈g,iU t=aA)(z:∀x∈e,mF x=aA)(h:qV f g=aA)(j:oz g e=aA):oz f e=true:=by
 grind [qV,oz,xW,List.any_eq_true,auN]
theorem Xd{e}(z:∀x∈e,mF x=aA):∀ {l out:List (List eT)},(∀f∈l,∀t∈f,iU t=aA)->(∀f∈out,∀t∈f,iU t=aA)->lY (qX out l) e=(lY out e||lY l e)
 | [],out,_,_=>by simp[qX,lY]
 | f :: r,out,hl,ho=>by
  unfold qX;have A:∀g∈r,∀t∈g,iU t=true:=λg hg=>hl g (by simp[hg])
  split
  ·rename_i j;rw[Xd z A ho];have B:oz f e=aA->(lY out e||lY r e)=true:=by
    intro hm;rw[Bool.or_eq_true]at j⊢;unfold lY;simp only[List.any_eq_true]at j⊢;rcases j with ⟨s,y,j⟩|⟨s,y,j⟩
    ·exact aI ⟨s,y,agL (ho s y) (hl f bq) z j hm⟩
    ·exact aJ ⟨s,y,agL (A s y) (hl f bq) z j hm⟩
   show _=(lY out e||(oz f e||lY r e));cases hm:oz f e
   ·simp
   ·rw[B hm];simp
  ·rw[Xd z A (λg hg=>by
    rcases List.mem_append.1 hg with hg|hg
    ·exact ho g hg
    ·simp at hg;subst hg;exact hl g bq)]
   show (lY (out++[f]) e||lY r e)=(lY out e||(oz f e||lY r e));unfold lY;simp[List.any_append,Bool.or_assoc]
theorem awg{l e}(j:∀f∈l,∀t∈f,iU t=aA)(y:∀x∈e,mF x=aA):lY (uz l) e=lY l e:=by
 grind [uz,Xd,lY]
theorem XS{f:List eT}:∀ {l out:List (List eT)},f∈qX out l->f∈out∨f∈l
 | [],out,h=>aI h
 | g :: r,out,h=>by
  unfold qX at h;split at h
  ·rcases XS h with h|h
   ·exact aI h
   ·exact aJ Kg
  ·rcases XS h with h|h
   ·rcases List.mem_append.1 h with h|h
    ·exact aI h
    ·simp at h;subst h;exact aJ bq
   ·exact aJ Kg
theorem XT:∀ {l out:List (List eT)},Q (qX out l)<=Q out+Q l
 | [],out=>by simp[qX]
 | g :: r,out=>by
  unfold qX;split
  ·exact cI XT bq
  ·exact cI XT cG
abbrev wH(a b:eT)(z:Int):Array aQ:=#[aw a.1,G J a.2.1,G J a.2.2.1,G J a.2.2.2.1,aw a.2.2.2.2,aw b.1,G J b.2.1,G J b.2.2.1,G J b.2.2.2.1,aw b.2.2.2.2,G J z]
def Fp(op:Int):Nat:=if op=1 then 365 else if op=3 then 366 else if op=4 then 367 else if op=5 then 368 else if op=6 then 369 else if op=7 then 370 else 371
theorem auO op w:aK prog 359 #[G J op] w λe w'=>e=ak (.func (.func (Fp op)) #[] #[])/\K w w':=by
 by_cases h1:op=1
 ·subst h1;exact Kw
 by_cases h3:op=3
 ·subst h3;exact Kw
 by_cases h4:op=4
 ·subst h4;exact Kw
 by_cases h5:op=5
 ·subst h5;exact Kw
 by_cases h6:op=6
 ·subst h6;exact Kw
 by_cases h7:op=7
 ·subst h7;exact Kw
 have:(op==1)=false:=Cx;have:(op==3)=false:=Nz;have:(op==4)=false:=Kh;have:(op==5)=false:=Nx;have:(op==6)=false:=SX;have:(op==7)=false:=by simpa using h7
 have HP:Hid (Fp op=371):=aY (by simp[Fp,h1,h3,h4,h5,h6,h7]);generalize Fp op=y at *;go_in;go_wp2;go_ret;exact⟨ZJ,K.rf w⟩
theorem afo op w:aK prog 358 #[G J op] w λe w'=>e=ak (ar (Fo op))/\K w w':=by
 have HR:Hid (Fo op=(decide (1<=op)&&decide (op<=8))):=aY rfl;generalize Fo op=R at *;by_cases h1:1<=op
 ·have HR:Hid (R=decide (op<=8)):=aY alq;go_in;go_wp2;go_ret;exact⟨ib,K.rf w⟩
 ·have HR:Hid (R=az):=aY alq;go_in;go_wp2;go_ret;exact⟨ib,K.rf w⟩
theorem atG a b z w:aK prog 371 #[av (wH a b z)] w λe w'=>e=ak (ar az)/\K w w':=by have k1:=K.new w (aq (wH a b z) 408);go_in;go_wp2;go_ret;simp_all
theorem auP a b z w:aK prog 365 #[av (wH a b z)] w λe w'=>e=ak (ar (kQ b a.2.2))/\K w w':=by
 have k1:=K.new w (aq (wH a b z) 408);have t:=aY λW=>ahu b a.2.2 W
 generalize kQ b a.2.2=R at *;go_in;go_wp2_with fail
 apply dP (t.aX _) k1;intro A y j;go_wp2;go_ret;exact⟨rfl,j⟩
theorem auQ a b z w:aK prog 366 #[av (wH a b z)] w λe w'=>e=ak (ar (decide ((b.2.1=3∨b.2.1=4∨b.2.1=2)/\z<=0)))/\K w w':=by
 have k1:=K.new w (aq (wH a b z) 408);obtain⟨y,j,A,L,C⟩:=b;have HR:Hid ((decide ((j=3∨j=4∨j=2)/\z<=0))=(decide ((j=3∨j=4∨j=2)/\z<=0))):=aY rfl;show aK _ _ _ _ λe w'=>e=ak (ar (decide ((j=3∨j=4∨j=2)/\z<=0)))/\_
 clear HR;by_cases h3:j=3
 ·have HR:Hid ((decide ((j=3∨j=4∨j=2)/\z<=0))=decide (z<=0)):=aY (by subst h3;simp);generalize (decide ((j=3∨j=4∨j=2)/\z<=0))=R at *;subst h3;go_in;exact pc
 by_cases h4:j=4
 ·have HR:Hid ((decide ((j=3∨j=4∨j=2)/\z<=0))=decide (z<=0)):=aY (by subst h4;simp);generalize (decide ((j=3∨j=4∨j=2)/\z<=0))=R at *;subst h4;go_in;exact pc
 by_cases h2:j=2
 ·have HR:Hid ((decide ((j=3∨j=4∨j=2)/\z<=0))=decide (z<=0)):=aY NR;generalize (decide ((j=3∨j=4∨j=2)/\z<=0))=R at *;subst h2;go_in;exact pc
 have HR:Hid ((decide ((j=3∨j=4∨j=2)/\z<=0))=az):=aY (by simp[h3,h4,h2]);generalize (decide ((j=3∨j=4∨j=2)/\z<=0))=R at *;have:(j==3)=false:=Nz;have:(j==4)=false:=Kh;have:(j==2)=false:=AQ;clear h3 h4 h2;go_in;exact pc
theorem asQ a b z w:aK prog 367 #[av (wH a b z)] w λe w'=>e=ak (ar (if b.2.1=4 then decide (z<=0)else decide ((b.2.1=3∨b.2.1=2)/\z<0)))/\K w w':=by
 have k1:=K.new w (aq (wH a b z) 408);obtain⟨y,j,A,L,C⟩:=b;have HR:Hid ((if j=4 then decide (z<=0)else decide ((j=3∨j=2)/\z<0))=(if j=4 then decide (z<=0)else decide ((j=3∨j=2)/\z<0))):=aY rfl;show aK _ _ _ _ λe w'=>e=ak (ar (if j=4 then decide (z<=0)else decide ((j=3∨j=2)/\z<0)))/\_
 clear HR;by_cases h4:j=4
 ·have HR:Hid ((if j=4 then decide (z<=0)else decide ((j=3∨j=2)/\z<0))=decide (z<=0)):=aY (by subst h4;simp);generalize (if j=4 then decide (z<=0)else decide ((j=3∨j=2)/\z<0))=R at *;subst h4;go_in;exact pc
 by_cases h3:j=3
 ·have HR:Hid ((if j=4 then decide (z<=0)else decide ((j=3∨j=2)/\z<0))=decide (z<0)):=aY (by subst h3;simp);generalize (if j=4 then decide (z<=0)else decide ((j=3∨j=2)/\z<0))=R at *;subst h3;go_in;exact pc
 by_cases h2:j=2
 ·have HR:Hid ((if j=4 then decide (z<=0)else decide ((j=3∨j=2)/\z<0))=decide (z<0)):=aY NR;generalize (if j=4 then decide (z<=0)else decide ((j=3∨j=2)/\z<0))=R at *;subst h2;go_in;exact pc
 have HR:Hid ((if j=4 then decide (z<=0)else decide ((j=3∨j=2)/\z<0))=az):=aY (by simp[h4,h3,h2]);generalize (if j=4 then decide (z<=0)else decide ((j=3∨j=2)/\z<0))=R at *;have:(j==4)=false:=Kh;have:(j==3)=false:=Nz;have:(j==2)=false:=AQ;clear h4 h3 h2;go_in;exact pc
theorem auR a b z w:aK prog 368 #[av (wH a b z)] w λe w'=>e=ak (ar (decide ((b.2.1=5∨b.2.1=6∨b.2.1=2)/\0<=z)))/\K w w':=by
 have k1:=K.new w (aq (wH a b z) 408);obtain⟨y,j,A,L,C⟩:=b;have HR:Hid ((decide ((j=5∨j=6∨j=2)/\0<=z))=(decide ((j=5∨j=6∨j=2)/\0<=z))):=aY rfl;show aK _ _ _ _ λe w'=>e=ak (ar (decide ((j=5∨j=6∨j=2)/\0<=z)))/\_
 clear HR;by_cases h5:j=5
 ·have HR:Hid ((decide ((j=5∨j=6∨j=2)/\0<=z))=decide (0<=z)):=aY ZK;generalize (decide ((j=5∨j=6∨j=2)/\0<=z))=R at *;subst h5;go_in;exact pc
 by_cases h6:j=6
 ·have HR:Hid ((decide ((j=5∨j=6∨j=2)/\0<=z))=decide (0<=z)):=aY ZL;generalize (decide ((j=5∨j=6∨j=2)/\0<=z))=R at *;subst h6;go_in;exact pc
 by_cases h2:j=2
 ·have HR:Hid ((decide ((j=5∨j=6∨j=2)/\0<=z))=decide (0<=z)):=aY NR;generalize (decide ((j=5∨j=6∨j=2)/\0<=z))=R at *;subst h2;go_in;exact pc
 have HR:Hid ((decide ((j=5∨j=6∨j=2)/\0<=z))=az):=aY (by simp[h5,h6,h2]);generalize (decide ((j=5∨j=6∨j=2)/\0<=z))=R at *;have:(j==5)=false:=Nx;have:(j==6)=false:=SX;have:(j==2)=false:=AQ;clear h5 h6 h2;go_in;exact pc
theorem ash a b z w:aK prog 369 #[av (wH a b z)] w λe w'=>e=ak (ar (if b.2.1=6 then decide (0<=z)else decide ((b.2.1=5∨b.2.1=2)/\0<z)))/\K w w':=by
 have k1:=K.new w (aq (wH a b z) 408);obtain⟨y,j,A,L,C⟩:=b;have HR:Hid ((if j=6 then decide (0<=z)else decide ((j=5∨j=2)/\0<z))=(if j=6 then decide (0<=z)else decide ((j=5∨j=2)/\0<z))):=aY rfl;show aK _ _ _ _ λe w'=>e=ak (ar (if j=6 then decide (0<=z)else decide ((j=5∨j=2)/\0<z)))/\_
 clear HR;by_cases h6:j=6
 ·have HR:Hid ((if j=6 then decide (0<=z)else decide ((j=5∨j=2)/\0<z))=decide (0<=z)):=aY ZL;generalize (if j=6 then decide (0<=z)else decide ((j=5∨j=2)/\0<z))=R at *;subst h6;go_in;exact pc
 by_cases h5:j=5
 ·have HR:Hid ((if j=6 then decide (0<=z)else decide ((j=5∨j=2)/\0<z))=decide (0<z)):=aY ZK;generalize (if j=6 then decide (0<=z)else decide ((j=5∨j=2)/\0<z))=R at *;subst h5;go_in;exact pc
 by_cases h2:j=2
 ·have HR:Hid ((if j=6 then decide (0<=z)else decide ((j=5∨j=2)/\0<z))=decide (0<z)):=aY NR;generalize (if j=6 then decide (0<=z)else decide ((j=5∨j=2)/\0<z))=R at *;subst h2;go_in;exact pc
 have HR:Hid ((if j=6 then decide (0<=z)else decide ((j=5∨j=2)/\0<z))=az):=aY (by simp[h6,h5,h2]);generalize (if j=6 then decide (0<=z)else decide ((j=5∨j=2)/\0<z))=R at *;have:(j==6)=false:=SX;have:(j==5)=false:=Nx;have:(j==2)=false:=AQ;clear h6 h5 h2;go_in;exact pc
theorem asR a b z w:aK prog 370 #[av (wH a b z)] w λe w'=>e=ak (ar (if b.2.1=7 then lW a.2.2 b.2.2 else if b.2.1=6 then decide (0<=z)else if b.2.1=5 then decide (0<z)else if b.2.1=2 then !lW b.2.2 a.2.2 else az))/\K w w':=by
 have k1:=K.new w (aq (wH a b z) 408);have H:=aY λW=>WI a.2.2 b.2.2 W
 have L:=aY λW=>WI b.2.2 a.2.2 W
 obtain⟨N,j,A,C,B⟩:=b;show aK _ _ _ _ λe w'=>e=ak (ar (if j=7 then lW a.2.2 (A,C,B)else if j=6 then decide (0<=z)else if j=5 then decide (0<z)else if j=2 then !lW (A,C,B) a.2.2 else az))/\_
 simp only at H L;generalize lW a.2.2 (A,C,B)=t at *;generalize lW (A,C,B) a.2.2=y at *;by_cases h7:j=7
 ·have HR:Hid ((if j=7 then t else if j=6 then decide (0<=z)else if j=5 then decide (0<z)else if j=2 then !y else az)=(t)):=aY (by subst h7;simp);generalize (if j=7 then t else if j=6 then decide (0<=z)else if j=5 then decide (0<z)else if j=2 then !y else az)=R at *;subst h7;go_in;go_wp2_with fail
  apply dP (H.aX _) k1;exact alr
 by_cases h6:j=6
 ·have HR:Hid ((if j=7 then t else if j=6 then decide (0<=z)else if j=5 then decide (0<z)else if j=2 then !y else az)=(decide (0<=z))):=aY ZL;generalize (if j=7 then t else if j=6 then decide (0<=z)else if j=5 then decide (0<z)else if j=2 then !y else az)=R at *;subst h6;go_in;exact pc
 by_cases h5:j=5
 ·have HR:Hid ((if j=7 then t else if j=6 then decide (0<=z)else if j=5 then decide (0<z)else if j=2 then !y else az)=(decide (0<z))):=aY ZK;generalize (if j=7 then t else if j=6 then decide (0<=z)else if j=5 then decide (0<z)else if j=2 then !y else az)=R at *;subst h5;go_in;exact pc
 by_cases h2:j=2
 ·have HR:Hid ((if j=7 then t else if j=6 then decide (0<=z)else if j=5 then decide (0<z)else if j=2 then !y else az)=(!y)):=aY NR;generalize (if j=7 then t else if j=6 then decide (0<=z)else if j=5 then decide (0<z)else if j=2 then !y else az)=R at *;subst h2;go_in;go_wp2_with fail
  apply dP (L.aX _) k1;exact alr
 have HR:Hid ((if j=7 then t else if j=6 then decide (0<=z)else if j=5 then decide (0<z)else if j=2 then !y else az)=az):=aY (by simp[h7,h6,h5,h2]);generalize (if j=7 then t else if j=6 then decide (0<=z)else if j=5 then decide (0<z)else if j=2 then !y else az)=R at *;have:(j==7)=false:=by simpa using h7
 have:(j==6)=false:=SX;have:(j==5)=false:=Nx;have:(j==2)=false:=AQ;go_in;exact pc
theorem awh a b w:aK prog (Fp a.2.1) #[av (wH a b (iE a.2.2 b.2.2))] w λe w'=>e=ak (ar (Gn a b))/\K w w':=by
 unfold Fp Gn;split
 ·exact auP a b _ w
 split
 ·exact auQ a b _ w
 split
 ·exact asQ a b _ w
 split
 ·exact auR a b _ w
 split
 ·exact ash a b _ w
 split
 ·exact asR a b _ w
 ·exact atG a b _ w
theorem axZ op:∀args W,(callFunc (Fp op) args).run prog W=.ok (.enter (Fp op) args) W:=by
 intro args W
 unfold Fp
 repeat' split
 all_goals rfl
theorem auS x y w d:(Op.equalIn (d+1+1+1) 85 (tK x) (tK y)).run prog w=.ok (decide (x=y)) w:=by
 obtain⟨a,b,c,d1,e⟩:=x
 obtain⟨t,z,A,j,B⟩:=y
 simp[go_sem,JZ]
 grind
theorem atH x y w:(binOp .eql 85 (tK x) (tK y)).run prog w=.ok (ar (decide (x=y))) w:=by have h:(Op.equal 85 (tK x) (tK y)).run prog w=.ok (decide (x=y)) w:=auS x y w 9997;exact akJ
theorem afY{ops rest o a w j}(H:o.guard=U) x y(C:o.op=.binOp .eql 85 x y 85) p q(t:a.eval x=tK p)(A:a.eval y=tK q)
 (h:wpList prog ops j rest (a.put o.dst (ar (decide (p=q)))) w):wpList prog ops j (o :: rest) a w:=by
 refine wpList_plain H λK B=>?_
 have z:=atH p q w
 have hg:(eqGuard BinOp.eql 85 x y (tK p) (tK q)).run prog w=.ok () w:=by simp[eqGuard,go_sem]
 unfold Oper.wp aL
 simp only[C,Sem.run_bind,Result.andThen_ok,t,A,hg,z,Sem.run_pure]
 exact B _ _ h
theorem asS a b w:aK prog 346 #[tK a,tK b] w λe w'=>e=ak (ar (sU a b))/\K w w':=by
 have z:Hid (sU a b=if a.1≠b.1∨Fo a.2.1=az∨Fo b.2.1=az then az else if a=b∨b.2.1=8 then aA else if a.2.1=8∨a.2.2.1≠b.2.2.1 then az else Gn a b):=aY rfl;have C1:=aY λW=>awh a b W
 have C2:=aY λW=>afe a.2.2 b.2.2 W
 generalize sU a b=R at *;have k1:=K.lK w (aq (gT a).toArray 85) (aq (gT b).toArray 85);have hb:=(bn.new w 85 (gT a).toArray).alloc (aq (gT b).toArray 85);have hc:=bn.new (aU w (aq (gT a).toArray 85)) 85 (gT b).toArray;have hz:Z (D (aU w (aq (gT a).toArray 85)))=Z (D w)+1:=bq;rw[hz]at hc;clear hz;go_in;go_upto_region 1 with fail;generalize ay (ay w _) _=N at *;have t:=hb.cells;have j:=hc.cells;generalize Z (D w)=S at *;clear hb hc;by_cases B:a.1=b.1;rotate_left
 ·have HF:Hid (R=az):=aY (by rw[z.aX,bT (aI B)]);have hs:(a.1.toList==b.1.toList)=false:=by rw[R4];simpa using B
  have PQ:=t N (K.rf _);have wq:=j N (K.rf _);clear t j B;go_wp2;go_ret;exact⟨FQ,k1⟩
 have hs:(a.1.toList==b.1.toList)=true:=bG;have PQ:=t N (K.rf _);have wq:=j N (K.rf _);have CK1:=aY (afo a.2.1 N);go_wp2_with fail
 apply bN CK1.aX;intro w2 Y;clear CK1 PQ wq;cases je:Fo a.2.1
 ·have HF:Hid (R=az):=aY (by rw[z.aX,bT (aJ (aI je))]);have kF:=k1.tr Y;clear t j B z;go_wp2;exact Ez
 have CK2:=aY (afo b.2.1 w2);go_wp2_with fail
 apply dP CK2.aX Y;intro O k3 y;clear CK2 Y k3;cases hk2:Fo b.2.1
 ·have HF:Hid (R=az):=aY (by rw[z.aX,bT (aJ (aJ hk2))]);have kF:=k1.tr y;clear t j B z je;go_wp2;exact Ez
 have H:Hid (R=if a=b∨b.2.1=8 then aA else if a.2.1=8∨a.2.2.1≠b.2.2.1 then az else Gn a b):=aY (by rw[z.aX,bO];simp[B,je,hk2]);clear z je hk2 B hs;go_upto_region 3 with fail;have C:∀W,K O W->∀i,W.cell? ⟨S,i,U⟩=(gT a).toArray[i]?:=λW k=>t W (y.tr k)
 have A:∀W,K O W->∀i,W.cell? ⟨S+1,i,U⟩=(gT b).toArray[i]?:=λW k=>j W (y.tr k)
 have qa5:=C O (K.rf _);have qb5:=A O (K.rf _);by_cases h8:a=b
 ·have HF:Hid (R=aA):=aY (by rw[H.aX,bT (aI h8)]);have hd:decide (a=b)=true:=by simp[h8]
  have kF:=k1.tr y;clear H h8 t j C A;exact SY
 have hd:decide (a=b)=false:=by simp[h8]
 by_cases h9:b.2.1=8
 ·have HF:Hid (R=aA):=aY (by rw[H.aX,bT (aJ h9)]);have zK:(b.2.1==8)=true:=by simp[h9]
  have kF:=k1.tr y;clear H h8 h9 t j C A;exact SY
 have zK:(b.2.1==8)=false:=by simp[h9]
 have L:Hid (R=if a.2.1=8∨a.2.2.1≠b.2.2.1 then az else Gn a b):=aY (by rw[H.aX,bO];simp[h8,h9]);clear H h8 h9;by_cases g1:a.2.1=8
 ·have HF:Hid (R=az):=aY (by rw[L.aX,bT (aI g1)]);have g9:(a.2.1==8)=true:=SZ;have kF:=k1.tr y;clear L g1 t j C A;exact SY
 have g9:(a.2.1==8)=false:=SZ;by_cases M:a.2.2.1=b.2.2.1;rotate_left
 ·have HF:Hid (R=az):=aY (by rw[L.aX,bT (aJ M)]);have g8:(a.2.2.1 != b.2.2.1)=true:=by simpa using M
  have kF:=k1.tr y;clear L g1 M t j C A;exact SY
 have g8:(a.2.2.1 != b.2.2.1)=false:=by simpa using M
 have HF:Hid (R=Gn a b):=aY (by rw[L.aX,bO];simp[g1,M]);clear L g1 M;have CA:=aY (auO a.2.1 O);go_wp2_with (first|with_reducible refine afY rfl (.tmp 23) (.tmp 24) rfl a b rfl rfl ?_|fail)
 apply bN CA.aX;intro X T;clear CA qa5 qb5 hd zK g9 g8;have zZ:=k1.tr (y.tr T);go_upto_region 8 with fail;have qa6:∀W,K X W->∀i,W.cell? ⟨S,i,U⟩=(gT a).toArray[i]?:=λW k=>C W (T.tr k)
 have qb6:∀W,K X W->∀i,W.cell? ⟨S+1,i,U⟩=(gT b).toArray[i]?:=λW k=>A W (T.tr k)
 clear t j C A;have qs:=aB qa6 qb6;refine eQ 9 ?_;iterate 7 refine bA.i ?_
 refine bA.is (G J (iE a.2.2 b.2.2)) (λV W kW hp=>?_) ?_
 ·(try simp only[dE,bU,bZ,dA,dB,bM]at hp)
  simp[dC,bP,aC,hp,eH,aL,bR,bM,qa6,qb6,go_sem];apply bN (C2.aX W);intro X T;grind
 refine bA.i ?_;clear qs;intro V W kW hA;simp only[bU,bZ,dx,bM,Nat.reduceAdd]at hA;obtain⟨e0,e1,e2,e3,e4,e5,e6,e7,e8,-⟩:=hA;have DH:=zZ.tr kW;refine bJ.call _ _ rfl aBu ?_;apply bN (C1.aX W);intro w9 k9;refine⟨_,rfl,?_⟩;have kF:=DH.tr k9;apply bJ.pure;rfl;simp[bP,aC,cK,aL,bR,go_sem];rfl;refine bJ.nil ?_;simp only[iu,Act.put,ue,tC,tB,Nat.reduceAdd,cK,Nat.reduceEqDiff,reduceIte];clear C1 C2 qa6 qb6 e0 e1 e2 e3 e4 e5 e6 e7 e8 kW;go_wp2;exact Ez
def qH:fE (List eT) where
 size:=1
 rel l cs w:=∃v,cs=[v]/\fQ l v w
 len:=by rintro _ _ _⟨v,rfl,_⟩;rfl
 one:=by rintro _ _ _⟨v,rfl,A,c,rfl,_⟩ u j;simp at j;subst j;rfl
 st:=by rintro _ _ _ _⟨v,rfl,h⟩ k;exact⟨v,rfl,fJ _ _ _ _ h k⟩
theorem aCL:(prog.info? 37).map (λi=>(i.zero,i.size,i.bytes))=I (I (F U 0 0),1,24):=by rfl
theorem TFl:ir prog 352 37 (F U 0 0) 1 24:=⟨underlying352,aCL,rfl,bC⟩
theorem auT l v q(f:Nat) cs w(h:fQ l v w)(hlen:Q l<=1000000)(hf:∀args W,(callFunc f args).run prog W=.ok (.enter f args) W)
 (V:∀W,K w W->∀x∈l,aK prog f (#[tK x]++cs) W λe W'=>e=ak (ar (q x))/\K W W') :
 aK prog 344 #[v,.func (.func f) #[] cs] w λe w'=>e=ak (ar (l.any q))/\K w w':=by
 have N:=K.rf w
 obtain⟨A,c,rfl,L⟩:=h
 have M:=aY L
 have O:=aY V
 go_in
 go_wp2_with fail
 go_loopw [6,9] (fun _ i wr=>∃k:Nat,k<=Q l/\i=G J k/\Hid ((l.take k).any q=az)/\K w wr) (fun _ i _=>Q l-(aO i).toNat)
 case atStart=>exact⟨0,aZ,rfl,aY bq,N⟩
 case round =>
  obtain⟨k,hk,rfl,hall,kr⟩:=hrel;by_cases y:k<Q l
  ·have gJ:(k:Int)<Q l:=aZ;obtain⟨b,t,rfl,j,Y⟩:=M.aX.KR aZ;obtain⟨R,H,T,X,S⟩:=Y k y;have d0:=(kr.cell (p:=⟨b,t+k*5,U⟩) j).trans R;have d1:=(kr.cell (p:=⟨b,t+k*5+1,U⟩) j).trans H;have d2:=(kr.cell (p:=⟨b,t+k*5+2,U⟩) j).trans T;have d3:=(kr.cell (p:=⟨b,t+k*5+3,U⟩) j).trans X;have d4:=(kr.cell (p:=⟨b,t+k*5+4,U⟩) j).trans S;have HB:=aY (AG q l k y);have Mh:=aY (AH q l (k+1));have hm:=dG y;generalize l[k]=x at *;have hx:=bn.new wr 85 (gT x).toArray;have z:=hx.cC;have B:=aY (O.aX _ (kr.tr z) x hm);go_upto_region 4 with fail;have C:=kr.tr z;generalize wr.alloc _=w3 at *;have q8:=hx.cell;go_wp2_with fail
   apply dP B.aX C;exact als
  ·exact alu
theorem awi t u g w(hg:bn w g 85 (gT t).toArray) :
 aK prog 345 #[tK u,aj (I ⟨g,0,U⟩)] w λe w'=>e=ak (ar (sU u t))/\K w w':=by
 have j:=bn.new w 85 (gT u).toArray
 have k1:=j.cC
 have B:=hg.bF k1
 have y:=aY λW=>asS u t W
 generalize sU u t=R at *
 go_in
 go_upto_region 1 with fail
 generalize w.alloc _=A at *
 have q:=j.cell
 have:=B.cell
 go_wp2_with fail
 apply dP (y.aX A) k1
 intro L H z
 go_wp2
 go_ret
 exact⟨rfl,z⟩
theorem aeV f g v u w(hv:fQ f v w)(B:fQ g u w)(L:Q f<=1000000)(hg:Q g<=1000000) :
 aK prog 335 #[v,u] w λe w'=>e=ak (ar (qV f g))/\K w w':=by
 have H:Hid (qV f g=f.all λt=>g.any λu=>sU u t):=aY rfl
 generalize qV f g=R at *
 have Y:=K.rf w
 obtain⟨A,c,rfl,T⟩:=hv
 have X:=aY T
 have N:=aY λW (k:K w W) q f cs L hC=>auT g u q f cs W (fJ _ _ _ _ B k) hg L hC
 obtain⟨aT,d,rfl,-⟩:=B
 go_in
 go_wp2_with fail
 go_loopw [6,9] (fun _ i wr=>∃k:Nat,k<=Q f/\i=G J k/\Hid ((f.take k).all (fun t=>g.any fun u=>sU u t)=aA)/\K w wr) (fun _ i _=>Q f-(aO i).toNat)
 case atStart=>exact⟨0,aZ,rfl,aY bq,Y⟩
 case round =>
  obtain⟨k,hk,rfl,hall,kr⟩:=hrel;by_cases z:k<Q f
  ·have gJ:(k:Int)<Q f:=aZ;obtain⟨b,y,rfl,j,V⟩:=X.aX.KR aZ;obtain⟨e0,S,e2,e3,e4⟩:=V k z;have d0:=(kr.cell (p:=⟨b,y+k*5,U⟩) j).trans e0;have d1:=(kr.cell (p:=⟨b,y+k*5+1,U⟩) j).trans S;have d2:=(kr.cell (p:=⟨b,y+k*5+2,U⟩) j).trans e2;have d3:=(kr.cell (p:=⟨b,y+k*5+3,U⟩) j).trans e3;have d4:=(kr.cell (p:=⟨b,y+k*5+4,U⟩) j).trans e4;have HB:=aY (JT (λt=>g.any λu=>sU u t) f k z);have HNo:=aY (λ(h:(g.any λu=>sU u f[k])=az)=>show (f.all λt=>g.any λu=>sU u t)=az by
    rw[List.all_eq_false];exact⟨f[k],dG z,by rw[h];simp⟩)
   generalize f[k]=x at *;have hx:=bn.new wr 85 (gT x).toArray;have k3:=hx.cC;go_upto_region 4 with fail;have C:=kr.tr k3;generalize wr.alloc _=w3 at *;generalize Z (D wr)=M at hx⊢;have O:=aY (N.aX w3 C (λu=>sU u x) 345 #[aj (I ⟨M,0,U⟩)] (λ_ _=>cY) λW k u _=>awi x u M W (hx.bF k));go_wp2_with fail
   apply dP O.aX C;intro w2 k2 kW;cases hx:g.any λu=>sU u x
   ·have HE:Hid (R=az):=aY (by rw[H.aX,HNo.aX hx]);exact Y7
   ·have rA:Hid ((f.take (k+1)).all (λt=>g.any λu=>sU u t)=aA):=aY S0;exact Kl
  ·have gJ:¬(k:Int)<Q f:=aZ;have HE:Hid (R=aA):=aY (by
    have:=hall.aX;rw[iw aZ]at this;rw[H.aX];exact this)
   exact NH
theorem auU l v q(f:Nat) cs w(h:bw qH l v w)(T:Q l<=1000000)(Y:∀args W,(callFunc f args).run prog W=.ok (.enter f args) W)
 (O:∀W,K w W->∀x∈l,∀u,fQ x u W->aK prog f (#[u]++cs) W λe W'=>e=ak (ar (q x))/\K W W') :
 aK prog 311 #[v,.func (.func f) #[] cs] w λe w'=>e=ak (ar (l.any q))/\K w w':=by
 have C:=K.rf w
 obtain⟨A,c,rfl,R,-⟩:=h
 have H:=aY O
 go_in
 go_wp2_with fail
 go_loopw [6,9] (fun _ i wr=>∃k:Nat,k<=Q l/\i=G J k/\Hid ((l.take k).any q=az)/\K w wr) (fun _ i _=>Q l-(aO i).toNat)
 case atStart=>exact⟨0,aZ,rfl,aY bq,C⟩
 case round =>
  obtain⟨k,hk,rfl,hall,kr⟩:=hrel;by_cases j:k<Q l
  ·have gJ:(k:Int)<Q l:=aZ;obtain⟨M,B,cs1,rfl,X,L,S,d⟩:=eN R k j bC;have HB:=aY (AG q l k j);have Mh:=aY (AH q l (k+1));have hm:=dG j;generalize l[k]=x at *;obtain⟨vx,rfl,t⟩:=L wr kr;obtain⟨y,N,rfl⟩:=dK t;have V:wr.cell? ⟨M,B+k,U⟩=I (F y (Q x) N):=by simpa [qH]using S wr kr
   have z:=aY (H.aX wr kr x hm _ t);go_wp2_with fail
   apply dP z.aX kr;exact als
  ·exact alu
theorem awj f e v ve g w(t:fQ f v w)(hg:bn w g 35 #[ve])(j:iT e ve w)(z:Q f<=1000000)(B:Q e<=1000000) :
 aK prog 312 #[v,aj (I ⟨g,0,U⟩)] w λr w'=>r=ak (ar (oz f e))/\K w w':=by
 have C:=aY (auy t z j B)
 obtain⟨H,L,rfl⟩:=tc j
 obtain⟨A,c,rfl⟩:=dK t
 generalize oz f e=R at *
 have q:=hg.cell
 go_in
 go_wp2_with fail
 apply bN C.aX
 intro M y
 go_wp2
 go_ret
 exact⟨rfl,y⟩
theorem ax0 l e v ve w(t:bw qH l v w)(j:iT e ve w)(S:Q l<=1000000)(y:∀f∈l,Q f<=1000000)(z:Q e<=1000000) :
 aK prog 287 #[v,ve] w λr w'=>r=ak (ar (lY l e))/\K w w':=by
 have HR:Hid (lY l e=l.any λf=>oz f e):=aY rfl
 have T:=aY j
 have B:=aY t
 have V:=aY y
 obtain⟨H,N,rfl⟩:=tc j
 obtain⟨A,c,rfl⟩:=bD t
 have hb:=bn.new w 35 #[F H (Q e) N]
 have k1:=hb.cC
 generalize lY l e=R at *
 go_in
 go_upto_region 1 with fail
 generalize w.alloc _=X at *
 generalize Z (D w)=gb at hb⊢
 have C:=aY (auU l _ (λf=>oz f e) 312 #[aj (I ⟨gb,0,U⟩)] X (cH B.aX k1) S (λ_ _=>cY) λW k f L u O=>awj f e u _ gb W O (hb.bF k) (nL _ _ _ _ T.aX (k1.tr k)) (V.aX f L) z)
 go_wp2_with fail
 apply dP C.aX k1
 intro w2 Y M
 go_wp2
 go_ret
 exact⟨ib,M⟩
theorem M3{α S}{l:List α}{A c w}(h:bw S l (F A (Q l) c) w) r(L:r<=Q l):bw S (l.take r) (F A r c) w:=by
 obtain⟨A',M,e,⟨css,j,y⟩,H⟩:=h
 injection e with e1 _ e3
 subst e1 e3
 have t:Q (l.take r)=r:=bG
 refine⟨A,c,by rw[t],⟨css.take r,j.take r,?_⟩,aZ⟩
 rw[t,Wp S.size css j.lens r]
 have:=j.Gf
 refine⟨Kf,λC=>?_⟩
 obtain⟨g,B,e,hg,N⟩:=y.2 bG
 grind
theorem agM{α S}{l:List α}{A A' c w}(h:bw S l (F A (Q l) c) w) k(hk:k<=Q l)(hA:k<Q l->A'=A.map (·.add (k*S.size))):bw S (l.drop k) (F A' (Q l-k) (c-k)) w:=by
 obtain⟨R,N,e,⟨css,t,L⟩,M⟩:=h
 injection e with e1 _ e3
 subst e1 e3
 have y:Q (l.drop k)=Q l-k:=bq
 refine⟨A',c-k,by rw[y],⟨css.drop k,t.drop k,?_⟩,aZ⟩
 rw[y,Wq S.size css t.lens k]
 have z:=t.Gf
 refine⟨by rw[List.length_drop,z,Nat.sub_mul],λH=>?_⟩
 rw[List.length_drop,z]at H
 have B:k<Q l:=by
  grind
 obtain⟨g,C,rfl,hg,O⟩:=L.2 aZ
 refine⟨g,C+k*S.size,by rw[hA B];simp[Addr.add_lit],hg,λj u T=>?_⟩
 grind
theorem azY ab:∀(l:List bW) (o:List cB),Q o<=16->Q (l.foldl (sL ab) o)<=16:=by
 intro l
 induction l with
 | nil=>intro o h;exact h
 | cons x l j =>
  grind [sL]
theorem awk ab asks H va w(hb:bw dJ ab H w)(ha:bw cF asks va w)(hlb:Q ab<=1000000)(PN:Q asks<=1000000) :
 aK prog 236 #[H,va] w λe w'=>∃v',e=ak v'/\bK (λk=>k<Z (D w)) (Z (D w)) 42 dJ (wX ab asks) v' w'/\K w w':=by
 have CB:=aY λW (k:K w W) a=>Hd ab a H W (cH hb k) hlb
 have HE:Hid (wX ab asks=asks.foldl (sL ab) []):=aY rfl
 have BC:=aY λj=>azY ab (asks.take j) [] bq
 obtain⟨Ab,cb,rfl⟩:=bD hb
 obtain⟨A,c,rfl,hl,-⟩:=ha
 generalize wX ab asks=R at *
 have kk:=K.rf w
 have jK:=bK.nil (λk=>k<Z (D w)) (Z (D w)) 42 dJ w
 go_in
 go_wp2_with fail
 go_loopw [5,7,10] (fun o _ i W=>∃j:Nat,j<=Q asks/\i=G J j/\bK (fun k=>k<Z (D w)) (Z (D w)) 42 dJ ((asks.take j).foldl (sL ab) []) o W/\K w W) (fun _ _ i _=>Q asks-(aO i).toNat)
 case atStart=>exact⟨0,aZ,rfl,jK,kk⟩
 case round =>
  obtain⟨j,hj,rfl,B,kr⟩:=hrel;have:=BC.aX j;by_cases hlt:j<Q asks
  ·have cd:(j:Int)<Q asks:=aZ;obtain⟨Y,T,cs1,rfl,jU,hrl,d0,d⟩:=eN hl j hlt bC;have y:=aY (fold_succ (sL ab) asks [] j hlt);generalize asks[j]=x at *;generalize (asks.take j).foldl (sL ab) []=P at *;obtain⟨t,jz⟩:∃t,Hid (t=(asks.take (j+1)).foldl (sL ab) []):=⟨_,aY rfl⟩;replace y:Hid (t=sL ab P x):=aY (jz.aX.trans y.aX);obtain⟨vf,ve,rfl,hf,he⟩:=hrl w (K.rf w);have:∀i,i<8->wr.cell? ⟨Y,T+j*8+i,U⟩=(bQ x vf ve)[i]?:=λi hi=>(d wr kr i hi).trans aD
   have:wr.cell? ⟨Y,T+j*8,U⟩=I (G J x.kind):=d0 wr kr;have L:=bn.new wr 128 (bQ x vf ve);have k3:=L.cC;obtain⟨Af,cf,rfl⟩:=dK hf;obtain⟨Ae,ce,rfl⟩:=bD he;obtain⟨D4,Cl,rfl⟩:=B.slice;go_upto_region 5 with fail;have O:=B.st k3;have C:=kr.tr k3;generalize wr.alloc _=w3 at *;by_cases jx:Q P<16;rotate_left
   ·have IK:¬(Q P:Int)<16:=aZ;have HP:Hid (t=P):=aY (by rw[y.aX];unfold sL;rw[bO (by omega)]);go_wp2;go_roundw
    case rel=>exact⟨j+1,aZ,cU,by rw[<- jz.aX,HP.aX];exact O,C⟩
    case measure=>simp[aO];omega
   have IK:(Q P:Int)<16:=aZ;have V:=L.cell;have C3:=aY (CB.aX w3 C (bB x));go_wp2_with fail
   apply dP C3.aX C;intro w4 z jo;have fq:=O.st z;have M:=L.bF z;have V:=M.cell;cases hb0:fD ab (bB x)
   ·have HP:Hid (t=P):=aY (by rw[y.aX];unfold sL;rw[bO (by simp[hb0])]);exact NN
   have C4:=aY (Hd P (bB x) _ w4 fq.bw aZ);go_wp2_with fail
   apply dP C4.aX jo;intro X z oq;have fu:=fq.st z;have gh:=M.bF z;have V:=gh.cell;cases cD:fD P (bB x);rotate_left
   ·have HP:Hid (t=P):=aY (by rw[y.aX];unfold sL;rw[bO (by simp[cD])]);exact akP
   have HP:Hid (t=P++[bB x]):=aY (by rw[y.aX];unfold sL;rw[bT ⟨jx,hb0,cD⟩]);have hr:=fL.new (S:=dJ) (e:=42) (x:=bB x) (v:=av (dZ (bB x))) (w:=X) (N:=λk=>k<Z (D w)∨aW (F D4 (Q P) Cl)=I k) (λW u=>rfl) 0 (eO _);have kA:=K.new X (aq (dZ (bB x)) 42);have lr:=fu.st kA;have sD:=oq.tr kA;have s8:=sD.size;go_wp2_with (at_builtin;refine kI rfl _ _ 53 rfl _ 3 24 wg rfl rfl lr _ rfl (bB x) ?p1 ?p2 ?p3 ?_)
   case p1=>exact hr
   case p2=>omega
   case p3=>exact s8
   exact akR
  ·have cd:¬(j:Int)<Q asks:=aZ;have HR:Hid (R=(asks.take j).foldl (sL ab) []):=aY Zw;generalize (asks.take j).foldl (sL ab) []=P at *;obtain⟨D4,Cl,rfl⟩:=B.slice;go_wp2;go_ret;exact⟨_,rfl,by rw[HR.aX];exact B,kr⟩
theorem awl l(n:Nat) v w(h:bw cF l v w)(B:∀x∈l,fX x)(X:Q l<=1000000)(hn:n<18446744073709551616) :
 aK prog 234 #[v,G E n] w λe w'=>∃v',e=ak v'/\bK (λk=>k<Z (D w)) (Z (D w)) 128 cF (Bf l n) v' w'/\K w w':=by
 have j:Hid (Bf l n=(l.drop n).take 4):=aY rfl
 have t:=h
 obtain⟨A,c,rfl,z,W⟩:=h
 generalize Bf l n=R at *
 have S:=K.rf w
 by_cases H:Q l<=n
 ·have T:Hid (R=[]):=aY (by rw[j.aX,List.drop_eq_nil_of_le H];rfl);have O:(Q l:Int)<=n:=aZ;have hO:=bK.nil (λk=>k<Z (D w)) (Z (D w)) 128 cF w;clear t z H;go_in;go_wp2;go_ret;exact⟨_,rfl,by rw[T.aX];exact hO,S⟩
 have O:¬(Q l:Int)<=n:=aZ
 have:(n:Int)<=c:=aZ
 have y:=agM t n aZ (A':=Option.map ((λx=>x) ∘ λx=>x.add (n*8)) A) (λ_=>rfl)
 have HS:Hid (∀x∈(l.drop n).take 4,fX x):=aY λx M=>B x (List.mem_of_mem_drop (lB M))
 have jy:Q ((l.drop n).take 4)<=1000000:=cG
 by_cases L:4<Q l-n
 ·have N:(4:Int)<((Q l-n:Nat):Int):=aZ;have H2:=aY (M3 (l:=l.drop n) (c:=c-n) (by rw[List.length_drop];exact y) 4 cG);rw[<- j.aX]at HS jy H2;clear t z B y j L;go_in;go_wp2_with fail
  try rw[show (min ((Q l-n:Nat):Int) 4).toNat=4 by omega]
  exact alv
 ·have N:¬(4:Int)<((Q l-n:Nat):Int):=aZ;have C:R=l.drop n:=by rw[j.aX,iw (by simp;omega)]
  have H2:=aY y;rw[<- j.aX]at HS jy;rw[<- C]at H2;clear t z B y j L C;go_in;go_wp2_with fail
  try rw[show (min ((Q l-n:Nat):Int) 4).toNat=Q l-n by omega]
  exact alv
theorem ax1{l o:List (List eT)}{j}(h:j<Q l):qX o (l.drop j)=if o.any (λs=>qV s l[j])||(l.drop (j+1)).any (λs=>qV s l[j])then qX o (l.drop (j+1))else qX (o++[l[j]]) (l.drop (j+1)):=by rw[List.drop_eq_getElem_cons h];rfl
theorem agN(l:List eT):∀u∈l.flatMap gT,u.oneCell'=true:=by intro u j;obtain⟨t,-,j⟩:=List.mem_flatMap.1 j;simp at j;rcases j with rfl|rfl|rfl|rfl|rfl <;> rfl
theorem atI l v w(h:bw qH l v w)(hlen:Q l<=500000)(hf:∀f∈l,Q f<=1000000) :
 aK prog 310 #[v] w λe w'=>∃v',e=ak v'/\bK (λk=>k<Z (D w)) (Z (D w)) 37 qH (uz l) v' w'/\K w w':=by
 have M:Hid (uz l=qX [] (l.drop 0)):=aY rfl
 have HF:=aY hf
 have HH:=aY h
 obtain⟨A,c,rfl,hl,hc⟩:=h
 generalize uz l=R at *
 have kk:=K.rf w
 have jK:=bK.nil (λk=>k<Z (D w)) (Z (D w)) 37 qH w
 clear hf
 go_in
 go_wp2
 go_step3
 go_wp2_with fail
 go_step3
 go_wp2_with fail
 go_loopw [3,4,5,7,9,12] (fun vo _ _ _ _ i W=>∃(j:Nat) (o:List (List eT)),j<=Q l/\i=G J (j:Int)/\Q o<=j/\(∀f∈o,Q f<=1000000)/\Hid (R=qX o (l.drop j))/\bK (fun k=>k<Z (D w)) (Z (D w)) 37 qH o vo W/\K w W) (fun _ _ _ _ _ i _=>Q l-(aO i).toNat)
 case atStart=>exact⟨0,[],aZ,rfl,bq,bq,M,jK,kk⟩
 case round =>
  clear jK kk M;obtain⟨j,o,hj,rfl,hoj,VB,M,T,kr⟩:=hrel;obtain⟨Ao,co,rfl⟩:=T.slice;by_cases hlt:j<Q l;rotate_left
  ·have cd:¬(j:Int)<(Q l:Int):=aZ;have B:Hid (R=o):=aY (by rw[M.aX,List.drop_eq_nil_of_le (by omega)];rfl);go_wp2;go_ret;exact⟨_,rfl,by rw[B.aX];exact T,kr⟩
  have cd:(j:Int)<(Q l:Int):=aZ;obtain⟨b1,off,cs1,rfl,jU,hr1,d0,-⟩:=eN hl j hlt bC;have HS:=aY (ax1 (o:=o) hlt);rw[<- M.aX]at HS;have E1:=HF.aX _ (dG hlt);generalize l[j]=f at *;obtain⟨vf,rfl,Jl⟩:=hr1 w (K.rf w);have d0:=λW k=>by simpa [qH]using d0 W k
  have HV:=aY Jl;obtain⟨Af,cf,rfl,hRf⟩:=Jl;have HRf:=aY hRf;clear jU hr1 hRf M;have q1:=d0 wr kr;generalize wr=w1 at *;go_wp2_with fail
  go_loopw [7,19] (fun _ i W=>∃k:Nat,k<=Q o/\i=G J (k:Int)/\Hid ((o.take k).any (fun s=>qV s f)=az)/\K w1 W) (fun _ i _=>Q o-(aO i).toNat)
  case atStart=>exact⟨0,aZ,rfl,aY bq,K.rf _⟩
  case round =>
   obtain⟨k,hk,rfl,hall,O⟩:=hrel;have eD:=kr.tr O;by_cases tJ:k<Q o
   ·have gJ:(k:Int)<(Q o:Int):=aZ;obtain⟨A9,c9,L,hlo,-⟩:=T.bw;injection L with L _ iV;subst L iV;obtain⟨b2,o2,VC,rfl,OI,cZ,d2,-⟩:=eN hlo k tJ bC;have HB:=aY (AG (λs=>qV s f) o k tJ);have Mh:=aY (AH (λs=>qV s f) o (k+1));have abq:=VB _ (dG tJ);generalize o[k]=g at *;obtain⟨vg,rfl,H⟩:=cZ wr O;have q2:wr.cell? ⟨b2,o2+k,U⟩=I vg:=by simpa [qH]using d2 wr O
    have V:=aY (aeV g f vg _ wr H (fJ _ _ _ _ HV.aX eD) abq E1);obtain⟨Ag,cg,rfl⟩:=dK H;have HO:=aY (T.st O);clear OI cZ d2 H hlo;go_wp2_with fail
    apply dP V.aX O;intro w2 k2 kW;clear q2 V;cases hx:qV g f
    ·have rA:Hid ((o.take (k+1)).any (λs=>qV s f)=az):=aY S0;clear hx;exact Kl
    ·have B:Hid (R=qX o (l.drop (j+1))):=aY (by rw[HS.aX,bT];rw[Mh.aX (by rw[HB.aX,hx];simp)];rfl);have C:=HO.aX.st k2;have kF:=kr.tr kW;clear hx T;go_wp2;go_roundw
     case rel=>exact⟨j+1,o,aZ,cU,aZ,VB,B,C,kF⟩
     case measure=>simp[aO];omega
   ·have gJ:¬(k:Int)<(Q o:Int):=aZ;have HN:=aY (by
     have:=hall.aX;rw[iw aZ]at this;exact this)
    have C:=T.st O;clear hall;generalize wr=w4 at *;by_cases Pj:j+1<Q l
    ·have hcn:¬c=j+1:=aZ;have Uv:=agM HH.aX (j+1) aZ (A':=I ⟨b1,off+(j+1),U⟩) (λ_=>by simp[qH,Addr.add_lit]);obtain⟨A9,c9,L,VD,-⟩:=Uv;injection L with L iV tV;subst L tV;have JH:Q (l.drop (j+1))=Q l-(j+1):=bq;have HFD:Hid (∀g∈l.drop (j+1),Q g<=1000000):=aY λg hg=>HF.aX g (List.mem_of_mem_drop hg)
     have HDL:=aY JH;clear JH iV;go_wp2_with fail
     go_loopw [9,32] (fun _ i W=>∃k:Nat,k<=Q l-(j+1)/\i=G J (k:Int)/\Hid (((l.drop (j+1)).take k).any (fun s=>qV s f)=az)/\K w4 W) (fun _ i _=>Q l-(j+1)-(aO i).toNat)
     case atStart=>exact⟨0,aZ,rfl,aY bq,K.rf _⟩
     case round =>
      obtain⟨k,hk,rfl,hall,N⟩:=hrel;have t:=eD.tr N;by_cases Ue:k<Q l-(j+1)
      ·have aEC:(k:Int)<((Q l-(j+1):Nat):Int):=aZ;have Uf:k<Q (l.drop (j+1)):=by rw[HDL.aX];exact Ue
       obtain⟨b2,o2,VC,e2,OI,cZ,d2,-⟩:=eN VD k Uf bC;injection e2 with e2;injection e2 with e2 e3;subst e2 e3;have HB:=aY (AG (λs=>qV s f) (l.drop (j+1)) k Uf);have Mh:=aY (AH (λs=>qV s f) (l.drop (j+1)) (k+1));have abq:=HFD.aX _ (dG Uf);generalize (l.drop (j+1))[k]=g at *;obtain⟨vg,rfl,H⟩:=cZ wr t;have q2:wr.cell? ⟨b1,off+(j+1)+k,U⟩=I vg:=by simpa [qH]using d2 wr t
       have V:=aY (aeV g f vg _ wr H (fJ _ _ _ _ HV.aX t) abq E1);obtain⟨Ag,cg,rfl⟩:=dK H;clear OI cZ d2 H Uf;go_wp2_with fail
       apply dP V.aX N;intro w2 k2 kW;clear q2 V;cases hx:qV g f
       ·have rA:Hid (((l.drop (j+1)).take (k+1)).any (λs=>qV s f)=az):=aY S0;clear hx;exact Kl
       ·have B:Hid (R=qX o (l.drop (j+1))):=aY (by rw[HS.aX,bT];rw[Mh.aX (by rw[HB.aX,hx];simp)];simp);have y:=C.st kW;have kF:=eD.tr kW;clear hx C;go_wp2;go_roundw
        case rel=>exact⟨j+1,o,aZ,cU,aZ,VB,B,y,kF⟩
        case measure=>simp[aO];omega
      ·have aEC:¬(k:Int)<((Q l-(j+1):Nat):Int):=aZ;have GD:=aY (by
        have:=hall.aX;rw[iw (by rw[HDL.aX];omega)]at this;exact this)
       clear VD;have B:Hid (R=qX (o++[f]) (l.drop (j+1))):=aY alw;have CL:=aY (aeO Af (Q f) cf (f.flatMap gT) wr ((HRf.aX.below t (bL _)).more t.size) (agN f) aZ);have y:=C.st N;clear C GD;go_wp2_with fail
       apply dD CL.aX;rintro v6 w6⟨z,X⟩;have Y:=yZ z;have ox:Fx (λk=>k<Z (D wr)) (λW=>qH.rel f [v6] W) w6:=λW u=>⟨v6,rfl,yZ (ke z u λb hb hk=>by have:=(z.lt b hb).1;omega)⟩
       obtain⟨A6,c6,rfl⟩:=dK Y;have abr:=t.tr X;have hr:=fL.new (S:=qH) (e:=37) (v:=F A6 (Q f) c6) ox 0 (eO _);have qA:=t.size;have dt:=y.blk;have kA:=K.new w6 (aq #[F A6 (Q f) c6] 37);have fq:=y.st (X.tr kA);have OO:=abr.tr kA;have abt:=OO.size;clear y z Y ox CL;go_wp2_with (at_builtin;refine kI rfl _ _ 352 rfl _ 1 24 TFl rfl rfl fq _ rfl f ?p1 ?p2 ?p3 ?_)
       case p1=>exact hr.less λk hk=>alx
       case p2=>omega
       case p3=>exact abt
       intro v9 w9 cR dF fO cN;have yO:=OO.trans cN;have abu:∀g∈o++[f],Q g<=1000000:=λg hg=>by exact aly
       clear hr fq dF fO cN dt;go_wp2;go_roundw
       case rel=>exact⟨j+1,o++[f],aZ,cU,cG,abu,B,cR,yO⟩
       case measure=>simp[aO];omega
    ·have GD:Hid ((l.drop (j+1)).any (λs=>qV s f)=az):=aY (by rw[List.drop_eq_nil_of_le (by omega)];rfl);have hz0:Q l-(j+1)=0:=aZ;go_wp2_with fail
     all_goals
      go_loopw [9,32] (fun _ i W=>i=G J 0/\K w4 W) (fun _ _ _=>0)
     all_goals first|(exact⟨rfl,K.rf _⟩)|skip
     all_goals
      obtain⟨rfl,N⟩:=hrel
      have t:=eD.tr N
      have B:Hid (R=qX (o++[f]) (l.drop (j+1))):=aY alw
      have CL:=aY (aeO Af (Q f) cf (f.flatMap gT) wr ((HRf.aX.below t (bL _)).more t.size) (agN f) aZ)
      have y:=C.st N
      clear C GD
      go_wp2_with fail
      apply dD CL.aX
      rintro v6 w6⟨z,X⟩
      have Y:=yZ z
      have ox:Fx (λk=>k<Z (D wr)) (λW=>qH.rel f [v6] W) w6:=λW u=>⟨v6,rfl,yZ (ke z u λb hb hk=>by have:=(z.lt b hb).1;omega)⟩
      obtain⟨A6,c6,rfl⟩:=dK Y
      have abr:=t.tr X
      have hr:=fL.new (S:=qH) (e:=37) (v:=F A6 (Q f) c6) ox 0 (eO _)
      have qA:=t.size
      have dt:=y.blk
      have kA:=K.new w6 (aq #[F A6 (Q f) c6] 37)
      have fq:=y.st (X.tr kA)
      have OO:=abr.tr kA
      have abt:=OO.size
      clear y z Y ox CL
      go_wp2_with (at_builtin;refine kI rfl _ _ 352 rfl _ 1 24 TFl rfl rfl fq _ rfl f ?p1 ?p2 ?p3 ?_)
      case p1=>exact hr.less λk hk=>alx
      case p2=>omega
      case p3=>exact abt
      intro v9 w9 cR dF fO cN
      have yO:=OO.trans cN
      have abu:∀g∈o++[f],Q g<=1000000:=λg hg=>by exact aly
      clear hr fq dF fO cN dt
      go_wp2
      try rw[<- h]
      go_roundw
      case rel=>exact⟨j+1,o++[f],aZ,cU,cG,abu,B,cR,yO⟩
      case measure=>simp[aO];omega
theorem atJ l a v w(h:bw eu l v w)(O:Q l<=1000000) :
 aK prog 239 #[v,G J a] w λe w'=>∃i:Int,e=ak (G J i)/\K w w'/\decide (0<=i)=l.any λx=>decide (x=a):=by
 have y:=K.rf w
 obtain⟨A,c,rfl,B,-⟩:=h
 go_in
 go_wp2_with fail
 go_loopw [5,8] (fun _ i wr=>∃k:Nat,k<=Q l/\i=G J k/\Hid ((l.take k).any (fun x=>decide (x=a))=az)/\K w wr) (fun _ i _=>Q l-(aO i).toNat)
 case atStart=>exact⟨0,aZ,rfl,aY bq,y⟩
 case round =>
  clear y;obtain⟨k,hk,rfl,hall,kr⟩:=hrel;by_cases j:k<Q l
  ·have gJ:(k:Int)<Q l:=aZ;obtain⟨N,M,rfl,z⟩:=ints_at B aZ;have HB:=aY (AG (λx=>decide (x=a)) l k j);have H:=aY (AH (λx=>decide (x=a)) l (k+1));have q:=z wr kr k j;generalize l[k]=t at *;clear z;by_cases hx:t=a
   ·have HE:=aY (H.aX ZM);have C:(a==t)=true:=Ki;clear hx;go_wp2;go_ret;exact⟨_,rfl,kr,by rw[HE.aX];simp⟩
   ·have L:Hid ((l.take (k+1)).any (λx=>decide (x=a))=az):=aY (by rw[HB.aX,hall.aX];simpa using hx);have C:(a==t)=false:=by simpa using λe=>hx e.symm
    clear hx;go_wp2;go_roundw
    case rel=>exact⟨k+1,aZ,cU,L,kr⟩
    case measure=>simp[aO];omega
  ·exact Zp
theorem aeq l a v w(h:bw eu l v w)(z:Q l<=1000000) :
 aK prog 169 #[v,G J a] w λe w'=>e=ak (ar (decide (a∈l)))/\K w w':=by
 have t:=aY (atJ l a v w h z)
 obtain⟨A,c,rfl⟩:=bD h
 have B:Hid (decide (a∈l)=l.any λx=>decide (x=a)):=aY ZN
 generalize decide (a∈l)=R at *
 go_in
 go_wp2_with fail
 refine t.aX.mono ?_
 rintro e H⟨i,rfl,j,y⟩
 have C:=aY y
 go_wp2
 go_ret
 exact⟨by rw[B.aX,<- C.aX];rfl,j⟩
theorem auV s cs v vc g w(h:sub s v w)(hg:bn w g 23 #[vc])(j:bw eu cs vc w)(B:Q cs<=1000000) :
 aK prog 309 #[v,aj (I ⟨g,0,U⟩)] w λe w'=>e=ak (ar (decide (s.cl∈cs)))/\K w w':=by
 obtain⟨vs,rfl,t⟩:=h
 obtain⟨A,d,rfl⟩:=dK t
 have hb:=bn.new w 260 (oK s (F A (Q s.f) d))
 have k1:=hb.cC
 have C:=hg.bF k1
 have y:=aY (aeq cs s.cl vc _ (cH j k1) B)
 obtain⟨M,cc,rfl⟩:=bD j
 generalize decide (s.cl∈cs)=R at *
 go_in
 go_upto_region 1 with fail
 generalize w.alloc _=O at *
 have q:=hb.cell
 have:=C.cell
 go_wp2_with fail
 apply dP y.aX k1
 intro N L z
 go_wp2
 go_ret
 exact⟨rfl,z⟩
theorem asT l cs v vc w(h:bw jM l v w)(Y:bw eu cs vc w)(hlen:Q l<=500000)(hcl:Q cs<=1000000)(B:∀s∈l,Q s.f<=1000000) :
 aK prog 285 #[v,vc] w λe w'=>∃v',e=ak v'/\bw qH (uz ((sS l cs).map (·.f))) v' w'/\K w w':=by
 have HR:Hid (uz ((sS l cs).map (·.f))=uz ((l.filter λs=>decide (s.cl∈cs)).map (·.f))):=aY rfl
 have HL:=aY (KE h)
 have HS:=aY B
 have HC:=aY Y
 obtain⟨A,d,rfl⟩:=bD h
 obtain⟨Ac,cc,rfl⟩:=bD Y
 have hb:=bn.new w 23 #[F Ac (Q cs) cc]
 have k1:=hb.cC
 generalize uz ((sS l cs).map (·.f))=R at *
 clear h Y B
 go_in
 go_upto_region 1 with fail
 generalize w.alloc _=w1 at *
 have hz1:=k1.size
 generalize oW:Z (D w)=lo at hb HL hz1⊢
 have C1:=aY (Hf (λk=>lo<=k) l _ (λs=>decide (s.cl∈cs)) 309 #[aj (I ⟨lo,0,U⟩)] w1 (HL.aX.st k1) aZ (λ_ _=>cY) λW k s _ u hu=>auV s cs u _ lo W hu (hb.bF k) (cH HC.aX (k1.tr k)) hcl)
 clear oW
 go_wp2_with fail
 apply dD C1.aX
 rintro v2 z⟨C,k2⟩
 have:=ni (λs=>decide (s.cl∈cs)) l
 have Gz:=Kb (q:=λs=>decide (s.cl∈cs)) HS.aX
 generalize l.filter (λs=>decide (s.cl∈cs))=t at *
 have cT:=k1.tr k2
 have:=C.blk
 obtain⟨A2,c2,rfl⟩:=C.slice
 have H2:=aY (C.Jw (N:=λk=>lo<=k/\aW (F A2 (Q t) c2)≠I k) (λk hk=>aI hk.1) λk h1 h2=>h2.2 h1)
 have Mb:=aY Gz
 have jK:=bK.nil (λk=>lo<=k/\aW (F A2 (Q t) c2)≠I k) (Z (D z)) 37 qH z
 have kk:=K.rf z
 clear C1 C hb Gz
 go_wp2_with fail
 go_loopw [6,8,14] (fun vo _ i W=>∃j:Nat,j<=Q t/\i=G J j/\bK (fun k=>lo<=k/\aW (F A2 (Q t) c2)≠I k) (Z (D z)) 37 qH ((t.take j).map (·.f)) vo W/\K z W) (fun _ _ i _=>Q t-(aO i).toNat)
 case atStart=>exact⟨0,aZ,rfl,ic,kk⟩
 case round =>
  clear jK kk;obtain⟨j,hj,rfl,y,kr⟩:=hrel;by_cases hlt:j<Q t
  ·have cd:(j:Int)<Q t:=aZ;obtain⟨b,O,c',cs1,e1,vW,jU,H,d⟩:=H2.aX.at j hlt bC;injection e1 with e1 _ e2;subst e1 e2;have HT:Hid ((t.take (j+1)).map (·.f)=(t.take j).map (·.f)++[t[j].f]):=aY YZ;generalize t[j]=x at *;obtain⟨vf,rfl,Jl⟩:=H.now;have q9:∀i,i<3->wr.cell? ⟨b,O+j*3+i,U⟩=(oK x vf)[i]?:=λi hi=>(d wr (bf.bS kr _) i hi).trans aD
   have q0:wr.cell? ⟨b,O+j*3,U⟩=I (G J x.cl):=by first|exact q9 0 (by decide)|simp
   have yN:Fx (λk=>lo<=k/\aW (F (I ⟨b,O,U⟩) (Q t) c2)≠I k) (λW=>qH.rel x.f [vf] W) z:=λW u=>by obtain⟨mh,e,h⟩:=H W u;simp at e;subst e;exact⟨_,rfl,h⟩
   obtain⟨M,T,rfl⟩:=dK Jl;have hx:=bn.new wr 260 (oK x (F M (Q x.f) T));have k3:=hx.cC;obtain⟨Ao,co,rfl⟩:=y.slice;have:Q ((t.take j).map (·.f))<=500000:=cG;clear d H Jl jU;go_upto_region 6 with fail;have L:=y.st k3;have eD:=kr.tr k3;generalize wr.alloc _=w3 at *;clear q9 q0 y;have:=hx.cell;generalize (t.take j).map (·.f)=o at *;have dt:=L.blk;have hr:=fL.new (S:=qH) (e:=37) (v:=F M (Q x.f) T) (yN.k eD) 0 (eO _);have kA:=K.new w3 (aq #[F M (Q x.f) T] 37);have fq:=L.st kA;have jo:=eD.tr kA;have lq:=jo.size;clear L yN;go_wp2_with (at_builtin;refine kI rfl _ _ 352 rfl _ 1 24 TFl rfl rfl fq _ rfl x.f ?p1 ?p2 ?p3 ?_)
   case p1 =>
    exact hr.less λk hk=>by
     rcases hk with hk|hk
     ·exact hk
     ·have h1:=dt k hk;have h2:=k2.size;grind
   case p2=>omega
   case p3=>simpa using lq
   intro v9 w9 cR dF fO cN;have yO:=jo.trans cN;clear hr fq dF fO cN dt;go_wp2;go_roundw
   case rel=>exact⟨j+1,aZ,cU,by rw[HT.aX];exact cR,yO⟩
   case measure=>simp[aO];omega
  ·have cd:¬(j:Int)<Q t:=aZ;have hE:(t.take j).map (·.f)=t.map (·.f):=bG;rw[hE]at y;have X:=aY (atI (t.map (·.f)) _ wr y.bw cG (λf hf=>by obtain⟨s,B,rfl⟩:=List.mem_map.1 hf;exact Mb.aX s B));obtain⟨Ao,co,rfl⟩:=y.slice;rw[<- HR.aX]at X;have rG:=cT.tr kr;clear hE y;generalize t.map (·.f)=o at *;go_wp2_with fail
   apply tH X.aX rG;intro v5 w5 V k5 kF;have mH:=aY V.bw;obtain⟨A5,c5,rfl⟩:=V.slice;clear X V;go_wp2;go_ret;exact⟨_,rfl,mH.aX,kF⟩
theorem aBv{e}(h:iC e=aA):∀x∈e,mF x=true:=by
 simp only[iC,fB,decide_eq_true_eq]at h;have key:∀(l:List dW) (p:Option ByteArray),lP p l=aA->∀x∈l,mF x=true:=by
  intro l
  induction l with
  | nil=>intro p _ x j;simp at j
  | cons y l t =>
   grind [iC,mF,lP]
 exact key e U h.2
theorem awm{l cs}{es:List (List dW)}(t:∀s∈l,okF s.f=aA)(j:∀e∈es,iC e=aA):es.filter (lY (uz ((sS l cs).map (·.f))))=es.filter (anyS (sS l cs)):=by
 refine List.filter_congr λe hm=>?_
 rw[awg (λf y=>?_) (aBv (j e hm))]
 ·grind [lY,anyS,List.any_map]
 ·grind [okF,iC,lY,uz,sS,anyS]
theorem awn l e v ve g w(t:bw qH l v w)(hg:bn w g 352 #[v])(j:iT e ve w)(H:Q l<=1000000)(B:∀f∈l,Q f<=1000000)(C:Q e<=1000000) :
 aK prog 286 #[ve,aj (I ⟨g,0,U⟩)] w λr w'=>r=ak (ar (lY l e))/\K w w':=by
 have y:=aY (ax0 l e v ve w t j H B C)
 obtain⟨L,M,rfl⟩:=tc j
 obtain⟨A,c,rfl⟩:=bD t
 generalize lY l e=R at *
 clear t j
 have q:=hg.cell
 go_in
 go_wp2_with fail
 apply bN y.aX
 intro N z
 clear y q hg
 go_wp2
 go_ret
 exact⟨rfl,z⟩
theorem agO l cs x v vc vx w(h:bw jM l v w)(hc:bw eu cs vc w)(S:fc x vx w)(hlen:Q l<=500000)(hcl:Q cs<=1000000)(hs:∀s∈l,okF s.f=aA)(hok:dm x=aA) :
 aK prog 235 #[v,vc,vx] w λe w'=>∃v',e=ak v'/\yd (Z (D w)) (lM l cs x) v' w'/\K w w':=by
 have qF:=aY (xH hok)
 have G0:∀s∈l,Q s.f<=1000000:=λs hs'=>by have:=(FG (hs s hs')).1;omega
 have CF:=aY λW (k:K w W)=>asT l cs v vc W (cH h k) (cH hc k) hlen hcl G0
 have VE:Hid (Q (uz ((sS l cs).map (·.f)))<=1000000/\∀f∈uz ((sS l cs).map (·.f)),Q f<=1000000):=aY (by
  have h1:Q (sS l cs)<=Q l:=ni _ _;refine⟨?_,λf hf=>?_⟩
  ·have:=@XT ((sS l cs).map (·.f)) [];unfold uz;simp at this;omega
  ·have:=XS hf;simp only[List.not_mem_nil,false_or]at this;obtain⟨s,hs',rfl⟩:=List.mem_map.1 this;exact G0 s (List.mem_filter.1 hs').1)
 have HCF:Hid (x.kind=1->x.es.filter (lY (uz ((sS l cs).map (·.f))))=x.es.filter (anyS (sS l cs))):=aY λhk=>awm hs (by
  unfold dm at hok;rw[bT hk]at hok;simp only[fB,xW]at hok;exact hok.2.2)
 have VF:Hid (lM l cs x=if x.kind=1 then { x with es:=x.es.filter (anyS (sS l cs)) }else x):=aY rfl
 obtain⟨vf,ve,rfl,hf,he⟩:=S
 have HF:=aY hf
 have HE:=aY he
 obtain⟨Af,cf,rfl⟩:=dK hf
 obtain⟨Ae,ce,rfl⟩:=bD he
 obtain⟨A,d,rfl⟩:=bD h
 obtain⟨Ac,cc,rfl⟩:=bD hc
 generalize uz ((sS l cs).map (·.f))=RF at *
 generalize lM l cs x=R at *
 have k1:=K.lK w (aq (bQ x (F Af (Q x.f) cf) (F Ae (Q x.es) ce)) 128) (aq #[G J 0,G J 0,G E 0,G E 0,G J 0,G E 0,F U 0 0,F U 0 0] 128)
 have hb:=(bn.new w 128 (bQ x (F Af (Q x.f) cf) (F Ae (Q x.es) ce))).alloc (aq #[G J 0,G J 0,G E 0,G E 0,G J 0,G E 0,F U 0 0,F U 0 0] 128)
 have T:=bn.new (aU w (aq (bQ x (F Af (Q x.f) cf) (F Ae (Q x.es) ce)) 128)) 128 #[G J 0,G J 0,G E 0,G E 0,G J 0,G E 0,F U 0 0,F U 0 0]
 have hz:Z (D (aU w (aq (bQ x (F Af (Q x.f) cf) (F Ae (Q x.es) ce)) 128)))=Z (D w)+1:=bq
 rw[hz]at T
 clear hf he h hc G0 hs hok hz
 go_in
 go_upto_region 1 with fail
 generalize ay (ay w _) _=w1 at *
 generalize oW:Z (D w)=lo at hb T⊢
 have nH:=aY oW.symm
 have abv:=T.lt
 clear oW
 by_cases hk:x.kind=1
 rotate_left
 ·have hkb:(x.kind==1)=false:=vD;obtain⟨es,N⟩:∃es,es=x.es:=⟨_,rfl⟩;have Me:Hid (R={ x with es:=es }):=aY (by rw[VF.aX,bO hk,N]);have ll:Q es<=1000000:=by rw[N];exact qF.aX.2.1
  have gj:∀e∈es,Q e<=1000000:=by rw[N];exact qF.aX.2.2
  have hle:bw dS es (F Ae (Q es) ce) w1:=by rw[N];exact cH HE.aX k1
  have S:bn w1 lo 128 (bQ x (F Af (Q x.f) cf) (F Ae (Q es) ce)):=by rw[N];exact hb
  have q0:=S.cell;have kA:=k1;have sA:=abv;clear hk N VF HCF HE hb k1 abv CF VE;generalize w1=wA at *;go_upto_region 4 with fail;clear q0;have CE:=aY (WH es _ wA hle ll gj);have q:=S.cell;go_wp2_with fail
  apply dD CE.aX;rintro v5 M⟨fu,L⟩;have Fq:=S.bF L;have Qf:=T.bF L;have hzA:=kA.size;have hzB:=L.size;clear CE q S T hle;have q:=Fq.cell;have z:=Fq.frozen;obtain⟨t,c5,rfl⟩:=bD fu.tR.bw;go_upto_region 5 with fail;have JI:bn (aV M ⟨lo,7,U⟩ (F t (Q es) c5)) lo 128 (bQ x (F Af (Q x.f) cf) (F t (Q es) c5)):=Fq.cz 7 _;have Qg:=Qf.far (p:=⟨lo,7,U⟩) bq (F t (Q es) c5);have kC:K w (aV M ⟨lo,7,U⟩ (F t (Q es) c5)):=K.set (kA.tr L) NS 7 _;have OP:=fu.up (w':=M.setCell ⟨lo,7,U⟩ (F t (Q es) c5)) (bL _) (bV.set aZ 7 _);have hzC:Z (D (aV M ⟨lo,7,U⟩ (F t (Q es) c5)))=Z (D M):=bq;clear Fq Qf fu q z;generalize M.setCell _ _=wC at *;have CT:=aY (WR x.f _ wC (fJ _ _ _ _ HF.aX kC) (qF.aX.1));have q:=JI.cell;go_wp2_with fail
  apply dD CT.aX;rintro v6 O⟨JJ,V⟩;have Y:=JI.bF V;have Qh:=Qg.bF V;have OQ:=OP.st V;clear CT q JI Qg OP;have q:=Y.cell;have z:=Y.frozen;have abw:=dK (yZ JJ);obtain⟨j,c6,rfl⟩:=abw;go_upto_region 6 with fail;have hxE:bn (aV O ⟨lo,6,U⟩ (F j (Q x.f) c6)) lo 128 (bQ x (F j (Q x.f) c6) (F t (Q es) c5)):=Y.cz 6 _;have JK:=Qh.far (p:=⟨lo,6,U⟩) bq (F j (Q x.f) c6);have kE:K w (aV O ⟨lo,6,U⟩ (F j (Q x.f) c6)):=K.set (kC.tr V) NS 6 _;have abx:=OQ.up (w':=O.setCell ⟨lo,6,U⟩ (F j (Q x.f) c6)) (bL _) (bV.set aZ 6 _);have aby:iF (aV O ⟨lo,6,U⟩ (F j (Q x.f) c6)) (Z (D wC)) (F j (Q x.f) c6) x.f:=iF.up JJ (bV.set aZ 6 _);clear Y Qh OQ JJ q z;generalize O.setCell _ _=B at *;have q:=hxE.cell;have y:=JK.cell;have z:=JK.frozen;have H:Z (D w)<=lo+1:=by rw[nH.aX];omega
  have C:=sA;go_wp2;have fH:bn (ax B _ _) (lo+1) 128 #[G J x.kind,G J 0,G E 0,G E 0,G J 0,G E 0,F U 0 0,F U 0 0]:=JK.cz 0 (G J x.kind);have hr1:bn (ax (ax B _ _) _ _) (lo+1) 128 #[G J x.kind,G J x.br,G E 0,G E 0,G J 0,G E 0,F U 0 0,F U 0 0]:=fH.cz 1 (G J x.br);have cZ:bn (ax (ax (ax B _ _) _ _) _ _) (lo+1) 128 #[G J x.kind,G J x.br,G E x.life,G E 0,G J 0,G E 0,F U 0 0,F U 0 0]:=hr1.cz 2 (G E x.life);have fP:bn (ax (ax (ax (ax B _ _) _ _) _ _) _ _) (lo+1) 128 #[G J x.kind,G J x.br,G E x.life,G E x.dN,G J 0,G E 0,F U 0 0,F U 0 0]:=cZ.cz 3 (G E x.dN);have gF:bn (ax (ax (ax (ax (ax B _ _) _ _) _ _) _ _) _ _) (lo+1) 128 #[G J x.kind,G J x.br,G E x.life,G E x.dN,G J x.cl,G E 0,F U 0 0,F U 0 0]:=fP.cz 4 (G J x.cl);have j0:bn (ax (ax (ax (ax (ax (ax B _ _) _ _) _ _) _ _) _ _) _ _) (lo+1) 128 #[G J x.kind,G J x.br,G E x.life,G E x.dN,G J x.cl,G E x.sub,F U 0 0,F U 0 0]:=gF.cz 5 (G E x.sub);have rq:bn (ax (ax (ax (ax (ax (ax (ax B _ _) _ _) _ _) _ _) _ _) _ _) _ _) (lo+1) 128 #[G J x.kind,G J x.br,G E x.life,G E x.dN,G J x.cl,G E x.sub,F j (Q x.f) c6,F U 0 0]:=j0.cz 6 (F j (Q x.f) c6);have mg:bn (ax (ax (ax (ax (ax (ax (ax (ax B _ _) _ _) _ _) _ _) _ _) _ _) _ _) _ _) (lo+1) 128 #[G J x.kind,G J x.br,G E x.life,G E x.dN,G J x.cl,G E x.sub,F j (Q x.f) c6,F t (Q es) c5]:=rq.cz 7 (F t (Q es) c5);have U9:=(((((((((bV.rf (Z (D wA)) U B).tr (bV.set (b:=lo+1) C 0 (G J x.kind))).tr (bV.set (b:=lo+1) C 1 (G J x.br))).tr (bV.set (b:=lo+1) C 2 (G E x.life))).tr (bV.set (b:=lo+1) C 3 (G E x.dN))).tr (bV.set (b:=lo+1) C 4 (G J x.cl))).tr (bV.set (b:=lo+1) C 5 (G E x.sub))).tr (bV.set (b:=lo+1) C 6 (F j (Q x.f) c6))).tr (bV.set (b:=lo+1) C 7 (F t (Q es) c5)));have K9:=(K.set (K.set (K.set (K.set (K.set (K.set (K.set (K.set kE (r:=lo+1) H 0 (G J x.kind)) (r:=lo+1) H 1 (G J x.br)) (r:=lo+1) H 2 (G E x.life)) (r:=lo+1) H 3 (G E x.dN)) (r:=lo+1) H 4 (G J x.cl)) (r:=lo+1) H 5 (G E x.sub)) (r:=lo+1) H 6 (F j (Q x.f) c6)) (r:=lo+1) H 7 (F t (Q es) c5));clear q y z fH hr1 cZ fP gF j0 rq;generalize (ax (ax (ax (ax (ax (ax (ax (ax B _ _) _ _) _ _) _ _) _ _) _ _) _ _) _ _)=W9 at *;have e9:=mg.cell;refine aM (v:=av #[G J x.kind,G J x.br,G E x.life,G E x.dN,G J x.cl,G E x.sub,F j (Q x.f) c6,F t (Q es) c5]) alz rfl ?_;refine⟨_,rfl,?_,K9⟩;rw[Me.aX];exact⟨_,_,rfl,oy aZ (iF.up aby (U9.more aZ (λ_ _ _=>bq))),cE.low (cE.floor (abx.up (bL _) (U9.more aZ (λ_ _ _=>bq))) aZ) aZ⟩
 have hkb:(x.kind==1)=true:=vD
 have DK:=aY (HCF.aX hk)
 have Cb:Hid (R={ x with es:=x.es.filter (anyS (sS l cs)) }):=aY (by rw[VF.aX,bT hk])
 have q0:=hb.cell
 have C1:=aY (CF.aX w1 k1)
 clear hk HCF VF CF
 go_wp2_with fail
 apply dD C1.aX
 rintro v2 w2⟨OE,k2⟩
 obtain⟨A2,c2,rfl⟩:=bD OE
 have hb2:=hb.bF k2
 have cZ:=T.bF k2
 have cT:=k1.tr k2
 clear C1 hb T q0
 go_upto_region 3 with fail
 have kj:=bn.new w2 352 #[F A2 (Q RF) c2]
 have L:=kj.cC
 have dy:=hb2.bF L
 have fP:=cZ.bF L
 have oT:=cT.tr L
 have H3:=aY (cH OE L)
 have hz2:=k2.size
 clear hb2 cZ OE
 generalize w2.alloc _=w3 at *
 generalize Z (D w2)=g3 at kj hz2⊢
 have Ly:=(KE HE.aX).st oT
 have C2:=aY (afc (λk=>Z (D w)<=k) x.es _ (lY RF) 286 #[aj (I ⟨g3,0,U⟩)] w3 Ly qF.aX.2.1 (λ_ _=>cY) λW k e he u hu=>awn RF e _ u g3 W (cH H3.aX k) (kj.bF k) hu VE.aX.1 VE.aX.2 (qF.aX.2.2 e he))
 have q3:=dy.cell
 clear Ly
 go_wp2_with fail
 apply dD C2.aX
 rintro v4 w4⟨fq,k4⟩
 obtain⟨es,N⟩:∃es,es=x.es.filter (lY RF):=⟨_,rfl⟩
 have Me:Hid (R={ x with es:=es }):=aY (by rw[Cb.aX,N,DK.aX])
 have ll:Q es<=1000000:=by rw[N];exact cI (ni _ _) qF.aX.2.1
 have gj:∀e∈es,Q e<=1000000:=by rw[N];exact λe he=>qF.aX.2.2 e (List.mem_filter.1 he).1
 rw[<- N]at fq
 have hb4:=dy.bF k4
 have gF:=fP.bF k4
 have zZ:=oT.tr k4
 have iR:=kj.lt
 clear C2 q3 dy fP N Cb DK
 have dt:=fq.blk
 obtain⟨A4,c4,rfl⟩:=fq.slice
 have q:=hb4.cell
 have z:=hb4.frozen
 go_upto_region 4 with fail
 have S:bn (aV w4 ⟨lo,7,U⟩ (F A4 (Q es) c4)) lo 128 (bQ x (F Af (Q x.f) cf) (F A4 (Q es) c4)):=hb4.cz 7 _
 have T:=gF.far (p:=⟨lo,7,U⟩) bq (F A4 (Q es) c4)
 have kA:K w (aV w4 ⟨lo,7,U⟩ (F A4 (Q es) c4)):=K.set zZ NS 7 _
 have hle:bw dS es (F A4 (Q es) c4) (aV w4 ⟨lo,7,U⟩ (F A4 (Q es) c4)):=(fq.to (X:=λk=>k=lo) (Y':=λ_=>False) (bf.dc (X:=λk=>k=lo) rfl 7 _) (λk hk=>by rw[hk,nH.aX];exact bL _) (λk hk e=>bG) (λk _ hk=>hk.elim)).bw
 have sA:lo+1<Z (D (aV w4 ⟨lo,7,U⟩ (F A4 (Q es) c4))):=by have:=gF.lt;simpa using this
 clear hb4 gF fq q z zZ cT oT k1 abv kj H3 VE L k2 k4 dt iR hz2 HE
 generalize w4.setCell _ _=wA at *
 have CE:=aY (WH es _ wA hle ll gj)
 have q:=S.cell
 go_wp2_with fail
 apply dD CE.aX
 rintro v5 M⟨fu,L⟩
 have Fq:=S.bF L
 have Qf:=T.bF L
 have hzA:=kA.size
 have hzB:=L.size
 clear CE q S T hle
 have q:=Fq.cell
 have z:=Fq.frozen
 obtain⟨t,c5,rfl⟩:=bD fu.tR.bw
 go_upto_region 5 with fail
 have JI:bn (aV M ⟨lo,7,U⟩ (F t (Q es) c5)) lo 128 (bQ x (F Af (Q x.f) cf) (F t (Q es) c5)):=Fq.cz 7 _
 have Qg:=Qf.far (p:=⟨lo,7,U⟩) bq (F t (Q es) c5)
 have kC:K w (aV M ⟨lo,7,U⟩ (F t (Q es) c5)):=K.set (kA.tr L) NS 7 _
 have OP:=fu.up (w':=M.setCell ⟨lo,7,U⟩ (F t (Q es) c5)) (bL _) (bV.set aZ 7 _)
 have hzC:Z (D (aV M ⟨lo,7,U⟩ (F t (Q es) c5)))=Z (D M):=bq
 clear Fq Qf fu q z
 generalize M.setCell _ _=wC at *
 have CT:=aY (WR x.f _ wC (fJ _ _ _ _ HF.aX kC) (qF.aX.1))
 have q:=JI.cell
 go_wp2_with fail
 apply dD CT.aX
 rintro v6 O⟨JJ,V⟩
 have Y:=JI.bF V
 have Qh:=Qg.bF V
 have OQ:=OP.st V
 clear CT q JI Qg OP
 have q:=Y.cell
 have z:=Y.frozen
 have abw:=dK (yZ JJ)
 obtain⟨j,c6,rfl⟩:=abw
 go_upto_region 6 with fail
 have hxE:bn (aV O ⟨lo,6,U⟩ (F j (Q x.f) c6)) lo 128 (bQ x (F j (Q x.f) c6) (F t (Q es) c5)):=Y.cz 6 _
 have JK:=Qh.far (p:=⟨lo,6,U⟩) bq (F j (Q x.f) c6)
 have kE:K w (aV O ⟨lo,6,U⟩ (F j (Q x.f) c6)):=K.set (kC.tr V) NS 6 _
 have abx:=OQ.up (w':=O.setCell ⟨lo,6,U⟩ (F j (Q x.f) c6)) (bL _) (bV.set aZ 6 _)
 have aby:iF (aV O ⟨lo,6,U⟩ (F j (Q x.f) c6)) (Z (D wC)) (F j (Q x.f) c6) x.f:=iF.up JJ (bV.set aZ 6 _)
 clear Y Qh OQ JJ q z
 generalize O.setCell _ _=B at *
 have q:=hxE.cell
 have y:=JK.cell
 have z:=JK.frozen
 have H:Z (D w)<=lo+1:=by rw[nH.aX];omega
 have C:=sA
 go_wp2
 have fH:bn (ax B _ _) (lo+1) 128 #[G J x.kind,G J 0,G E 0,G E 0,G J 0,G E 0,F U 0 0,F U 0 0]:=JK.cz 0 (G J x.kind)
 have hr1:bn (ax (ax B _ _) _ _) (lo+1) 128 #[G J x.kind,G J x.br,G E 0,G E 0,G J 0,G E 0,F U 0 0,F U 0 0]:=fH.cz 1 (G J x.br)
 have cZ:bn (ax (ax (ax B _ _) _ _) _ _) (lo+1) 128 #[G J x.kind,G J x.br,G E x.life,G E 0,G J 0,G E 0,F U 0 0,F U 0 0]:=hr1.cz 2 (G E x.life)
 have fP:bn (ax (ax (ax (ax B _ _) _ _) _ _) _ _) (lo+1) 128 #[G J x.kind,G J x.br,G E x.life,G E x.dN,G J 0,G E 0,F U 0 0,F U 0 0]:=cZ.cz 3 (G E x.dN)
 have gF:bn (ax (ax (ax (ax (ax B _ _) _ _) _ _) _ _) _ _) (lo+1) 128 #[G J x.kind,G J x.br,G E x.life,G E x.dN,G J x.cl,G E 0,F U 0 0,F U 0 0]:=fP.cz 4 (G J x.cl)
 have j0:bn (ax (ax (ax (ax (ax (ax B _ _) _ _) _ _) _ _) _ _) _ _) (lo+1) 128 #[G J x.kind,G J x.br,G E x.life,G E x.dN,G J x.cl,G E x.sub,F U 0 0,F U 0 0]:=gF.cz 5 (G E x.sub)
 have rq:bn (ax (ax (ax (ax (ax (ax (ax B _ _) _ _) _ _) _ _) _ _) _ _) _ _) (lo+1) 128 #[G J x.kind,G J x.br,G E x.life,G E x.dN,G J x.cl,G E x.sub,F j (Q x.f) c6,F U 0 0]:=j0.cz 6 (F j (Q x.f) c6)
 have mg:bn (ax (ax (ax (ax (ax (ax (ax (ax B _ _) _ _) _ _) _ _) _ _) _ _) _ _) _ _) (lo+1) 128 #[G J x.kind,G J x.br,G E x.life,G E x.dN,G J x.cl,G E x.sub,F j (Q x.f) c6,F t (Q es) c5]:=rq.cz 7 (F t (Q es) c5)
 have U9:=(((((((((bV.rf (Z (D wA)) U B).tr (bV.set (b:=lo+1) C 0 (G J x.kind))).tr (bV.set (b:=lo+1) C 1 (G J x.br))).tr (bV.set (b:=lo+1) C 2 (G E x.life))).tr (bV.set (b:=lo+1) C 3 (G E x.dN))).tr (bV.set (b:=lo+1) C 4 (G J x.cl))).tr (bV.set (b:=lo+1) C 5 (G E x.sub))).tr (bV.set (b:=lo+1) C 6 (F j (Q x.f) c6))).tr (bV.set (b:=lo+1) C 7 (F t (Q es) c5)))
 have K9:=(K.set (K.set (K.set (K.set (K.set (K.set (K.set (K.set kE (r:=lo+1) H 0 (G J x.kind)) (r:=lo+1) H 1 (G J x.br)) (r:=lo+1) H 2 (G E x.life)) (r:=lo+1) H 3 (G E x.dN)) (r:=lo+1) H 4 (G J x.cl)) (r:=lo+1) H 5 (G E x.sub)) (r:=lo+1) H 6 (F j (Q x.f) c6)) (r:=lo+1) H 7 (F t (Q es) c5))
 clear q y z fH hr1 cZ fP gF j0 rq
 generalize (ax (ax (ax (ax (ax (ax (ax (ax B _ _) _ _) _ _) _ _) _ _) _ _) _ _) _ _)=W9 at *
 have e9:=mg.cell
 refine aM (v:=av #[G J x.kind,G J x.br,G E x.life,G E x.dN,G J x.cl,G E x.sub,F j (Q x.f) c6,F t (Q es) c5]) alz rfl ?_
 refine⟨_,rfl,?_,K9⟩
 rw[Me.aX]
 exact⟨_,_,rfl,oy aZ (iF.up aby (U9.more aZ (λ_ _ _=>bq))),cE.low (cE.floor (abx.up (bL _) (U9.more aZ (λ_ _ _=>bq))) aZ) aZ⟩
def yX(par bj:List Int)(k:Int)(j:Nat):List Int:=((List.range j).filter λc=>match bj[c]? with|some h=>E9 par k h|none=>az).map λ(c:Nat)=>(c:Int)
theorem asU{par bj:List Int}{k:Int}{j:Nat}(h:j<Q bj):yX par bj k (j+1)=if E9 par k bj[j]then yX par bj k j++[(j:Int)]else yX par bj k j:=by unfold yX;rw[List.range_succ,List.filter_append,List.map_append];have t:bj[j]?=I bj[j]:=aE h;cases hu:E9 par k bj[j] <;> simp[t,hu]
theorem aeW par bj k j:Q (yX par bj k j)<=j:=by
 grind [yX]
theorem asi{M p B w}(h:cS M p B w)(z:cX B) t :
 aK prog 233 #[aj (I ⟨p.g,0,U⟩),G J t] w λe w'=>∃v',e=ak v'/\bK (λk=>k<Z (D w)) (Z (D w)) 3 eu (xM B t) v' w'/\K w w':=by
 have HR:Hid (xM B t=yX B.par B.bj t (Q B.bj)):=aY rfl
 have:=RL z.hm
 have:=(ud z.tr).2
 have y:=aY λW (k:K w W)=>(h.df.at k).par
 have hh:=h.df.now.bj
 have q:=h.q
 obtain⟨g,gl,gd,gr,gt,vd,vr,vp,vh,vl,vq,va,vt,vf,vw,kr⟩:=p
 simp only at q hh y
 have hvp:=bD (y.aX w (K.rf w))
 obtain⟨Ap,cp,rfl⟩:=hvp
 have CU:=aY λW (k:K w W) b=>axo B.par t b _ W (y.aX W k) aZ
 generalize xM B t=R at *
 obtain⟨A,c1,rfl,hl,-⟩:=hh
 have Y:=K.rf w
 have jK:=bK.nil (λk=>k<Z (D w)) (Z (D w)) 3 eu w
 clear h z y
 go_in
 go_wp2_with fail
 go_loopw [5,6,7,13] (fun vo _ _ i W=>∃j:Nat,j<=Q B.bj/\i=G J j/\bK (fun k=>k<Z (D w)) (Z (D w)) 3 eu (yX B.par B.bj t j) vo W/\K w W) (fun _ _ _ i _=>Q B.bj-(aO i).toNat)
 case atStart=>exact⟨0,aZ,rfl,jK,Y⟩
 case round =>
  clear jK Y;obtain⟨j,hj,rfl,hO,kr⟩:=hrel;by_cases hlt:j<Q B.bj
  ·have cd:(j:Int)<Q B.bj:=aZ;obtain⟨b1,off,rfl,hcell⟩:=ints_at hl aZ;have q2:=hcell wr kr j hlt;have HS:=aY (asU (par:=B.par) (k:=t) hlt);have:=aeW B.par B.bj t j;generalize B.bj[j]=hm at *;have L:=aY (CU.aX wr kr hm);generalize yX B.par B.bj t j=o at *;obtain⟨O,T,rfl⟩:=hO.slice;clear hcell;go_wp2_with fail
   apply dP L.aX kr;intro w2 k2 pI;have C:=hO.st k2;clear L q2 hO;cases hu:E9 B.par t hm
   ·have y:Hid (yX B.par B.bj t (j+1)=o):=aY (by rw[HS.aX,hu];rfl);clear hu;go_wp2;go_roundw
    case rel=>exact⟨j+1,aZ,cU,by rw[y.aX];exact C,pI⟩
    case measure=>simp[aO];omega
   have y:Hid (yX B.par B.bj t (j+1)=o++[(j:Int)]):=aY (by rw[HS.aX,hu];rfl);have X:=fL.new (S:=eu) (e:=3) (x:=(j:Int)) (v:=G J j) (w:=w2) (N:=λk=>k<Z (D w)∨aW (F O (Q o) T)=I k) (λW u=>rfl) 0 (eO _);have kA:=K.new w2 (aq #[G J j] 3);have H:=C.st kA;have V:=pI.tr kA;have s8:=V.size;clear C hu;go_wp2_with (at_builtin;refine kI rfl _ _ 23 rfl _ 1 8 Fc rfl rfl H _ rfl (j:Int) ?p1 ?p2 ?p3 ?_)
   case p1=>exact X
   case p2=>omega
   case p3=>simpa using s8
   intro v9 w9 cR dF fO cN;have yO:=V.trans cN;clear X H dF fO cN;go_wp2;go_roundw
   case rel=>exact⟨j+1,aZ,cU,by rw[y.aX];exact cR,yO⟩
   case measure=>simp[aO];omega
  ·have cd:¬(j:Int)<Q B.bj:=aZ;obtain rfl:j=Q B.bj:=aZ;rw[<- HR.aX]at hO;obtain⟨O,T,rfl⟩:=hO.slice;exact Sz
theorem bK.abz{α S Y base e l go cap w}(h:bK Y base e S l (F (I ⟨go,0,U⟩) (Q l) cap) w){j}(O:j<Q l){y:α}{cs}(V:Q cs=S.size)
 (H:Fx (λk=>Y k∨k=go) (λW=>S.rel y cs W) (dL w go (j*S.size) cs)):bK Y base e S (l.set j y) (F (I ⟨go,0,U⟩) (Q l) cap) (dL w go (j*S.size) cs):=by
 obtain⟨css,M,R,A⟩:=h
 have z:=A w (bf.rf _ _)
 have L:j<Q css:=aZ
 have C:=z.lens
 have:=z.Gf
 have hb:j*S.size+S.size<=Q l*S.size:=by
  have:=Nat.mul_le_mul_right S.size (show j+1<=Q l from O)
  grind
 have B:=RB cs css.flatten (j*S.size) w M aZ
 have t:=QT S.size cs css C j 0 L aZ
 rw[Nat.add_zero]at t
 rw[t,WZ cs css[j] 0 bG,TG,bU]at B
 refine⟨css.set j cs,bG,bG,λw' u=>?_⟩
 have N:bf (λk=>Y k∨aW (F (I ⟨go,0,U⟩) (Q l) cap)=I k) w (dL w go (j*S.size) cs):=bf.sets (X:=λk=>Y k∨aW (F (I ⟨go,0,U⟩) (Q l) cap)=I k) (aJ rfl) cs _ w
 exact (A w' (N.tr u)).set j (H w' (u.more λk hk=>hk.imp id λe=>by simpa [Value.ownBlock]using e.symm))
def sV(L:List bW)(cs:List Int)(n j:Nat)(l:List bW):List bW:=l.zipIdx.map λp=>if p.2<j then lM (mw (L.take (n+p.2))) cs p.1 else p.1
theorem ax2 L cs n l:sV L cs n 0 l=l:=by simp[sV]
theorem Hv L cs n j l:Q (sV L cs n j l)=Q l:=by simp[sV]
theorem aBw L cs n j l(h:j<Q l):(sV L cs n j l)[j]'(by rw[Hv];exact h)=l[j]:=by
 grind [sV]
theorem aI9 L cs n j l i:(sV L cs n j l)[i]?=(l[i]?).map λx=>if i<j then lM (mw (L.take (n+i))) cs x else x:=by
 grind [sV,lM,mw]
theorem ax3 L cs n j l(h:j<Q l):sV L cs n (j+1) l=(sV L cs n j l).set j (lM (mw (L.take (n+j))) cs l[j]):=by
 apply List.ext_getElem?
 intro i
 grind [sV,lM,mw]
theorem azZ B cs n l:sV B.st.list cs n (Q l) l=Dj B cs n l:=by
 grind [sV,Dj,List.map_congr_left,List.mem_zipIdx]
theorem az0{l}(h:∀x∈l,dm x=aA):∀s∈mw l,okF s.f=true:=by
 have key:∀(l:List bW) (o:List nB),(∀x∈l,dm x=aA)->(∀s∈o,okF s.f=aA)->∀s∈l.foldl mQ o,okF s.f=true:=by
  intro l
  induction l with
  | nil=>intro o _ ho;exact ho
  | cons x l t =>
   intro o j ho;refine t _ (λy hy=>j y Kn) ?_;unfold mQ;split
   ·exact ho
   unfold wS;split
   ·rename_i z;intro s hs;simp only[De,List.mem_singleton]at hs;rcases hs with (hs|rfl)|hs
    ·exact S4
    ·rcases (FD (j x bq)).2.2 with ⟨g,-⟩|⟨g,-⟩|⟨-,-,g⟩
     ·omega
     ·omega
     ·exact g
    ·exact S4
   ·split
    ·intro s hs;rcases List.mem_append.1 hs with hs|hs
     ·exact S4
     ·exact S4
    ·exact ho
 exact key l [] h λs hs=>by simp at hs
theorem aCM(n:Nat)(h:n<=1000000):J.wrap (n:Int)=n:=by rw[IntKind.wrap_i64];omega
theorem ank(n:Nat)(h:n<=1000000):E.wrap (n:Int)=n:=by show (n:Int)%2^64=_;omega
theorem az1{B B' x v W w}(h:yd B x v w)(hb:B'<=B)(k:K W w):∃v',ak v=ak v'/\(∃vf ve,v'=av (bQ x vf ve)/\Fx (λk=>k<B') (λW=>cF.rel x (bQ x vf ve).toList W) w)/\K W w:=by obtain⟨vf,ve,e,h⟩:=Et h;exact⟨_,rfl,⟨vf,ve,e,h.less λk hk=>cQ hk hb⟩,k⟩
theorem asj{M p B w}(h:cS M p B w)(T:cX B)(hn:B.told.Nodup)(iO:Q B.told<=800000) t :
 aK prog 166 #[aj (I ⟨p.g,0,U⟩),G J t] w λe w'=>∃v',e=ak v'/\nG (wN B t) v' w'/\K w w':=by
 have VH:Hid (wN B t=⟨2,rS B t,[],[],Dj B (xM B t) (rS B t) (Bf B.st.list (rS B t)),((if pn B then B.waits else B.st.prom).take 16).map (lM (mw B.st.list) (xM B t)),wX (EE B) (jZ B t).asks,wW B.st B.waits (jZ B t)⟩):=aY rfl
 have aJI:=T.anj t
 have hinv:=T.dk.inv
 have gG:=T.FY
 have hlen:=T.dk.len
 have hwl:=T.BB
 have hhv:rS B t<=Q B.st.list:=Nat.min_le_right _ _
 have HH:Hid (rS B t=min (jZ B t).got (Q B.st.list)):=aY rfl
 have q:=h.q
 have Q1:=aY λW (k:K w W)=>(Ej (Dn (P:=prog) (kt:=3) underlying3) underlying159 (anh W) (h.rep.st k) t).2
 have HM:Hid (∀W,K w W->nG (jZ B t) ((eA p.kr t).getD (av Fk)) W):=aY λW k=>(h.df.at k).dq.look t
 have CC:=aY λW (k:K w W)=>asi (h.st k) T t
 have CS:=aY λW (k:K w W) n hn=>aff (h.st k) T n hn
 have CF:=aY λW (k:K w W)=>awl B.st.list (rS B t) p.vl W (h.df.at k).list gG.1 aZ aZ
 have CK:=aY λW (k:K w W)=>atl (h.st k) T hn
 have CR:=aY λW (k:K w W)=>Q6 (h.st k)
 have HD:=aY λW (k:K w W)=>h.df.at k
 have HSO:=aY λn=>az0 (l:=B.st.list.take n) λx hx=>(hinv.B6 x (lB hx)).1
 have HSL:=aY λn=>Xq (B.st.list.take n)
 have sW:Q (EE B)<=1000000:=by unfold EE;rw[eU];omega
 have HOL:=aY hinv.B6
 have HOP:=aY hinv.B7
 have HOW:=aY T.waits
 have hcl:Q (xM B t)<=32:=by have:=aeW B.par B.bj t (Q B.bj);have:=(RL T.hm).2;show Q (yX B.par B.bj t (Q B.bj))<=32;omega
 have HCA:Hid (∀j l,j=Q l->sV B.st.list (xM B t) (rS B t) j l=Dj B (xM B t) (rS B t) l):=aY λj l e=>by rw[e];exact azZ B _ _ l
 have dM:∀x∈Bf B.st.list (rS B t),x∈B.st.list:=λx hx=>List.mem_of_mem_drop (lB hx)
 have hfn:Q (Bf B.st.list (rS B t))+rS B t<=Q B.st.list:=by unfold Bf;simp;omega
 have UU:=aY dM
 generalize wN B t=R at *
 generalize xM B t=cs at *
 generalize EE B=kn at *
 generalize rS B t=C at *
 generalize jZ B t=A at *
 generalize Bf B.st.list C=es at *
 obtain⟨g,gl,gd,gr,gt,vd,vr,vp,vh,vl,vq,va,vt,vf,vw,kr⟩:=p
 simp only at q Q1 HM CC CS CF CK CR HD
 have uZ:=HD.aX w (K.rf w)
 obtain⟨Al,cl,rfl⟩:=bD uZ.list
 obtain⟨Aq,cq,rfl⟩:=bD uZ.prom
 obtain⟨Aa,ca,rfl⟩:=bD uZ.ab
 obtain⟨Aw,cw,rfl⟩:=bD uZ.waits
 obtain⟨m1,m2,m3,m4,m5,m6,em,oM,hm2,zt,DD,Lg,zw⟩:=HM.aX w (K.rf w)
 obtain⟨A1,c1,rfl⟩:=bD oM
 obtain⟨A2,c2,rfl⟩:=bD hm2
 obtain⟨A3,c3,rfl⟩:=bD zt
 obtain⟨A4,c4,rfl⟩:=bD DD
 obtain⟨A5,c5,rfl⟩:=bD Lg
 obtain⟨A6,c6,rfl⟩:=bD zw
 rw[em]at HM Q1
 have Pv:=bn.new w 239 Fk
 have k1:=Pv.cC
 simp only[encI]at Q1
 clear h T hn uZ em oM hm2 zt DD Lg zw hinv dM
 go_in
 go_upto_region 1 with fail
 generalize w.alloc _=w1 at *
 generalize vV:Z (D w)=gz at Pv⊢
 have HGZ:=aY vV
 clear vV
 have ql:=Q1.aX w1 k1
 have hx:=bn.new w1 239 (mK A (F A1 (Q A.dU) c1) (F A2 (Q A.asks) c2) (F A3 (Q A.entries) c3) (F A4 (Q A.gu) c4) (F A5 (Q A.fA) c5) (F A6 (Q A.ends) c6))
 have k2:=hx.cC
 go_upto_region 2 with fail
 have aou:=Pv.bF k2
 have mY:=k1.tr k2
 generalize ay w1 _=w2 at *
 generalize Fj:Z (D w1)=gx at hx⊢
 clear ql Fj Pv
 go_wp2_with fail
 apply dD (CC.aX w2 mY)
 rintro v7 w3⟨jh,k3⟩
 have VI:=aY λW (k:K w3 W)=>cH jh.bw k
 obtain⟨A7,c7,rfl⟩:=jh.slice
 have sy:=mY.tr k3
 have iH:=hx.bF k3
 have aov:=aou.bF k3
 have qx:=iH.cell
 have hw:=ank (Q B.st.list) aZ
 have CF3:=aY (CF.aX w3 sy)
 clear CC CF Q1 jh hx aou
 go_wp2_with fail
 rw[show min ((A.got:Nat):Int) ((Q B.st.list:Nat):Int)=(C:Int) by rw[HH.aX];omega]
 apply dD CF3.aX
 rintro v9 w4⟨Y,k4⟩
 obtain⟨A9,c9,rfl⟩:=Y.slice
 have kk:=k4
 have H:bK (λk=>k<Z (D w3)) (Z (D w3)) 128 cF (sV B.st.list cs C 0 es) (F A9 (Q es) c9) w4:=by rw[ax2];exact Y
 clear CF3 qx hw k4 Y HH
 go_wp2_with fail
 go_loopw [10,11,46] (fun _ _ i W=>∃j:Nat,j<=Q es/\i=G J j/\bK (fun k=>k<Z (D w3)) (Z (D w3)) 128 cF (sV B.st.list cs C j es) (F A9 (Q es) c9) W/\K w3 W) (fun _ _ i _=>Q es-(aO i).toNat)
 case atStart=>exact⟨0,aZ,rfl,H,kk⟩
 case round =>
  clear H kk;obtain⟨j,hj,rfl,H,kr⟩:=hrel;by_cases hlt:j<Q es
  ·have cd:(j:Int)<Q es:=aZ;obtain⟨go,cap,e9,hgo⟩:∃go cap,F A9 (Q es) c9=F (I ⟨go,0,U⟩) (Q es) cap/\Z (D w3)<=go:=by
    obtain⟨css,hrow,-,-⟩:=H;rcases hrow.2 with ⟨-,h0⟩|⟨go,cap,cur,e,hg,-⟩
    ·rw[Hv]at h0;omega
    ·rw[Hv]at e;exact⟨go,cap,e,hg⟩
   injection e9 with e1 _ e3;subst e1 e3;have VG:j<Q (sV B.st.list cs C j es):=by rw[Hv];exact hlt
   obtain⟨A0,c0,e0,uD,-⟩:=H.bw;injection e0 with e0 _ _;subst e0;obtain⟨b1,off,cs9,e9,jU,hrl,d0,d⟩:=eN uD j VG bC;cases e9;have HS:=aY (ax3 B.st.list cs C j es hlt);have Vc:=hrl wr (K.rf wr);rw[aBw _ _ _ _ _ hlt]at Vc;have hxL:=UU.aX _ (dG hlt);have hxo:=HOL.aX _ hxL;generalize es[j]=x at *;obtain⟨DQ,DR,rfl,hf,he⟩:=Vc;have HE:Hid (∀W,K wr W->fc x (av (bQ x DQ DR)) W):=aY λW k=>⟨_,_,rfl,fJ _ _ _ _ hf k,cH he k⟩
   have q:∀i,i<8->wr.cell? ⟨go,j*8+i,U⟩=(bQ x DQ DR)[i]?:=λi hi=>by have:=d wr (K.rf wr) i hi;rw[ng]at this;exact this.trans aD
   have q0:wr.cell? ⟨go,j*8,U⟩=I (G J x.kind):=q 0 bC;have HQ:Hid (∀W,K wr W->∀i,i<8->W.cell? ⟨go,j*8+i,U⟩=(bQ x DQ DR)[i]?):=aY λW k i hi=>by have:=d W k i hi;rw[ng]at this;exact this.trans aD
   have uU:=bn.new wr 128 (bQ x DQ DR);have k8:=uU.cC;obtain⟨Af,cf,rfl⟩:=dK hf;obtain⟨Ae,ce,rfl⟩:=bD he;have HO:=aY H;clear d d0 hf he hrl jU uD H;go_upto_region 9 with fail;generalize wr.alloc _=w6 at *;have qh:=kr.tr k8;have k16:=sy.tr qh;have Lh:C+j<=Q B.st.list:=aZ;have hwi:=aCM C aZ;have hwj:J.wrap ((C:Int)+j)=(C:Int)+j:=EA;have C1:=aY λW k=>by have:=CS.aX W k (C+j) Lh;rw[Int.natCast_add]at this;exact this
   have mc:=HSL.aX (C+j);have uP:=HSO.aX (C+j);simp only[qN]at mc;have C2:=aY λvS W (k:K w6 W) (hS:bw jM (mw (B.st.list.take (C+j))) vS W)=>agO (mw (B.st.list.take (C+j))) cs x vS _ _ W hS (VI.aX W (qh.tr k)) (HE.aX W (k8.tr k)) aZ aZ uP hxo.1
   generalize mw (B.st.list.take (C+j))=sj at *;generalize lM sj cs x=y at *;have qx8:=uU.cells;clear q q0 mc uP;have qs:=aB hwi (aB hwj qx8);refine eQ 11 ?_;iterate 7 refine bA.i ?_
   refine bA.c (λv W=>bw jM sj v W) (λ_ _ _ h k=>cH h k) (λW k=>(C1.aX W (k16.tr k)).mono λe w' ⟨v,e1,h1,k1⟩=>⟨v,e1,h1.bw,k1⟩) ?_;iterate 2 refine bA.i ?_
   refine bA.d (λv W=>∃vf ve,v=av (bQ y vf ve)/\Fx (λk=>k<Z (D w6)) (λW=>cF.rel y (bQ y vf ve).toList W) W) (λ_ _ _ ⟨vf,ve,e,h⟩ k=>⟨vf,ve,e,h.k k⟩) (λV W k hp=>(C2.aX _ W k (hp 7 bq)).mono λe w' ⟨v,e1,h1,k1⟩=>e1▸az1 h1 k.size k1) ?_;intro V W kW hA;simp only[bU,bZ,dx,bM,Nat.reduceAdd]at hA;obtain⟨f0,f1,-,-,-,-,-,-,-,-,⟨qC,qD,f10,hF⟩,-⟩:=hA;have hfn:=hF.now;obtain⟨LJ,LK,e3,VJ,VK⟩:=hfn;cases e3;obtain⟨Cg,Ch,rfl⟩:=dK VJ;obtain⟨yL,yM,rfl⟩:=bD VK;have kF:K wr W:=k8.tr kW;have Y:=HO.aX.st kF;have hfz:∀i,W.frozen? ⟨go,i,U⟩=false:=by obtain⟨css,hrow,-,-⟩:=Y;rw[Hv]at hrow;exact (Hi hrow).2
   have hq:=HQ.aX W kF;have Gt:W.cell? ⟨go,j*8,U⟩=I (G J x.kind):=hq 0 bC;refine bJ.pure (aj (I ⟨go,j*8,U⟩)) rfl (by simp[bP,aC,cK,f0,f1,aL,bR,cd,go_sem]) ?_;refine bJ.skip (dL W go (j*8) [G J y.kind,G J y.br,G E y.life,G E y.dN,G J y.cl,G E y.sub,F Cg (Q y.f) Ch,F yL (Q y.es) yM]) rfl (by simp[bP,aC,cK,f10,aL,bR,hq,Gt,hfz,dL,go_sem]) ?_;refine bJ.e ?_;have iR:=(HO.aX.blk go rfl).2;have s8:=k8.size;have GY:=kW.size;have u9:bf (λk=>k=go) W (dL W go (j*8) [G J y.kind,G J y.br,G E y.life,G E y.dN,G J y.cl,G E y.sub,F Cg (Q y.f) Ch,F yL (Q y.es) yM]):=bf.sets (X:=λk=>k=go) (g:=go) rfl _ _ W;have L8:=(hF.up u9 λk e=>S5).less (N:=λk=>k<Z (D w3)∨k=go) λk hk=>by have:=qh.size;rcases hk with hk|hk <;> omega
   rw[show Q es=Q (sV B.st.list cs C j es)from (Hv _ _ _ _ _).symm]at Y;have pX:=Y.abz (j:=j) VG (y:=y) rfl L8;rw[<- HS.aX,Hv]at pX;have kF9:=u9.k (qh.tr kW) λk e=>by subst e;exact hgo
   clear hq Gt hfz hF Y f0 f1 qs f10 qx8 L8 u9;go_wp2;go_roundw
   case rel=>exact⟨j+1,aZ,cU,pX,kF9⟩
   case measure=>simp[aO];omega
  ·have cd:¬(j:Int)<Q es:=aZ;obtain rfl:j=Q es:=aZ;rw[HCA.aX _ _ rfl]at H;have hce:Q (Dj B cs C es)=Q es:=by simp[Dj]
   have VL:=aY hce;have mV:=aY (H.fx λk hk=>hk);rw[<- hce]at mV;obtain⟨z,K3⟩:∃z,z=if pn B then B.waits else B.st.prom:=⟨_,rfl⟩
   obtain⟨Am,cm,hmt,LP,yq,hmo⟩:∃Am cm,(pn B=aA->F Aw (Q B.waits) cw=F Am (Q z) cm)/\(pn B=az->F Aq (Q B.st.prom) cq=F Am (Q z) cm)/\(∀W,K w W->bw cF z (F Am (Q z) cm) W)/\∀x∈z,dm x=aA/\dQ x:=by
    cases hr:pn B
    ·rw[hr]at K3;obtain rfl:z=B.st.prom:=K3;exact⟨Aq,cq,λh=>sH,λ_=>rfl,λW k=>(HD.aX W k).prom,HOP.aX⟩
    ·rw[hr]at K3;obtain rfl:z=B.waits:=K3;exact⟨Aw,cw,λ_=>rfl,λh=>sH,λW k=>(HD.aX W k).waits,HOW.aX⟩
   rw[<- K3]at VH;have HMT:=aY hmt;have HMF:=aY LP;have VM:=aY yq;have HMO:=aY hmo;have kV:=sy.tr kr;have CR7:=aY (CR.aX wr kV);clear H hce hmt LP yq hmo K3 CR HOP HOW HOL UU;go_wp2_with fail
   apply dP CR7.aX kr;intro w7 k7 ry;have VN:=kV.tr k7;have sg:=iH.bF ry;have aED:=aov.bF ry;clear CR7;go_upto_if 70 with fail;go_cut [12,70]from 71 to 74 (fun v _ W=>v=F Am (Q z) cm/\w7=W)
   case first =>
    cases hr:pn B
    ·have e:=aY (HMF.aX hr);exact alA
    ·have e:=aY (HMT.aX hr);exact alA
   case rest =>
    obtain⟨rfl,rfl⟩:=hcut;clear HMT HMF;have C8:=aY (CS.aX w7 VN (Q B.st.list) (bL _));have mc:=HSL.aX (Q B.st.list);have uP:=HSO.aX (Q B.st.list);rw[nN]at C8 mc uP;have zx:z.take 16=z.take (min (Q z) 16):=by rw[List.take_eq_take_iff];omega
    rw[zx]at VH;obtain⟨O,hnm⟩:∃O,O=min (Q z) 16:=⟨_,rfl⟩;rw[<- hnm]at VH;have HNM:=aY hnm;generalize mw B.st.list=sl at *;clear zx hnm;go_wp2_with fail
    apply dD C8.aX;rintro v13 L⟨abA,k8⟩;have aEE:=aY λW (k:K L W)=>cH abA.bw k
    have mV:=aY (mV.aX.k (k7.tr k8));have VI:=aY λW (k:K L W)=>VI.aX W ((ry.tr k8).tr k)
    obtain⟨A13,c13,rfl⟩:=abA.slice;have k18:=VN.tr k8;have uU:=sg.bF k8;have aow:=aED.bF k8;have sD:=ry.tr k8;have hcm:Q z<=cm:=by obtain⟨_,_,e,-,hc⟩:=VM.aX L k18;injection e with _ _ e3;rw[e3];exact hc
    have aEF:min ((Q z:Nat):Int) 16=(O:Int):=ZO;have fF:O<=Q z:=ZO;have aJJ:O<=16:=ZO;have hnc:(O:Int)<=cm:=aZ;clear C8 abA;go_wp2_with fail
    have kk:=K.rf L;have H:=bK.nil (λk=>k<Z (D L)) (Z (D L)) 128 cF L;go_loopw [14,16,84] (fun o _ i W=>∃j:Nat,j<=O/\i=G J j/\bK (fun k=>k<Z (D L)) (Z (D L)) 128 cF ((z.take j).map (lM sl cs)) o W/\K L W) (fun _ _ i _=>O-(aO i).toNat)
    case atStart=>exact⟨0,aZ,rfl,by simpa using H,kk⟩
    case round =>
     clear H kk aEF hcm hnc;obtain⟨j,hj,rfl,H,kq⟩:=hrel;by_cases tJ:j<O
     ·have aEG:(j:Int)<O:=aZ;obtain⟨_,_,e0,uD,-⟩:=VM.aX L k18;injection e0 with e0 e00 e01;subst e0;clear e00 e01;have hjm:j<Q z:=aZ;obtain⟨b1,off,cs9,rfl,jU,hrl,d0,d⟩:=eN uD j hjm bC;have HS:Hid ((z.take (j+1)).map (lM sl cs)=(z.take j).map (lM sl cs)++[lM sl cs z[j]]):=aY (by rw[ix hjm,List.map_append];rfl);have hxo:=HMO.aX _ (dG hjm);have G1:Hid (Q ((z.take j).map (lM sl cs))=j):=aY cG;generalize z[j]=x at *;obtain⟨DQ,DR,rfl,hf,he⟩:=hrl L (K.rf L);have HE:Hid (∀W,K L W->fc x (av (bQ x DQ DR)) W):=aY λW k=>⟨_,_,rfl,fJ _ _ _ _ hf k,cH he k⟩
      have q:∀i,i<8->wr.cell? ⟨b1,off+j*8+i,U⟩=(bQ x DQ DR)[i]?:=λi hi=>(d wr kq i hi).trans aD
      have q0:wr.cell? ⟨b1,off+j*8,U⟩=I (G J x.kind):=d0 wr kq;have rE:=bn.new wr 128 (bQ x DQ DR);have k9:=rE.cC;obtain⟨Af,cf,rfl⟩:=dK hf;obtain⟨Ae,ce,rfl⟩:=bD he;obtain⟨Ao,co,rfl⟩:=H.slice;have dt:=H.blk;generalize (z.take j).map (lM sl cs)=o1 at *;clear d d0 hf he hrl jU uD;go_upto_region 19 with fail;generalize wr.alloc _=w9 at *;have VO:=kq.tr k9;have qx9:=rE.cell;have Y:=H.st k9;have C9:=aY (agO sl cs x _ _ _ w9 (aEE.aX w9 VO) (VI.aX w9 VO) (HE.aX w9 VO) aZ aZ uP hxo.1);have qA:=k9.size;have hzq:=kq.size;generalize lM sl cs x=y at *;clear q q0 H rE;go_wp2_with fail
      apply dD C9.aX;rintro v10 Az⟨hy,Vv⟩;obtain⟨qC,qD,rfl,hF⟩:=Et hy;obtain⟨LJ,LK,e3,VJ,VK⟩:=hF.now;cases e3;obtain⟨Cg,Ch,rfl⟩:=dK VJ;obtain⟨yL,yM,rfl⟩:=bD VK;have ox:Fx (λk=>k<Z (D L)∨aW (F Ao (Q o1) co)=I k) (λW=>cF.rel y (av (bQ y (F Cg (Q y.f) Ch) (F yL (Q y.es) yM))).cells.toList W) Az:=hF.less λk hk=>by
       rcases hk with hk|hk
       ·omega
       ·have:=(dt k hk).2;omega
      have hr:=fL.new (S:=cF) (e:=128) (v:=av (bQ y (F Cg (Q y.f) Ch) (F yL (Q y.es) yM))) ox 0 (eO _);have kA:=K.new Az (aq (bQ y (F Cg (Q y.f) Ch) (F yL (Q y.es) yM)) 128);have pX:=(Y.st Vv).st kA;have aox:=(VO.tr Vv).tr kA;have hzA:=aox.size;clear C9 hF ox VJ VK hy Y qx9;go_wp2_with (at_builtin;refine kI rfl _ _ 59 rfl _ 8 96 rz rfl rfl pX _ rfl y ?p1 ?p2 ?p3 ?_)
      case p1=>exact hr
      case p2=>have:=G1.aX;omega
      case p3=>simpa using hzA
      intro v11 Vw Ds zj Iw K2;rw[<- HS.aX]at Ds;have kqF:=aox.trans K2;clear hr pX zj Iw K2;go_wp2;go_roundw
      case rel=>exact⟨j+1,aZ,cU,Ds,kqF⟩
      case measure=>simp[aO];omega
     ·have aEG:¬(j:Int)<O:=aZ;obtain rfl:j=O:=aZ;obtain⟨Ao,co,rfl⟩:=H.slice;have HPR:=aY (H.fx λk hk=>hk);have Ft:=k18.tr kq;have rE:=uU.bF kq;have aEH:=aow.bF kq;have qw:=λW (k:K wr W)=>q W (Ft.tr k)
      have qx:=rE.cells;have aEI:=aov.lt;have h38:=sD.size;have h8r:=kq.size;have aEJ:=aY (mV.aX.k kq);clear H mV aow uU rE;go_upto_region 21 with fail;have qs:=aB qw qx;refine eQ 18 ?_;iterate 4 refine bA.i ?_
      refine bA.c (λv W=>bw dJ kn v W) (λ_ _ _ h k=>cH h k) (λW k=>(CK.aX W (Ft.tr k)).mono λe w' ⟨v,e1,h1,k1⟩=>⟨v,e1,h1.bw,k1⟩) ?_;iterate 2 refine bA.i ?_
      refine bA.d (λv W=>Fx (λk=>k<Z (D wr)) (λW=>bw dJ (wX kn A.asks) v W) W) (λ_ _ _ h k=>h.k k) (λV W k hp=>(awk kn A.asks _ _ W (hp 4 bq) (by obtain⟨_,_,_,_,_,_,e,h⟩:=HM.aX W (Ft.tr k);cases e;exact h.2.1) sW aZ).mono λe w' ⟨v,e1,h1,k1⟩=>⟨v,e1,(h1.fx λ_ h=>h).less λi hi=>cQ hi k.size,k1⟩) ?_;iterate 9 refine bA.i ?_
      refine bA.c (λv W=>Fx (λk=>k<Z (D wr)) (λW=>bw dJ (wW B.st B.waits A) v W) W) (λ_ _ _ h k=>h.k k) (λW k=>(av6 B.st B.waits A _ _ _ _ _ W ⟨_,_,_,rfl,(HD.aX W (Ft.tr k)).list,(HD.aX W (Ft.tr k)).prom,(HD.aX W (Ft.tr k)).ab⟩ (HD.aX W (Ft.tr k)).waits (HM.aX W (Ft.tr k)) ⟨aZ,aZ⟩ aZ aZ).mono λe w' ⟨v,e1,h1,k1⟩=>⟨v,e1,(h1.fx λ_ h=>h).less λi hi=>cQ hi k.size,k1⟩) ?_;intro V W kW hA;simp only[bU,bZ,dx,bM,Nat.reduceAdd]at hA;obtain⟨f0,f1,f2,-,-,-,-,f7,-,-,-,-,-,-,-,-,-,f17,-⟩:=id hA;obtain⟨At,ct,et⟩:=bD f7.now;obtain⟨Ae,ce,ee⟩:=bD f17.now;rw[et]at f7;rw[ee]at f17;have GY:=aEH.bF kW;have qz:=GY.cell;have zz:=GY.frozen;have UJ:=aY (HPR.aX.k kW);have HE9:=aY (aEJ.aX.k kW);have F7:=aY f7;have F17:=aY f17;clear f7 f17 hA qs qw qx;refine bJ.pure (av #[G J 2,G E C,F U 0 0,F U 0 0,F A9 (Q es) c9,F Ao (Q ((z.take j).map (lM sl cs))) co,F At (Q (wX kn A.asks)) ct,F Ae (Q (wW B.st B.waits A)) ce]) rfl (by simp[bP,aC,f0,f1,f2,et,ee,aL,bR,go_sem]) ?_;refine bJ.skip (dL W gz 0 [G J 2,G E C,F U 0 0,F U 0 0,F A9 (Q es) c9,F Ao (Q ((z.take j).map (lM sl cs))) co,F At (Q (wX kn A.asks)) ct,F Ae (Q (wW B.st B.waits A)) ce]) rfl (by simp[bP,aC,cK,aL,bR,qz,zz,dL,go_sem]) ?_;refine bJ.e ?_;have xy:=Cy (us:=[G J 2,G E C,F U 0 0,F U 0 0,F A9 (Q es) c9,F Ao (Q ((z.take j).map (lM sl cs))) co,F At (Q (wX kn A.asks)) ct,F Ae (Q (wW B.st B.waits A)) ce]) GY rfl;have u9:=bf.sets (X:=λk=>k=gz) (g:=gz) rfl ([G J 2,G E C,F U 0 0,F U 0 0,F A9 (Q es) c9,F Ao (Q ((z.take j).map (lM sl cs))) co,F At (Q (wX kn A.asks)) ct,F Ae (Q (wW B.st B.waits A)) ce]) 0 W;have Mi:=aY (show nG R (av #[G J 2,G E C,F U 0 0,F U 0 0,F A9 (Q es) c9,F Ao (Q ((z.take j).map (lM sl cs))) co,F At (Q (wX kn A.asks)) ct,F Ae (Q (wW B.st B.waits A)) ce]) (dL W gz 0 ([G J 2,G E C,F U 0 0,F U 0 0,F A9 (Q es) c9,F Ao (Q ((z.take j).map (lM sl cs))) co,F At (Q (wX kn A.asks)) ct,F Ae (Q (wW B.st B.waits A)) ce])) by
       have g1:=(HE9.aX.up u9 λk e=>by subst e;exact aEI).now;rw[VL.aX]at g1;rw[VH.aX];exact⟨_,_,_,_,_,_,rfl,gN _ _,gN _ _,g1,(UJ.aX.up u9 λk e=>S5).now,(F7.aX.up u9 λk e=>S5).now,(F17.aX.up u9 λk e=>S5).now⟩)
      have HK:=aY (u9.k (Ft.tr kW) λk e=>by have:=HGZ.aX;omega);clear u9 GY qz zz UJ HE9 F7 F17 f0 f1 f2 et ee;generalize dL W gz 0 _=W9 at *;have e9:=xy.cell;go_wp2;refine aM (v:=av #[G J 2,G E C,F U 0 0,F U 0 0,F A9 (Q es) c9,F Ao (Q ((z.take j).map (lM sl cs))) co,F At (Q (wX kn A.asks)) ct,F Ae (Q (wW B.st B.waits A)) ce]) (by simp[results,results166,go_sem,e9]) rfl ?_;exact⟨_,rfl,Mi.aX,HK.aX⟩
theorem M4{a}(h:dX a):Q (iy a)<=30000:=alB
theorem awo{a}(h:dX a):Q (iy a)<=27:=alB
theorem Xt{v}(h:dX v.id):Q (nj v)<=30000:=by
 grind [awo,eM,nj,eU]
theorem afZ{x}(h:dQ x):Q (rM x)<=20000:=by
 grind [rM,dm,MW]
theorem Hn{x}(h:dQ x):Q (iP x)<=30000:=by
 grind [afZ,eM,rM,iP,jA,eU]
theorem Nb{α:Type}(enc:α->List UInt8) B:∀(l:List α),(∀x∈l,Q (enc x)<=B)->Q (l.flatMap enc)<=B*Q l
 | [],_=>bq
 | x :: l,h=>by have:=h x bq;have:=Nb enc B l (λy hy=>h y Kn);simp only[xV,eU,fY,Nat.mul_succ];omega
theorem afp l v a w(h:sl l v w)(hl:Q l<=900000000)(S:dX a) :
 aK prog 225 #[v,av (dZ a)] w λe w'=>∃v',e=ak v'/\Own w' (Z (D w)) 5 v' (l++iy a)/\K w w':=by
 obtain⟨A,c,rfl,V⟩:=h
 obtain⟨b,j,y⟩:=a
 obtain⟨T,z,L⟩:=S
 simp only at T z L
 have:=eM (cL b) (jb b)
 have p1:=eM j z
 have M:=bn.new w 42 #[G J b,G E j,G E y]
 have k1:=M.cC
 have Y:=(V.below k1 (bL _)).more k1.size
 go_in
 go_upto_region 1 with fail
 generalize w.alloc _=H at *
 have:=M.cells
 have C:=K.rf H
 go_wp2_with fail
 rw[FI b]
 apply dD (yU A _ c l (cL b) (jb b) H _ Y (bL _) aZ)
 rintro v2 w2⟨O,t⟩
 obtain⟨W,c2,rfl,zq⟩:=(gD O)
 have:Q (l++bI (cL b))<=900000009:=cG
 generalize hm2:Q (l++bI (cL b))=N at *
 go_wp2_with fail
 apply dD (yU W N c2 _ j z w2 _ zq (bL _) aZ)
 rintro v3 w3⟨iB,k3⟩
 replace t:=t.tr k3
 obtain⟨A3,c3,rfl,zo⟩:=(gD iB)
 have:Q (l++bI (cL b)++bI j)<=900000018:=cG
 generalize zt:Q (l++bI (cL b)++bI j)=m3 at *
 go_wp2_with fail
 apply dD (yU A3 m3 c3 _ y L w3 _ zo (bL _) aZ)
 rintro v4 w4⟨R,X⟩
 have B:=oy (k1.tr t).size R
 have e9:l++bI (cL b)++bI j++bI y=l++iy (b,j,y):=by simp[iy]
 rw[e9]at B
 have HS:=aY B
 have C:=k1.tr (t.tr X)
 go_wp2
 go_ret
 exact⟨_,rfl,HS.aX,C⟩
theorem asV l v x w(h:sl l v w)(hl:Q l<=800000000)(H:dX x.id) :
 aK prog 221 #[v,av (jn x)] w λe w'=>∃v',e=ak v'/\Own w' (Z (D w)) 5 v' (l++nj x)/\K w w':=by
 have z:=bn.new w 300 (jn x)
 have k1:=z.cC
 have T:=pQ _ _ _ _ h k1
 have B:=aY (afp l v x.id _ T aZ H)
 have C:=M4 H
 obtain⟨A,c,rfl,-⟩:=h
 obtain⟨a,y⟩:=x
 have C:Q (iy a)<=30000:=C
 go_in
 go_upto_region 1 with fail
 generalize w.alloc _=N at *
 generalize Z (D w)=g at z⊢
 have:=z.cells
 have:=K.rf N
 cases y
 ·go_wp2_with fail
  apply dD B.aX;rintro V W⟨hs,k2⟩;have j:=xK 0 (gD hs) aZ bG;rw[show ((0:Nat):Int)=0 from rfl]at j;replace j:=aY j;obtain⟨M,c2,rfl,-⟩:=gD hs;generalize S:Q (l++iy a)=L at *;go_wp2_with fail
  apply dD j.aX;rintro R O⟨t,k3⟩;have hs:=oy (k1.tr k2).size t;rw[show l++iy a++bI 0=l++nj ⟨a,az⟩from by simp[nj]]at hs;exact alC
 ·go_wp2_with fail
  apply dD B.aX;rintro V W⟨hs,k2⟩;have j:=xK 1 (gD hs) aZ bG;rw[show ((1:Nat):Int)=1 from rfl]at j;replace j:=aY j;obtain⟨M,c2,rfl,-⟩:=gD hs;generalize S:Q (l++iy a)=L at *;go_wp2_with fail
  apply dD j.aX;rintro R O⟨t,k3⟩;have hs:=oy (k1.tr k2).size t;rw[show l++iy a++bI 1=l++nj ⟨a,aA⟩from by simp[nj]]at hs;exact alC
theorem asl l v x u w(h:sl l v w)(O:fc x u w)(hl:Q l<=800000000)(y:dQ x) :
 aK prog 223 #[v,u] w λe w'=>∃v',e=ak v'/\Own w' (Z (D w)) 5 v' (l++iP x)/\K w w':=by
 obtain⟨vf,ve,rfl,B,z⟩:=O
 obtain⟨H,M,rfl⟩:=dK B
 obtain⟨L,N,rfl⟩:=bD z
 have k1:=K.new w (aq (bQ x (F H (Q x.f) M) (F L (Q x.es) N)) 128)
 have C:=aY (Wu x _ _ ⟨_,_,rfl,fJ _ _ _ _ B k1,cH z k1⟩ y)
 have T:=aY λW (kW:K w W)=>pQ _ _ _ _ h kW
 have:=afZ y
 obtain⟨A,c,rfl,-⟩:=h
 go_in
 go_wp2_with fail
 generalize w.alloc _=w1 at *
 refine C.aX.mono ?_
 rintro e V⟨v2,rfl,j,t⟩
 have S:=aY (RC (T.aX V (k1.tr t)) (gD j) aZ aZ)
 obtain⟨A2,c2,rfl,-⟩:=gD j
 go_wp2_with fail
 refine S.aX.mono ?_
 rintro e w3⟨v3,rfl,j,X⟩
 have R:=aY (oy (k1.tr t).size j)
 go_wp2
 go_ret
 exact⟨_,rfl,R.aX,k1.tr (t.tr X)⟩
theorem atK b l v u w(hb:sl b v w)(h:bw qj l u w)(dt:Q b<=500000000)(aoy:Q l<=16)(hfit:∀s∈l,dX s.id) :
 aK prog 220 #[v,u,.func (Fn.func 221) #[] #[]] w λe w'=>∃v',e=ak v'/\Own w' (Z (D w)) 5 v' (b++gU nj l)/\K w w':=by
 obtain⟨A,c,rfl,Y,hc⟩:=h
 have B:=aY hfit
 have C0:=aY (xK (Q l) hb aZ aZ)
 obtain⟨Ab,cb,rfl,-⟩:=hb
 have hpl:=eM (Q l) aZ
 have hu:E.wrap (Q l:Int)=Q l:=ZP
 go_in
 go_wp2_with fail
 apply dD C0.aX
 rintro v1 w1⟨X,z⟩
 have zS:=aY X
 go_wp2_with fail
 go_loopw [0,8,16] (fun o _ i wr=>∃j:Nat,j<=Q l/\i=G J j/\Hid (Own wr (Z (D w)) 5 o (b++bI (Q l)++(l.take j).flatMap nj))/\K w wr) (fun _ _ i _=>Q l-(aO i).toNat)
 case atStart=>exact⟨0,aZ,rfl,aY ZQ,z⟩
 case round =>
  obtain⟨j,hj,rfl,R,kr⟩:=hrel;by_cases hlt:j<Q l
  ·have cd:(j:Int)<Q l:=aZ;obtain⟨O,C,cs,rfl,hcl,S,L,d⟩:=eN Y j hlt bC;have HS:Hid (b++bI (Q l)++(l.take (j+1)).flatMap nj=b++bI (Q l)++(l.take j).flatMap nj++nj l[j]):=aY ZR;have y:=B.aX _ (dG hlt);have hbj:Q (b++bI (Q l)++(l.take j).flatMap nj)<=600000000:=by have:=Nb nj 30000 (l.take j) (λx t=>by have y:=B.aX x (lB t);exact Xt y);exact ZS
   generalize l[j]=x at *;obtain rfl:=S w (K.rf w);have L:∀W,K wr W->W.cell? ⟨O,C+j*4,U⟩=I (G J x.id.1):=λW kW=>L W (kr.tr kW)
   have d:∀W,K wr W->∀i,i<4->W.cell? ⟨O,C+j*4+i,U⟩=(jn x)[i]?:=λW kW i V=>(d W (kr.tr kW) i V).trans aD
   have z:=K.rf wr;have T:=K.rf wr;have t:=bn.new wr 300 (jn x);have M:=t.cC;go_upto_region 5 with fail;have xw:=kr.tr M;generalize wr.alloc _=N at *;generalize Z (D wr)=gx at *;have q:=t.cells;have z:=K.rf N;go_wp2_with fail
   apply dD (asV _ _ x N (pQ _ _ _ _ (gD R.aX) (T.tr M)) aZ y);exact ZT
  ·have cd:¬(j:Int)<Q l:=aZ;have H:=R.aX;rw[iw aZ,fN]at H;have HS:=aY (show Own wr (Z (D w)) 5 u0 (b++gU nj l)from H);exact ZU
theorem Wz b l v u w(hb:sl b v w)(h:bw cF l u w)(dt:Q b<=500000000)(aoy:Q l<=16)(hfit:∀s∈l,dQ s) :
 aK prog 222 #[v,u,.func (Fn.func 223) #[] #[]] w λe w'=>∃v',e=ak v'/\Own w' (Z (D w)) 5 v' (b++gU iP l)/\K w w':=by
 obtain⟨A,c,rfl,hl,hc⟩:=h
 have B:=aY hfit
 have C0:=aY (xK (Q l) hb aZ aZ)
 obtain⟨Ab,cb,rfl,-⟩:=hb
 have hpl:=eM (Q l) aZ
 have hu:E.wrap (Q l:Int)=Q l:=ZP
 go_in
 go_wp2_with fail
 apply dD C0.aX
 rintro v1 w1⟨ho,z⟩
 have zS:=aY ho
 go_wp2_with fail
 go_loopw [0,8,16] (fun o _ i wr=>∃j:Nat,j<=Q l/\i=G J j/\Hid (Own wr (Z (D w)) 5 o (b++bI (Q l)++(l.take j).flatMap iP))/\K w wr) (fun _ _ i _=>Q l-(aO i).toNat)
 case atStart=>exact⟨0,aZ,rfl,aY ZQ,z⟩
 case round =>
  obtain⟨j,hj,rfl,HB,kr⟩:=hrel;by_cases hlt:j<Q l
  ·have cd:(j:Int)<Q l:=aZ;obtain⟨X,H,cs,rfl,hcl,hrl,O,d⟩:=eN hl j hlt bC;have HS:Hid (b++bI (Q l)++(l.take (j+1)).flatMap iP=b++bI (Q l)++(l.take j).flatMap iP++iP l[j]):=aY ZR;have y:=B.aX _ (dG hlt);have hbj:Q (b++bI (Q l)++(l.take j).flatMap iP)<=600000000:=by have:=Nb iP 30000 (l.take j) (λx t=>by have y:=B.aX x (lB t);exact Hn y);exact ZS
   generalize l[j]=x at *;obtain⟨vf,ve,rfl,M,V⟩:=hrl w (K.rf w);obtain⟨C,T,rfl⟩:=dK M;obtain⟨N,Y,rfl⟩:=bD V;have O:∀W,K wr W->W.cell? ⟨X,H+j*8,U⟩=I (G J x.kind):=λW kW=>O W (kr.tr kW)
   have d:∀W,K wr W->∀i,i<8->W.cell? ⟨X,H+j*8+i,U⟩=(bQ x (F C (Q x.f) T) (F N (Q x.es) Y))[i]?:=λW kW i hi=>(d W (kr.tr kW) i hi).trans aD
   have z:=K.rf wr;have kw:=K.rf wr;have t:=bn.new wr 128 (bQ x (F C (Q x.f) T) (F N (Q x.es) Y));have R:=t.cC;go_upto_region 5 with fail;have xw:=kr.tr R;generalize wr.alloc _=S at *;generalize Z (D wr)=gx at *;have q:=t.cells;have z:=K.rf S;go_wp2_with fail
   apply dD (asl _ _ x _ S (pQ _ _ _ _ (gD HB.aX) (kw.tr R)) ⟨_,_,rfl,fJ _ _ _ _ M xw,cH V xw⟩ aZ y);exact ZT
  ·have cd:¬(j:Int)<Q l:=aZ;have L:=HB.aX;rw[iw aZ,fN]at L;have HS:=aY (show Own wr (Z (D w)) 5 u0 (b++gU iP l)from L);exact ZU
theorem af0 b l v u w(hb:sl b v w)(h:bw dJ l u w)(dt:Q b<=500000000)(aoy:Q l<=16)(hfit:∀s∈l,dX s) :
 aK prog 224 #[v,u,.func (Fn.func 225) #[] #[]] w λe w'=>∃v',e=ak v'/\Own w' (Z (D w)) 5 v' (b++gU iy l)/\K w w':=by
 obtain⟨A,c,rfl,Y,hc⟩:=h
 have B:=aY hfit
 have C0:=aY (xK (Q l) hb aZ aZ)
 obtain⟨Ab,cb,rfl,-⟩:=hb
 have hpl:=eM (Q l) aZ
 have hu:E.wrap (Q l:Int)=Q l:=ZP
 go_in
 go_wp2_with fail
 apply dD C0.aX
 rintro v1 w1⟨X,z⟩
 have zS:=aY X
 go_wp2_with fail
 go_loopw [0,8,16] (fun o _ i wr=>∃j:Nat,j<=Q l/\i=G J j/\Hid (Own wr (Z (D w)) 5 o (b++bI (Q l)++(l.take j).flatMap iy))/\K w wr) (fun _ _ i _=>Q l-(aO i).toNat)
 case atStart=>exact⟨0,aZ,rfl,aY ZQ,z⟩
 case round =>
  obtain⟨j,hj,rfl,R,kr⟩:=hrel;by_cases hlt:j<Q l
  ·have cd:(j:Int)<Q l:=aZ;obtain⟨O,C,cs,rfl,hcl,S,L,d⟩:=eN Y j hlt bC;have HS:Hid (b++bI (Q l)++(l.take (j+1)).flatMap iy=b++bI (Q l)++(l.take j).flatMap iy++iy l[j]):=aY ZR;have y:=B.aX _ (dG hlt);have hbj:Q (b++bI (Q l)++(l.take j).flatMap iy)<=600000000:=by have:=Nb iy 30000 (l.take j) (λx t=>by have y:=B.aX x (lB t);exact M4 y);exact ZS
   generalize l[j]=x at *;obtain rfl:=S w (K.rf w);have L:∀W,K wr W->W.cell? ⟨O,C+j*3,U⟩=I (G J x.1):=λW kW=>L W (kr.tr kW)
   have d:∀W,K wr W->∀i,i<3->W.cell? ⟨O,C+j*3+i,U⟩=(dZ x)[i]?:=λW kW i V=>(d W (kr.tr kW) i V).trans aD
   have z:=K.rf wr;have T:=K.rf wr;have t:=bn.new wr 42 (dZ x);have M:=t.cC;go_upto_region 5 with fail;have xw:=kr.tr M;generalize wr.alloc _=N at *;generalize Z (D wr)=gx at *;have q:=t.cells;have z:=K.rf N;go_wp2_with fail
   apply dD (afp _ _ x N (pQ _ _ _ _ (gD R.aX) (T.tr M)) aZ y);exact ZT
  ·have cd:¬(j:Int)<Q l:=aZ;have H:=R.aX;rw[iw aZ,fN]at H;have HS:=aY (show Own wr (Z (D w)) 5 u0 (b++gU iy l)from H);exact ZU
theorem AL{α} enc(l:List α)(h:∀x∈l,Q (enc x)<=30000)(j:Q l<=16):Q (gU enc l)<=480009:=by have:=Nb enc 30000 l h;have:=eM (Q l) aZ;unfold gU;simp only[eU];omega
theorem az2{m}(h:fI m=aA)(A:pW m):Q (iZ m)<=2000000:=by
 obtain⟨-,t,H,O,B,C,z⟩:=M0 h
 obtain⟨-,N,R,L,S,M,y,P⟩:=A
 have:=AL nj m.dU (λx j=>Xt (R x j)) t.1
 have:=AL iP m.asks (λx j=>Hn (L x j)) H.1
 have:=AL iP m.entries (λx j=>Hn (S x j)) O.1
 have:=AL iP m.gu (λx j=>Hn (M x j)) B.1
 have:=AL iy m.fA (λx j=>M4 (y x j)) C.1
 have:=AL iy m.ends (λx j=>M4 (P x j)) z.1
 have:=eM (cL m.kind) (jb _)
 have:=eM m.got N
 unfold iZ
 grind
theorem asm m v w(h:nG m v w)(hf:pW m) :
 aK prog 160 #[v] w λe w'=>∃v',e=ak (au #[v',G J (jY m)])/\Own w' (Z (D w)) 5 v' (Oi m)/\K w w':=by
 have C0:=aY λW (kW:K w W)=>aeL m v W (aav h kW)
 obtain⟨v1,v2,v3,v4,v5,v6,rfl,h1,h2,h3,h4,h5,h6⟩:=h
 have L1:=aY λW (kW:K w W)=>cH h1 kW
 have L2:=aY λW (kW:K w W)=>cH h2 kW
 have L3:=aY λW (kW:K w W)=>cH h3 kW
 have L4:=aY λW (kW:K w W)=>cH h4 kW
 have L5:=aY λW (kW:K w W)=>cH h5 kW
 have L6:=aY λW (kW:K w W)=>cH h6 kW
 obtain⟨A1,c1,rfl⟩:=bD h1
 obtain⟨A2,c2,rfl⟩:=bD h2
 obtain⟨A3,c3,rfl⟩:=bD h3
 obtain⟨A4,c4,rfl⟩:=bD h4
 obtain⟨A5,c5,rfl⟩:=bD h5
 obtain⟨A6,c6,rfl⟩:=bD h6
 have t:=bn.new w 239 (mK m (F A1 (Q m.dU) c1) (F A2 (Q m.asks) c2) (F A3 (Q m.entries) c3) (F A4 (Q m.gu) c4) (F A5 (Q m.fA) c5) (F A6 (Q m.ends) c6))
 have k1:=t.cC
 have j:=aY hf
 have Qi:Hid (jY m=if fI m then 0 else 130):=aY rfl
 have HRM:Hid (Oi m=if fI m then iZ m else []):=aY rfl
 generalize jY m=CK at *
 generalize Oi m=R at *
 go_in
 go_upto_region 1 with fail
 generalize w.alloc _=w1 at *
 have qx:=t.cells
 have z:=K.rf w1
 generalize Z (D w)=g at *
 go_wp2_with fail
 apply dP (C0.aX w1 k1) k1
 intro w2 k2 mY
 cases hok:fI m
 ·obtain rfl:CK=130:=by rw[Qi.aX,hok];rfl
  obtain rfl:R=[]:=by rw[HRM.aX,hok];rfl
  go_wp2;go_ret2;exact⟨_,rfl,mr _ _ _ _,mY⟩
 obtain rfl:CK=0:=by rw[Qi.aX,hok];rfl
 have HR:Hid (R=iZ m):=aY (by rw[HRM.aX,hok];rfl)
 have y:=aY (M0 hok)
 have T:=λW (kW:K w2 W)=>qx W (k2.tr kW)
 have z:=K.rf w2
 have:=eM (cL m.kind) (jb _)
 have:=eM m.got j.aX.2.1
 go_upto_region 4 with fail
 have qs:=aB T FI
 refine eQ 7 ?_
 iterate 3 refine bA.i ?_
 refine bA.c (sl (bI (cL m.kind))) (pQ _) (λW _=>(xK (cL m.kind) (aau _) (jb _) bq).mono λe w9 ⟨v9,H,ho,Y⟩=>⟨v9,H,gD (bU (bI _)▸ho),Y⟩) ?_
 iterate 2 refine bA.i ?_
 refine bA.op (sl (bI (cL m.kind)++bI m.got)) (pQ _) (λV W kW hp=>?_) ?_
 ·simp only[dE,bU,bZ,dA,dB,bM]at hp;simp[dC,bP,aC,hp,eH,aL,bR,go_sem];exact (xK m.got hp.1 j.aX.2.1 aZ).mono λe w9 ⟨v9,H,ho,Y⟩=>⟨v9,H,gD ho,Y⟩
 intro V W kW hA
 simp only[bU,bZ,dx,bM,Nat.reduceAdd]at hA
 refine bJ.p (bJ.h ?_)
 have h7:=hA.2.2.2.2.2.2.1
 generalize V 6=v7 at *
 have S:=h7
 have M:=mY.tr kW
 have kv0:=kW
 generalize W=A at *
 have:Q (bI (cL m.kind)++bI m.got)<=18:=bG
 by_cases je:m.kind=1
 ·have z:=K.rf A;have C1:=aY (atK _ m.dU _ _ A S (L1.aX _ M) aZ y.aX.2.1.1 j.aX.2.2.1);have ll:=AL nj m.dU (λx t=>Xt (j.aX.2.2.1 x t)) y.aX.2.1.1;have b1:Q (bI (cL m.kind)++bI m.got++gU nj m.dU)<=480027:=bG;obtain⟨B0,e0,rfl,-⟩:=S;generalize Q (bI (cL m.kind)++bI m.got)=n0 at *;have z:=K.rf A;go_wp2_with fail
  apply tH C1.aX M;intro v19 W1 L j1 B;have kv1:=kv0.tr j1;have C2:=aY (Wz _ m.asks _ _ W1 (gD L) (L2.aX _ B) aZ y.aX.2.2.1.1 j.aX.2.2.2.1);have gj:=AL iP m.asks (λx t=>Hn (j.aX.2.2.2.1 x t)) y.aX.2.2.1.1;have b2:Q (bI (cL m.kind)++bI m.got++gU nj m.dU++gU iP m.asks)<=960036:=bG;obtain⟨B1,H,rfl,-⟩:=gD L;generalize Q (bI (cL m.kind)++bI m.got++gU nj m.dU)=n1 at *;have z:=K.rf W1;go_wp2_with fail
  apply tH C2.aX B;intro v29 C N X O;have kv2:=kv1.tr X;have HS:=aY (show Own C (Z (D w)) 5 v29 R from by rw[HR.aX];have h:=oy B.size N;simp only[iZ,fN,ite_true,je]at h⊢;exact h);go_wp2;go_ret2;exact⟨_,rfl,HS.aX,O⟩
 ·have z:=K.rf A;have C1:=aY (Wz _ m.entries _ _ A S (L3.aX _ M) aZ y.aX.2.2.2.1.1 j.aX.2.2.2.2.1);have ll:=AL iP m.entries (λx t=>Hn (j.aX.2.2.2.2.1 x t)) y.aX.2.2.2.1.1;have b1:Q (bI (cL m.kind)++bI m.got++gU iP m.entries)<=480027:=bG;obtain⟨B0,e0,rfl,-⟩:=S;generalize Q (bI (cL m.kind)++bI m.got)=n0 at *;have z:=K.rf A;go_wp2_with fail
  apply tH C1.aX M;intro v19 W1 L j1 B;have kv1:=kv0.tr j1;have C2:=aY (Wz _ m.gu _ _ W1 (gD L) (L4.aX _ B) aZ y.aX.2.2.2.2.1.1 j.aX.2.2.2.2.2.1);have gj:=AL iP m.gu (λx t=>Hn (j.aX.2.2.2.2.2.1 x t)) y.aX.2.2.2.2.1.1;have b2:Q (bI (cL m.kind)++bI m.got++gU iP m.entries++gU iP m.gu)<=960036:=bG;obtain⟨B1,H,rfl,-⟩:=gD L;generalize Q (bI (cL m.kind)++bI m.got++gU iP m.entries)=n1 at *;have z:=K.rf W1;go_wp2_with fail
  apply tH C2.aX B;intro v29 C N X O;have kv2:=kv1.tr X;have C3:=aY (af0 _ m.fA _ _ C (gD N) (L5.aX _ O) aZ y.aX.2.2.2.2.2.1.1 j.aX.2.2.2.2.2.2.1);have:=AL iy m.fA (λx t=>M4 (j.aX.2.2.2.2.2.2.1 x t)) y.aX.2.2.2.2.2.1.1;have:Q (bI (cL m.kind)++bI m.got++gU iP m.entries++gU iP m.gu++gU iy m.fA)<=1440045:=bG;obtain⟨B2,e2,rfl,-⟩:=gD N;generalize Q (bI (cL m.kind)++bI m.got++gU iP m.entries++gU iP m.gu)=n2 at *;have T:=λW (kW:K C W)=>T W (kv2.tr kW)
  have z:=K.rf C;go_wp2_with fail
  apply tH C3.aX O;intro v39 W3 iI j3 kw3;have:=kv2.tr j3;have C4:=aY (af0 _ m.ends _ _ W3 (gD iI) (L6.aX _ kw3) aZ y.aX.2.2.2.2.2.2.1 j.aX.2.2.2.2.2.2.2);obtain⟨B3,e3,rfl,-⟩:=gD iI;generalize Q (bI (cL m.kind)++bI m.got++gU iP m.entries++gU iP m.gu++gU iy m.fA)=n3 at *;have z:=K.rf W3;go_wp2_with fail
  apply tH C4.aX kw3;intro v49 W4 hs4 j4 kw4;have HS:=aY (show Own W4 (Z (D w)) 5 v49 R from by rw[HR.aX];have h:=oy kw3.size hs4;simp only[iZ,fN,ite_false,je]at h⊢;exact h);go_wp2;go_ret2;exact⟨_,rfl,HS.aX,kw4⟩
