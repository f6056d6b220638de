/-
  The walk of law21.OverlayDown (layer 21). Conditions: none.
-/
import Derived.Test.YtfndfpdhlbmboaaGreatMd31
import Derived.Test.YtfndfpdhlbmboaaGreatMdz
set_option maxRecDepth 100000
set_option linter.constructorNameAsVariable false
set_option maxHeartbeats 16000000
set_option linter.unusedVariables false
set_option linter.unusedSimpArgs false
namespace Go.Proofs.YtfndfpdhlbmboaaGreat
open Go Go.RowKit _root_.Go.Proofs.Tryz
theorem aqm a b c d W:(Instr.field 46 (.agg #[a,b,c,d]) 0).run prog W=.ok a W:=by kernel_rfl
def Fv(par ah:List Int)(n c j t gw:Nat)(u W:World):Prop:=∃O k,fV par ah gw O k (λb=>b<u.heap.size) W/\k<=j/\iJ par ah n c O/\K u W /\
 ∀m:Nat,t<=m->m<par.length->par[n]?=some (m:Int)∨par[m]?=some (n:Int)->fI O.cz ((m:Int),(n:Int))=some []
theorem apE par ah(n keep:Int)(a:aS) v1 v2 w(h1:aq cQ par v1 w)(X:aq cQ ah v2 w)(hk:cD keep)(ha:dW a) :
 Calls prog 4 #[v1,v2,.int .i64 n,.int .i64 keep,cN a] w λe w'=>e=.returned (.bool true)/\Below w.heap.size w w':=by
 have hb:=ai.new w 26 (dt a)
 have kA:=hb.aU
 have C1:=ae λW=>apC W
 have C2:=ae λW (k:K w W)=>aqk par ah v1 v2 W (bo h1 k) (bo X k)
 have C3:=ae λW (k:K w W) U hh=>ajj par ah 60000 v1 v2 W (bo h1 k) (bo X k) U hh aj2 af (λb=>b<W.heap.size) λb hb=>hb
 have H1:=ae h1
 have H2:=ae X
 obtain⟨A1,c1,rfl,jX,-⟩:=h1
 obtain⟨A2,c2,rfl,ew,-⟩:=X
 have BC:=ae jX
 have HA2:=ae ew
 clear jX ew
 go_enter func4,ntmps4
 go_upto_region 1 with (fail)
 generalize w.alloc _=w1 at *
 generalize w.heap.size=gb at hb
 go_wp2_with fail
 refine (C1.aa w1).mono ?_
 rintro e w2⟨rfl,k2⟩
 replace hb:=hb.ay k2
 replace kA:=kA.tr k2
 clear k2 C1
 go_wp2_with fail
 refine (C2.aa w2 kA).mono ?_
 rintro e J⟨rfl,k3⟩
 replace hb:=hb.ay k3
 replace kA:=kA.tr k3
 clear k3 C2
 by_cases hg:yQ par ah=true
 case neg =>
  have hg:yQ par ah=false:=by simpa using hg
  rw[hg];exact XV
 rw[hg]
 by_cases h0:n<0
 ·exact XV
 by_cases gU:(par.length:Int)<=n
 ·exact XV
 obtain⟨m,rfl⟩:∃m:Nat,n=(m:Int):=⟨n.toNat,af⟩
 have hm:m<par.length:=af
 obtain⟨⟨⟨h6,h8⟩,U⟩,hh⟩:((par.length<=6/\ah.length<=8)/\fk par=true)/\jt par ah=true:=by simpa [yQ]using hg
 have B:=ae (And.intro hm (And.intro h6 (And.intro h8 (And.intro U hh))))
 have C4:=ae (C3.aa J kA U hh)
 obtain⟨b1,o1,rfl,ajL⟩:=ints_at BC.aa af
 obtain⟨b2,o2,rfl,ajM⟩:=ints_at HA2.aa (FN hh).1
 have HC1:=ae ajL
 have zU:=ae ajM
 clear hg C3 H1 H2 hm h6 h8 U hh BC HA2 ajL ajM
 go_wp2_with fail
 refine C4.aa.mono ?_
 rintro e w4⟨gw,rfl,F,vA⟩
 have hb4:=hb.ay vA
 have hgb:gb<J.heap.size:=hb.lt
 clear C4
 obtain⟨d1,d2,d3⟩:=iJ.new (par:=par) (ah:=ah) (n:=m) B.aa.1
 have E:=F.Ma m keep hk
 rw[d1]at E
 replace E:=ae E
 have Y:=ae (And.intro d2 d3)
 clear d1 d2 d3 F
 go_wp2_with fail
 refine E.aa.mono ?_
 rintro e w5⟨rfl,u⟩
 have k35:=u.k vA λ_ h=>h
 have A:=u.1.Ma m keep hk
 rw[(Y.aa.1.down B.aa.1).1]at A
 replace A:=ae A
 clear E u vA
 go_wp2_with fail
 refine A.aa.mono ?_
 rintro e w6⟨rfl,u⟩
 have k36:=u.k k35 λ_ h=>h
 have C:=u.1.tick af m
 rw[(Y.aa.1.down B.aa.1).2.1]at C
 replace C:=ae C
 clear A u k35
 go_wp2_with fail
 refine C.aa.mono ?_
 rintro e w7⟨rfl,u⟩
 have k37:=u.k k36 λ_ h=>h
 have HO:=ae u.1
 have H:=u.1.up m
 rw[(Y.aa.1.down B.aa.1).2.2]at H
 replace H:=ae H
 clear C u k36
 go_wp2_with fail
 refine H.aa.mono ?_
 rintro e w8⟨rfl,rfl⟩
 clear H
 have HW:Hid (Fv par ah m 0 1 0 gw J w8):=ae ⟨_,_,HO.aa,aD _,Y.aa.1,k37,λj _ hj N=>axU HO.aa.1 Y.aa.2 hj B.aa.1 B.aa.2.2.2.1 N⟩
 clear HO Y
 go_wp2_with fail
 go_loopw [14,15,16,17,18,19,20] (fun i _ _ _ _ _ _ W=>∃j:Nat,j<=ah.length/\i=.int .i64 j/\Hid (Fv par ah m j (3*j+1) 0 gw J W)) (fun i _ _ _ _ _ _ _=>ah.length-(intOf i).toNat)
 case atStart=>exact⟨0,eV _,rfl,HW⟩
 case round =>
  clear HW k37 hb4;obtain⟨j,hj,rfl,L⟩:=hrel;have hh8:ah.length<=8:=B.aa.2.2.1;by_cases Q:j<ah.length
  ·have aP:(j:Int)<ah.length:=af;obtain⟨O,k,F,TX,I,kW,G⟩:=L.aa;obtain⟨x,y,ex,ey,S,alh,hA,Z⟩:=I.round B.aa.1 (by have:=B.aa.2.1;omega) B.aa.2.2.2.2 Q af;have E:=F.begin (c:=j) af (by unfold cD;omega);rw[ex]at E;replace E:=ae E;have Ke:=ae (And.intro ey (And.intro S (And.intro hA (And.intro Z (alh▸G)))));clear L F I ex ey S alh hA Z G;go_wp2_with fail
   refine E.aa.mono ?_;rintro e w9⟨rfl,u⟩;have D:=u.k kW λ_ h=>h
   have bq:=u.1;clear E u kW;go_upto_region 13 with (fail);have T:=K.new w9 (.cells (dt (jz O j).2.1) 26);have A:=(bq.st T).MH af j;rw[Ke.aa.1]at A;replace A:=ae A;replace D:=D.tr T;generalize w9.alloc _=wA at *;clear bq T;go_wp2_with fail
   refine A.aa.mono ?_;rintro e wB⟨⟨vB,rfl,hlB⟩,u⟩;obtain⟨AB,cB,rfl⟩:=av hlB;have T:=u.k D λ_ h=>h
   have R:=u.1;generalize jr (jz O j).1 j=PO at *;have C:=ae (R.status j a);have qb:=hb.cells;have qh:=λW (k:K J W)=>zU.aa W (kA.tr k) j Q
   clear A u hlB D;go_wp2_with fail
   refine C.aa.mono ?_;rintro e wC⟨rfl,M⟩;replace R:=R.st M;replace M:=T.tr M;clear C T;obtain⟨-,S,hA,Z,G⟩:=Ke.aa;generalize ah[j]=hj0 at *;by_cases e:hj0=(m:Int)
   ·obtain⟨rfl,rfl,h3⟩:=hA e;obtain⟨h3,h4⟩:=h3 a;rw[h3];have H:=R.Ga j ha;rw[h4]at H;replace H:=ae H;have HX:=ae (And.intro S G);clear Ke hA Z h3 h4 R S G;subst e;go_wp2_with fail
    refine H.aa.mono ?_;rintro e wD⟨rfl,u⟩;have kD:=u.k M λ_ h=>h
    have HE:Hid (Fv par ah m (j+1) (3*(j+1)+1) 0 gw J wD):=ae ⟨_,_,u.1,af,HX.aa.1,kD,HX.aa.2⟩;clear H u HX M;exact ajl
   ·obtain⟨rfl,rfl⟩:=Z e;have HE:Hid (Fv par ah m (j+1) (3*(j+1)+1) 0 gw J wC):=ae ⟨_,_,R,af,S,M,G⟩;have e1:(hj0==(m:Int))=false:=B4;have e2:(hj0 != (m:Int))=true:=B4;clear Ke hA Z R S G e;exact ajl
  ·have aP:¬(j:Int)<ah.length:=af;have HW:Hid (Fv par ah m j 25 0 gw J wr):=ae (by
    obtain⟨O,k,F,TX,h⟩:=L.aa;exact⟨O,k,F,af,h⟩)
   clear L zU;go_wp2_with fail
   go_loopw [21] (fun i W=>∃t:Nat,t<=par.length/\i=.int .i64 t/\Hid (Fv par ah m j (25+3*t) t gw J W)) (fun i _=>par.length-(intOf i).toNat)
   case atStart=>exact⟨0,eV _,rfl,HW⟩
   case round =>
    clear HW;obtain⟨t,U,rfl,L⟩:=hrel;have hh6:par.length<=6:=B.aa.2.1;by_cases Q:t<par.length
    ·have Zk:(t:Int)<par.length:=af;obtain⟨O,k,F,TX,I,kW,G⟩:=L.aa;have HN:Hid (∀O k,fV par ah gw O k (λb=>b<J.heap.size) wr->k<=25+3*t->iJ par ah m j O->(∀OJ:Nat,t<=OJ->OJ<par.length->par[m]?=some (OJ:Int)∨par[OJ]?=some (m:Int)->fI O.cz ((OJ:Int),(m:Int))=some [])->Fv par ah m j (25+3*(t+1)) (t+1) gw J wr):=ae λO k F hk I G=>⟨O,k,F,af,I,kW,λq hq=>G q af⟩
     have HS:=ae (HN.aa O k F TX I G);by_cases R6:t=m
     ·have aFo:(t:Int)=(m:Int):=af;clear L F I G HN;exact ajm
     have aFp:((t:Int)==(m:Int))=false:=ba;have kA2:=kA.tr kW;have qt:=HC1.aa wr kA2 t Q;have qm:=HC1.aa wr kA2 m B.aa.1;by_cases N:par[m]'B.aa.1=(t:Int)∨par[t]=(m:Int)
     case neg =>
      have e1:(par[m]'B.aa.1 != (t:Int))=true:=by simp only[bne_iff_ne];exact λe=>N (.inl e)
      have e2:(par[t] != (m:Int))=true:=by simp only[bne_iff_ne];exact λe=>N (.inr e)
      generalize par[m]'B.aa.1=pm at *;generalize par[t]=pt at *;clear L F I G HN N;exact ajm
     obtain⟨T1,T2,T3,T4,T5⟩:=I.tick B.aa.2.2.2.1 B.aa.1 Q R6 (N.imp (λe=>by rw[List.getElem?_eq_getElem B.aa.1,e]) λe=>by rw[List.getElem?_eq_getElem Q,e]) (G t (aD t) Q (N.imp (λe=>by rw[List.getElem?_eq_getElem B.aa.1,e]) λe=>by rw[List.getElem?_eq_getElem Q,e]));have E:=F.tick af t;rw[T1]at E;replace E:=ae E;have HT:=ae (And.intro T2 (And.intro T3 (And.intro T4 λq hq=>T5 q hq)));have HLL:=ae G;have vH:=ae N;generalize par[m]'B.aa.1=pm at *;generalize par[t]=pt at *;clear L F I G HN HS T1 T2 T3 T4 T5 N;by_cases e:pm=(t:Int);case' pos=>have e1:(pm != (t:Int))=false:=B4
     case' neg => have e1:(pm != (t:Int))=true:=B4;have e2:(pt != (m:Int))=false:=by simpa using vH.aa.resolve_left e
     all_goals
      clear vH e
      go_wp2_with fail
      refine E.aa.mono ?_
      rintro e w9⟨rfl,u⟩
      have D:=u.k kW λ_ h=>h
      have A:=u.1.F5 af t m
      rw[HT.aa.1]at A
      replace A:=ae A
      clear E u
      go_wp2_with fail
      refine A.aa.mono ?_
      rintro e wA⟨rfl,u⟩
      replace D:=u.k D λ_ h=>h
      have C:=u.1.F5 af t m
      rw[HT.aa.2.1]at C
      replace C:=ae C
      clear A u
      go_wp2_with fail
      refine C.aa.mono ?_
      rintro e wB⟨rfl,u⟩
      replace D:=u.k D λ_ h=>h
      have HE:Hid (Fv par ah m j (25+3*(t+1)) (t+1) gw J wB):=ae ⟨_,_,u.1,af,HT.aa.2.2.1,D,λq hq h1 X=>by rw[HT.aa.2.2.2 q (by omega)];exact HLL.aa q (by omega) h1 X⟩
      clear C u HT HLL
      go_wp2
      go_roundw
      case rel=>exact⟨t+1,af,bI,HE⟩
      case measure=>simp[intOf];omega
    ·have Zk:¬(t:Int)<par.length:=af;obtain⟨O,k,F,TX,I,kW,-⟩:=L.aa;obtain⟨g1,g2,g3,g4,g5⟩:=I.again B.aa.1;have E:=ae (F.state m);have V:=ae (And.intro F (And.intro g2 (And.intro g3 (And.intro g4 g5))));clear L F I g2 g3 g4 g5;go_wp2_with fail
     refine E.aa.mono ?_;rintro e w9⟨vl,vp,va,rfl,hS,D⟩;obtain⟨⟨Al,cl,rfl⟩,⟨Aq,cq,rfl⟩,⟨Aa,ca,rfl⟩⟩:=hS.sl;have g1i:((kT O m).life:Int)=1:=by rw[g1];rfl
     generalize kT O m=s0 at *;have fp:=aqm;have A:=(V.aa.1.st D).LK af m;rw[V.aa.2.1]at A;replace A:=ae A;replace D:=kW.tr D;clear E hS g1 kW;go_wp2_with fail
     refine A.aa.mono ?_;rintro e wA⟨rfl,u⟩;replace D:=u.k D λ_ h=>h
     have C:=u.1.LK af m;rw[V.aa.2.2.1]at C;replace C:=ae C;clear A u;go_wp2_with fail
     refine C.aa.mono ?_;rintro e wB⟨rfl,u⟩;replace D:=u.k D λ_ h=>h
     have H:=ae (u.1.state m);have HU:=ae λW (k:K wB W)=>(u.1.st k).up m
     clear C u;go_wp2_with fail
     refine H.aa.mono ?_;rintro e wC⟨vl,vp,va,rfl,hS,M⟩;obtain⟨⟨Al,cl,rfl⟩,⟨Aq,cq,rfl⟩,⟨Aa,ca,rfl⟩⟩:=hS.sl;have g4i:((kT (lR (lR O m).1 m).1 m).life:Int)=2:=by rw[V.aa.2.2.2.1];rfl
     generalize kT (lR (lR O m).1 m).1 m=s1 at *;have C9:=HU.aa wC M;rw[V.aa.2.2.2.2]at C9;replace C9:=ae C9;have kE:=kA.tr (D.tr M);clear H HU hS D M V;go_wp2_with fail
     refine C9.aa.mono ?_;rintro e wD⟨rfl,rfl⟩;clear C9;go_wp2;go_ret;exact⟨rfl,kE⟩
theorem aoE(j t u y A:Value)(w:World)(D:XU w j)(F:XU w t)(H:XZ w u)(B:XZ w y)(E:ajR w A) :
 Calls prog 4 #[j,t,u,y,A] w λe w'=>e=.returned (.bool true)/\Below w.heap.size w w':=by
 obtain⟨par,I,-⟩:=D
 obtain⟨ah,G,-⟩:=F
 obtain⟨n,rfl,-⟩:=H
 obtain⟨keep,rfl,hk⟩:=B
 obtain⟨a,rfl,C⟩:=E
 exact apE par ah n keep a j t w I G hk C
