/-
  The walk of broker's Handle (layer 20). Conditions: at most a milliard bytes.
-/
import Derived.Test.YtoeiinllelipoaaGreatMa29
import Derived.Test.YtoeiinllelipoaaGreatMa30
import Derived.Test.YtoeiinllelipoaaGreatMz
set_option maxRecDepth 100000
set_option maxHeartbeats 16000000
set_option linter.unusedVariables false
set_option linter.unusedSimpArgs false
namespace Go.Proofs.YtoeiinllelipoaaGreat
open Go Go.RowKit _root_.Go.Proofs.Tryz
def Lo(B:aB)(fr:Int):Bool:=decide (fr∈mF B)
def Lp(B:aB)(fr:Int):Bool:=!jO B&&decide (fr=uo B)
def Lc(B:aB)(fr:Int)(h par:Bool)(m:bK):aB×Int:=if h&&decide (m.kind=1)then (ic { B with bR:=nA B.bR fr m },0)else if par&&decide (m.kind=2)then (qU B m,0)else (B,201)
theorem ar7(B:aB)(fr:Int)(b:List UInt8):jM B fr b=if Lo B fr||Lp B fr then (if tV b=0 then Lc B fr (Lo B fr) (Lp B fr) (oJ b)else (B,tV b))else (B,201):=by
 unfold jM Lo Lp Lc;split
 ·cases hd:sf b with
  | none=>simp[tV,hd]
  | some m=>simp[tV,oJ,hd]
 ·rfl
theorem avl{B:aB}{m:Nat}(h1:B.me=(m:Int))(h2:m<B.par.length):uo B=B.par[m]:=by exact aiW
theorem aoZ{M:Nat->Prop}{p:cV}{B:aB}{w:World}(h:bC M p B w)(A:bH B)(hF:lL B)(gA:B.told.length+16<=1000000)(fr:Int)(b:List UInt8)(vb:Value)(hb:sl b vb w)(bN:b.length<=1000000000) :
 Calls prog 17 #[.pointer (some ⟨p.g,0,none⟩),.int .i64 fr,vb] w λe w'=>e=.returned (.int .i64 (jM B fr b).2)/\cW M p (jM B fr b).1 w w':=by
 have HE:=ae (ar7 B fr b)
 have hlo:∀k,M k->k<w.heap.size:=h.low
 have ak7:∀k,bn p k->k<w.heap.size:=λk hk=>h.low k (h.sub k hk)
 have U:=ae λW (k:K w W)=>h.st k
 have CK:=ae (N8 h A)
 have F:=ae λW (k:K w W)=>JV (h.st k)
 have CD:=ae λW (k:K w W)=>aov b vb W (iQ _ _ _ _ hb k) bN
 have oU:(mF B).length<=16:=bq (J9 _ _) (vO A.tr).2
 have q:=h.q
 have wX:=A.me
 have hpl:=(vO A.tr).2
 simp only[jd,cz,decide_eq_true_eq]at wX
 obtain⟨mn,tz⟩:=Int.eq_ofNat_of_zero_le wX.1
 have NA:mn<B.par.length:=af
 have NC:=ae (avl tz NA)
 have L7:=h.bL.now.par
 have t:Hid (Lp B fr=(!jO B&&decide (fr=uo B))):=ae rfl
 have HIK:Hid (Lo B fr=decide (fr∈mF B)):=ae rfl
 have HG:=ae A
 have HF:=ae hF
 obtain⟨A0,c0,rfl,-⟩:=hb
 obtain⟨g,hg⟩:∃g,Hid (g=p.g):=⟨_,ae rfl⟩
 rw[<- hg.aa]at CK F q⊢
 obtain⟨pv,hpv⟩:∃pv,Hid (pv=p.vp):=⟨_,ae rfl⟩
 simp only[Gu]at q
 rw[<- hpv.aa,tz]at q
 rw[<- hpv.aa]at L7
 obtain⟨Ap,cp,rfl,L8,-⟩:=L7
 obtain⟨bp,op,rfl,hcell⟩:=ints_at L8 af
 have qp:=λW (k:K w W)=>hcell W k mn NA
 have yL:(mn:Int)<(B.par.length:Int):=af
 have xa:=ae hlo
 have HLX:=ae ak7
 have kk:=K.rf w
 clear h A hF L8 hcell wX tz hlo ak7
 generalize Lo B fr=i at *
 generalize Lp B fr=par at *
 generalize mF B=ks at *
 go_enter func17,ntmps17
 go_wp2_with fail
 refine CK.aa.mono ?_
 rintro e w1⟨v1,rfl,eu,k1⟩
 have C2:=ae (aaQ ks fr v1 w1 eu.ar af)
 obtain⟨A1,c1,rfl⟩:=eu.slice
 clear CK eu
 go_wp2_with fail
 refine C2.aa.mono ?_
 rintro e Y⟨rfl,k2⟩
 have gP:=k1.tr k2
 rw[<- HIK.aa]
 clear C2 HIK
 go_upto_region 4 with (fail)
 have q2:=λW (k:K Y W)=>q W (gP.tr k)
 have Dd:=λW (k:K Y W)=>qp W (gP.tr k)
 have hb2:B.par[mn]=uo B:=NC.aa.symm
 rw[hb2]at Dd
 generalize uo B=pb at *
 clear q qp hb2
 go_cut [8]from 17 to 33 (fun v W=>v=.bool par/\K Y W)
 case first =>
  have C3:=ae λW (k:K Y W)=>F.aa W (gP.tr k)
  cases hr:jO B
  ·rw[hr]at C3 t;have HP:Hid (par=decide (fr=pb)):=ae (by rw[t.aa];rfl);clear hr t F;have rF:(fr==pb)=decide (fr=pb):=PY;refine eM 17 [([],[]),([0],[(17,0)]),([1],[(18,1)]),([2],[(19,2)]),([3],[]),([3],[]),([3,5],[(22,5)]),([3,6],[(23,6)]),([3,7],[(24,7)]),([3],[]),([3,9],[(26,9)]),([3,10],[(27,10)]),([3,11],[(28,11)]),([3,8,12],[(25,8),(29,12)]),([3,13],[(30,13)]),([3,4,14],[(21,4),(31,14)]),([3,15],[(20,3),(32,15)]),([0,1,2,3,4,5,6,7,8,9,10,11,12,13,14,15,16],[(33,16)])] 73 rfl ak ak ak ak au ?_;simp only[dR,dN,ew,dP];(apply aV.is;intro V W kW hp;(try simp only[aI,aJ,aM,aE,aF,ag]at hp);simp[aL,aw,List.lookup,hp,aS,execOp,ay,ag,aN,kW,q2,Dd,yL,go_sem];rfl)
   refine aV.is (.bool false) (λV W kW hp=>?_) ?_
   ·(try simp only[aI,aJ,aM,aE,aF,ag]at hp)
    exact ai2
   iterate 15 (apply aV.is;intro V W kW hp;(try simp only[aI,aJ,aM,aE,aF,ag]at hp);simp[aL,aw,List.lookup,hp,aS,execOp,ay,ag,aN,kW,q2,Dd,yL,go_sem];rfl)
   intro V W kW j;simp only[aJ,aM,eA,ag,Nat.reduceAdd]at j;obtain⟨G,J,H,y,C,D,f6,f7,f8,f9,f10,f11,f12,f13,f14,f15,I,-⟩:=j;refine bu.pure (.bool par) rfl (by simp[aw,List.lookup,I,HP.aa,rF,execOp,ay,go_sem]) ?_;refine bu.nil ?_;simp only[bF,Act.put,cO,cM,cL,Nat.reduceAdd,bj];clear G J H y C D f6 f7 f8 f9 f10 f11 f12 f13 f14 f15 I q2 Dd C3 rF;go_wp2_with fail
   go_meet
   case rel=>exact⟨rfl,kW⟩
  ·rw[hr]at C3 t;have HP:Hid (par=false):=ae (by rw[t.aa];rfl);clear hr t F;refine eM 17 [([],[]),([0],[(17,0)]),([1],[(18,1)]),([2],[(19,2)]),([3],[]),([3],[]),([3,5],[(22,5)]),([3,6],[(23,6)]),([3,7],[(24,7)]),([3],[]),([3,9],[(26,9)]),([3,10],[(27,10)]),([3,11],[(28,11)]),([3,8,12],[(25,8),(29,12)]),([3,13],[(30,13)]),([3,4,14],[(21,4),(31,14)]),([3,15],[(20,3),(32,15)]),([0,1,2,3,4,5,6,7,8,9,10,11,12,13,14,15,16],[(33,16)])] 73 rfl ak ak ak ak au ?_;simp only[dR,dN,ew,dP];(apply aV.is;intro V W kW hp;(try simp only[aI,aJ,aM,aE,aF,ag]at hp);simp[aL,aw,List.lookup,hp,aS,execOp,ay,ag,aN,kW,q2,Dd,yL,go_sem];rfl)
   refine aV.is (.bool true) (λV W kW hp=>?_) ?_
   ·(try simp only[aI,aJ,aM,aE,aF,ag]at hp)
    exact ai2
   iterate 15 (apply aV.is;intro V W kW hp;(try simp only[aI,aJ,aM,aE,aF,ag]at hp);simp[aL,aw,List.lookup,hp,aS,execOp,ay,ag,aN,kW,q2,Dd,yL,go_sem];rfl)
   intro V W kW j;simp only[aJ,aM,eA,ag,Nat.reduceAdd]at j;obtain⟨G,J,H,y,C,D,f6,f7,f8,f9,f10,f11,f12,f13,f14,f15,I,-⟩:=j;refine bu.pure (.bool par) rfl (by simp[aw,List.lookup,I,HP.aa,execOp,ay,go_sem]) ?_;refine bu.nil ?_;simp only[bF,Act.put,cO,cM,cL,Nat.reduceAdd,bj];clear G J H y C D f6 f7 f8 f9 f10 f11 f12 f13 f14 f15 I q2 Dd C3;go_wp2_with fail
   go_meet
   case rel=>exact⟨rfl,kW⟩
 case rest =>
  obtain⟨rfl,k3⟩:=hcut;have je:=gP.tr k3;clear q2 Dd t NC F;go_upto_region 5 with (fail);go_cut [39]from 34 to 38 (fun v W=>v=.bool (!(i||par))/\wc=W)
  case first =>
   cases i <;> cases par
   all_goals
    go_wp2_with fail
    go_meet
    case rel=>exact⟨rfl,rfl⟩
  case rest =>
   obtain⟨rfl,rfl⟩:=hcut;cases F3:i||par
   ·have HR:Hid (jM B fr b=(B,201)):=ae ai3;have HN:=ae ((U.aa w kk).n je);clear HE F3 CD;go_wp2;go_ret;exact⟨fo,by rw[HR.aa];exact HN.aa⟩
   have HR:Hid (jM B fr b=if tV b=0 then Lc B fr i par (oJ b)else (B,tV b)):=ae ai3;clear HE F3;have CD4:=ae (CD.aa wc je);clear CD;go_wp2_with fail
   refine CD4.aa.mono ?_;rintro e w4⟨vm,rfl,hm,k4⟩;have qE:=je.tr k4;obtain⟨m1,m2,m3,m4,m5,m6,rfl,pB,hm2,rE,zD,Ek,x9⟩:=hm w4 (ah.rf _ _);obtain⟨S,X,rfl⟩:=az pB;obtain⟨G1,Z,rfl⟩:=az hm2;obtain⟨T,SI,rfl⟩:=az rE;obtain⟨SJ,SK,rfl⟩:=az zD;obtain⟨SL,Q,rfl⟩:=az Ek;obtain⟨R,SQ,rfl⟩:=az x9;have hsz:=je.size;have HM:=ae (show Fx M (λW=>js (oJ b) (.agg (fH (oJ b) (.slice S (oJ b).bM.length X) (.slice G1 (oJ b).asks.length Z) (.slice T (oJ b).entries.length SI) (.slice SJ (oJ b).cH.length SK) (.slice SL (oJ b).bY.length Q) (.slice R (oJ b).ends.length SQ))) W) w4 from λW u=>hm W (u.more λk hk=>bB (xa.aa k hk) hsz));have iZ:Hid (tV b=0->ed (oJ b)=true/\oQ (oJ b)):=ae λh=>by
    cases hd:sf b with
    | none=>rw[(show tV b=130 by simp[tV,hd])]at h;cases h
    | some m => rw[show oJ b=m by simp[oJ,hd]];exact⟨(T2 hd).2,Uu hd⟩
   generalize oJ b=m at *;generalize tV b=ec at *;have hx:=ai.new w4 41 (fH m (.slice S m.bM.length X) (.slice G1 m.asks.length Z) (.slice T m.entries.length SI) (.slice SJ m.cH.length SK) (.slice SL m.bY.length Q) (.slice R m.ends.length SQ));have k5:=(K.rf w4).al (.cells (fH m (.slice S m.bM.length X) (.slice G1 m.asks.length Z) (.slice T m.entries.length SI) (.slice SJ m.cH.length SK) (.slice SL m.bY.length Q) (.slice R m.ends.length SQ)) 41);clear hm pB hm2 rE zD Ek x9 CD4;go_upto_region 8 with (fail);generalize World.alloc w4 _=s at *;generalize sJ:w4.heap.size=gx at hx⊢;have N:=qE.tr k5;have HM5:=ae (HM.aa.k k5);clear sJ;by_cases Gx:ec=0;rotate_left
   ·have ir:Hid (jM B fr b=(B,ec)):=ae (by rw[HR.aa,if_neg Gx]);have hne:(ec != 0)=true:=by simpa using Gx
    have HN:=ae ((U.aa w kk).n N);clear HR Gx iZ;go_wp2;go_ret;exact⟨by rw[ir.aa];rfl,by rw[ir.aa];exact HN.aa⟩
   subst Gx;obtain⟨hok,hfit⟩:=iZ.aa rfl;have ir:Hid (jM B fr b=Lc B fr i par m):=ae (by rw[HR.aa,if_pos rfl]);have HMM:Hid (Lc B fr i par m=if i&&decide (m.kind=1)then (ic { B with bR:=nA B.bR fr m },0)else if par&&decide (m.kind=2)then (qU B m,0)else (B,201)):=ae rfl;have YE:=ae hok;have xT:=ae hfit;clear HR iZ hok hfit;have qx:=hx.cell;go_upto_region 11 with (fail);go_cut [48]from 49 to 54 (fun v W=>v=.bool (i&&decide (m.kind=1))/\s=W)
   case first =>
    cases i
    ·go_wp2_with fail
     go_meet
     case rel=>exact⟨rfl,rfl⟩
    ·have hd:Hid ((m.kind==1)=decide (m.kind=1)):=ae PY;exact ai4
   case rest =>
    obtain⟨rfl,rfl⟩:=hcut;have Hc:=ae λW (k:K s W)=>U.aa W (N.tr k)
    cases hc1:i&&decide (m.kind=1)
    ·have HQ:Hid (jM B fr b=if par&&decide (m.kind=2)then (qU B m,0)else (B,201)):=ae ai5;clear ir HMM hc1;go_upto_region 14 with (fail);go_cut [63]from 64 to 69 (fun v W=>v=.bool (par&&decide (m.kind=2))/\s=W)
     case first =>
      cases par
      ·go_wp2_with fail
       go_meet
       case rel=>exact⟨rfl,rfl⟩
      ·have hd:Hid ((m.kind==2)=decide (m.kind=2)):=ae PY;exact ai4
     case rest =>
      obtain⟨rfl,rfl⟩:=hcut;cases gq:par&&decide (m.kind=2)
      ·have HQ2:Hid (jM B fr b=(B,201)):=ae ai6;have HN:=ae ((U.aa w kk).n N);clear HQ gq;exact ai7
      ·have HQ2:Hid (jM B fr b=(qU B m,0)):=ae ai6;have j:=(PK YE.aa xT.aa).2.2.2.2.2.1;have L:∀W,ah M s W->ar jW m.bM (.slice S m.bM.length X) W/\ar aQ m.asks (.slice G1 m.asks.length Z) W/\ar aQ m.entries (.slice T m.entries.length SI) W/\ar aQ m.cH (.slice SJ m.cH.length SK) W/\ar bI m.bY (.slice SL m.bY.length Q) W/\ar bI m.ends (.slice R m.ends.length SQ) W:=λW u=>by obtain⟨_,_,_,_,_,_,e,h⟩:=HM5.aa W u;cases e;exact h
       have L0:=L s (ah.rf _ _);have O:=aqs (Hc.aa s (K.rf _)) HG.aa m _ _ _ _ _ _ L0.1 L0.2.1 (λW u=>(L W u).2.2.1) (λW u=>(L W u).2.2.2.1) (λW u=>(L W u).2.2.2.2.1) (λW u=>(L W u).2.2.2.2.2) YE.aa xT.aa af;rw[<- hg.aa]at O;have O:=ae O;clear HQ gq L L0;go_wp2_with fail
       refine O.aa.mono ?_;rintro e w6⟨rfl,E⟩;have HN:=ae (E.xe N HLX.aa);clear O E qx;exact ai7
    ·have HQ:Hid (jM B fr b=(ic { B with bR:=nA B.bR fr m },0)):=ae ai5;clear ir HMM hc1;have im:=hg.aa;subst im;have q5:=λW (k:K s W)=>(Hc.aa W k).q W (K.rf _)
     simp only[Gu]at q5;have qx5:=hx.cells;clear qx;go_wp2_with fail
     refine eM 6 [([],[]),([0],[(55,0)]),([1],[(56,1)]),([2],[(57,2)]),([],[]),([],[]),([0,1,2,3,4,5],[(58,3),(59,4),(60,5)])] 73 rfl ak ak ak ak au ?_;simp only[dR,dN,ew,dP];iterate 6 (apply aV.is;intro V W kW hp;(try simp only[aI,aJ,aM,aE,aF,ag]at hp);simp[aL,aw,List.lookup,hp,aS,execOp,ay,ag,aN,kW,q5,qx5,go_sem];rfl)
     intro V W kW j;simp only[aJ,aM,eA,ag,Nat.reduceAdd]at j;obtain⟨G,J,H,y,C,D,-⟩:=j;obtain⟨w7,gN,MO,hu7⟩:=ar6 (Hc.aa W kW) fr HF.aa.nk (HM5.aa.k kW);refine bu.skip w7 rfl (by simp[aw,List.lookup,y,C,D,execOp,ay,gN,go_sem]) ?_;refine bu.nil ?_;simp only[bF,Act.put,cO,cM,cL,Nat.reduceAdd,bj];have JK:=N.tr kW;have CW:=Tz MO (Ua (k:=fr) HG.aa YE.aa xT.aa);have U7:=ae ((ah.bg JK (bn p)).tr (hu7.more λk e=>.inr (.inl e)));have CW:=ae CW;clear gN MO hu7 q5 qx5 G J H y C D;go_wp2_with fail
     refine CW.aa.mono ?_;rintro e w8⟨rfl,E⟩;have HN:=ae (cW.tr (p:=p) (M:=M) U7.aa rfl (λk hk=>.inl hk) (λk hk=>hk) E);clear CW E;go_wp2;go_ret;exact⟨jL,by rw[HQ.aa];exact HN.aa⟩
theorem ar8(c:Int)(x:aq)(r:List aq)(s:List dZ)(n:Nat):oM c (x :: r) s n=if qQ s c x=[]then oM c r (kU s x) (n+1)else (qQ s c x,n+1):=rfl
theorem aqH{M:Nat->Prop}{p:cV}{B:aB}{w:World}(h:bC M p B w)(E:bH B)(c fr:Int) :
 Calls prog 23 #[.pointer (some ⟨p.g,0,none⟩),.int .i64 c,.int .i64 fr] w λe w'=>∃v',e=.returned (.tuple #[v',.int .i64 (tY B c fr).2.1,.int .i64 (tY B c fr).2.2])/\aX w.heap.size w.heap.size 34 dJ (tY B c fr).1 v' w'/\K w w':=by
 have gY:=E.IH
 have jX:=E.dk.len
 have q:=h.q
 have ru:=h.bL.now.list
 have t:Hid (tY B c fr=if Bm B c then (if 0<=fr/\fr<=(B.st.list.length:Int)then ((oM c (B.st.list.drop fr.toNat) (kO (B.st.list.take fr.toNat)) fr.toNat).1,((oM c (B.st.list.drop fr.toNat) (kO (B.st.list.take fr.toNat)) fr.toNat).2:Int),0)else ([],0,1))else ([],0,200)):=ae rfl
 have A:=ae (abp h E c)
 have C2:=ae λW (k:K w W) n hn=>abx (h.st k) E n hn
 obtain⟨g,gl,gd,gr,gt,vd,vr,vp,vh,vl,vq,va,vt,vf,vw,kr⟩:=p
 simp only at q ru A C2
 obtain⟨Al,cl,rfl,hl,hcl⟩:=ru
 have yF:B.st.list.length<=300000:=af
 have vG:=ae gY.1
 generalize tY B c fr=R at *
 generalize MV:Bm B c=HB at *
 clear h E gY jX MV
 go_enter func23,ntmps23
 go_wp2_with fail
 refine A.aa.mono ?_
 rintro e w1⟨rfl,k1⟩
 clear A
 cases HB
 ·have HF:Hid (R=([],0,200)):=ae (by rw[t.aa];rfl);clear t;exact Xl
 by_cases D:0<=fr/\fr<=(B.st.list.length:Int)
 rotate_left
 ·have HF:Hid (R=([],0,1)):=ae (by rw[t.aa,if_pos rfl,if_neg D]);have Y:fr<0∨(¬fr<0/\(B.st.list.length:Int)<fr):=af;clear t D;rcases Y with Y|⟨Y,gq⟩
  ·exact Xl
  ·exact Xl
 obtain⟨n,rfl⟩:=Int.eq_ofNat_of_zero_le D.1
 have hn:n<=B.st.list.length:=af
 have HF:Hid (R=((oM c (B.st.list.drop n) (kO (B.st.list.take n)) n).1,((oM c (B.st.list.drop n) (kO (B.st.list.take n)) n).2:Int),0)):=ae (by rw[t.aa,if_pos rfl,if_pos D];rfl)
 have hL0:=T5 (B.st.list.take n)
 have GX:=ahI (l:=B.st.list.take n) λx j=>vG.aa x (lE j)
 have aDx:(B.st.list.take n).length=n:=aU
 have hh1:¬((n:Int)<0):=af
 have u:=ae (C2.aa w1 k1 n hn)
 clear t D
 go_upto_region 8 with (fail)
 go_wp2_with fail
 refine u.aa.mono ?_
 rintro e w2⟨v2,rfl,cD,k2⟩
 have ak8:aT (λk=>k<w.heap.size) w.heap.size 206 gQ (kO (B.st.list.take n)) v2 w2:=(cD.less λk hk=>by have:=k1.size;omega).low k1.size
 generalize kO (B.st.list.take n)=L at *
 have bw:=k1.tr k2
 clear u C2 cD
 go_wp2_with fail
 have hG0:Hid (R=((oM c (B.st.list.drop n) L n).1,((oM c (B.st.list.drop n) L n).2:Int),0)):=HF
 clear HF
 go_loopw [10,11,12,13] (fun o i _ _ W=>∃(m:Nat) (s:List dZ),m<=B.st.list.length/\i=.int .i64 (m:Int)/\s.length<=m/\DT s/\aT (fun k=>k<w.heap.size) w.heap.size 206 gQ s o W/\K w W/\Hid (R=((oM c (B.st.list.drop m) s m).1,((oM c (B.st.list.drop m) s m).2:Int),0))) (fun _ i _ _ _=>B.st.list.length-(intOf i).toNat)
 case atStart=>exact⟨n,L,hn,rfl,af,GX,ak8,bw,hG0⟩
 case round =>
  clear ak8 bw hG0 GX hL0;obtain⟨m,s,hm,rfl,tg,I,hO,kr,F⟩:=hrel;by_cases X:m<B.st.list.length
  ·have ba:(m:Int)<(B.st.list.length:Int):=af;obtain⟨b1,off,cs,rfl,dH,hrl,d0,d⟩:=dM hl m X au;have U:=vG.aa _ (bW X);have G:Hid (R=((if qQ s c B.st.list[m]=[]then oM c (B.st.list.drop (m+1)) (kU s B.st.list[m]) (m+1)else (qQ s c B.st.list[m],m+1)).1,((if qQ s c B.st.list[m]=[]then oM c (B.st.list.drop (m+1)) (kU s B.st.list[m]) (m+1)else (qQ s c B.st.list[m],m+1)).2:Int),0)):=ae (by
    rw[F.aa,List.drop_eq_getElem_cons X,ar8])
   generalize B.st.list[m]=x at *;obtain⟨vf,J,rfl,T,Q⟩:=hrl w (K.rf w);have HE:Hid (∀W,K w W->cR x (.agg (aA x vf J)) W):=ae λW k=>⟨_,_,rfl,dB _ _ _ _ T k,aW Q k⟩
   have q9:∀i,i<8->wr.cell? ⟨b1,off+m*8+i,none⟩=(aA x vf J)[i]?:=λi hi=>(d wr kr i hi).trans Array.getElem?_toList
   have q0:wr.cell? ⟨b1,off+m*8,none⟩=some (.int .i64 x.kind):=d0 wr kr;have j:=ai.new wr 102 (aA x vf J);have k1':K wr (wr.alloc (.cells (aA x vf J) 102)):=(K.rf wr).al _;obtain⟨Af,cf,rfl⟩:=cB T;obtain⟨Ae,ce,rfl⟩:=az Q;clear d d0 T Q hrl dH F;go_upto_region 13 with (fail);generalize wr.alloc _=YO at *;have H:=hO.st k1';have O:=kr.tr k1';clear q9 q0 hO;have q8:=j.cell;have A:=ae (aqg s c x _ _ YO H.ar (HE.aa YO O) af I U);obtain⟨Ao,co,rfl⟩:=H.slice;go_wp2_with fail
   refine A.aa.mono ?_;rintro e N⟨v4,rfl,S,Z⟩;have C:=O.tr Z;have hz1:=O.size;have Rp:Hid (aX w.heap.size w.heap.size 34 dJ (qQ s c x) v4 N):=ae (aX.low (aX.floor S hz1) hz1);have V:=H.st Z;have bQ:=(j.below Z j.lt).cell;obtain⟨A4,c4,rfl⟩:=az S.sG.ar;clear A S H q8 j;by_cases y:qQ s c x=[];rotate_left
   ·have hpos:=List.length_pos_iff.2 y;have HF:Hid (R=(qQ s c x,((m+1:Nat):Int),0)):=ae (by rw[G.aa,if_neg y]);have hw:IntKind.i64.wrap ((m:Int)+1)=(m:Int)+1:=IntWalk.i64_in _ af;clear y G;generalize qQ s c x=bt at *;go_wp2;go_ret3;exact⟨_,Bk,by rw[HF.aa];exact Rp.aa,C⟩
   have HF:Hid (R=((oM c (B.st.list.drop (m+1)) (kU s x) (m+1)).1,((oM c (B.st.list.drop (m+1)) (kU s x) (m+1)).2:Int),0)):=ae (by rw[G.aa,if_pos y]);rw[y];clear G Rp y;by_cases hk:x.kind=1
   ·have HF2:Hid (R=((oM c (B.st.list.drop (m+1)) s (m+1)).1,((oM c (B.st.list.drop (m+1)) s (m+1)).2:Int),0)):=ae (by rw[HF.aa,show kU s x=s from if_pos hk]);have hk2:(x.kind != 1)=false:=Fj;clear hk HF;go_wp2;go_roundw
    case rel=>exact⟨m+1,s,af,bO,af,I,V,C,HF2⟩
    case measure=>simp[intOf];omega
   have hk2:(x.kind != 1)=true:=pc;have hs1:kU s x=sY s x:=if_neg hk;have jD:=acO s x;have jV:=ahH (x:=x) I U.1;have u:=ae (abv s x _ _ N V.ar (HE.aa N C) af I U.1);rw[<- hs1]at u;clear hk hs1 V;go_wp2_with fail
   refine u.aa.mono ?_;rintro e w5⟨v5,rfl,nO,k5⟩;have mq:=C.tr k5;have iX:=C.size;have jh:aT (λk=>k<w.heap.size) w.heap.size 206 gQ (kU s x) v5 w5:=(nO.less λk hk=>af).low iX;clear u nO bQ;go_wp2;go_roundw
   case rel=>exact⟨m+1,kU s x,af,bO,af,jV,jh,mq,HF⟩
   case measure=>simp[intOf];omega
  ·have ba:¬(m:Int)<(B.st.list.length:Int):=af;obtain rfl:m=B.st.list.length:=af;have HF:Hid (R=([],(B.st.list.length:Int),0)):=ae (by rw[F.aa,List.drop_length];rfl);clear F hO;go_wp2;go_ret3;exact⟨_,Bk,Wn,kr⟩
def dE(X Z:Nat->Prop)(g gd:Nat)(B:aB)(W:World):Prop:=gL B/\∃p,bC (λk=>X k∨bn p k) p B W/\p.key=(g,gd)/\∀k,Z k->¬bn p k/\k<W.heap.size
abbrev azC(Z:Nat->Prop)(g gd:Nat)(B:aB)(W:World):Prop:=dE (λ_=>False) Z g gd B W
section
variable {X X' Z Z':Nat->Prop} {g gd:Nat} {B B':aB} {W W':World}
theorem dE.more(h:dE X Z g gd B W)(k:K W W')(t:∀k,X' k->X k∨(W.heap.size<=k/\k<W'.heap.size))(y:∀k,Z' k->Z k∨(W.heap.size<=k/\k<W'.heap.size)):dE X' Z' g gd B W':=by
 obtain⟨u,p,hb,hg,hz⟩:=h;refine⟨u,p,hb.far (X:=λ_=>False) (ah.bg k _) (λ_ h=>h.elim) (λ_ h=>h.elim) (λj i s=>s.elim (λh=>.inl ((t j h).resolve_right af)) .inr) (λ_ h=>.inr h) (λj i=>?_),hg,λj i=>?_⟩
 ·rcases i with h|h
  ·rcases t j h with h|h
   ·exact bB (hb.low j (.inl h)) k.size
   ·exact h.2
  ·exact bB (hb.low j (.inr h)) k.size
 ·rcases y j i with h|h
  ·exact⟨(hz j h).1,bB (hz j h).2 k.size⟩
  ·exact⟨λs=>by have:=hb.low j (hb.sub j s);omega,h.2⟩
theorem dE.st(h:dE X Z g gd B W)(k:K W W'):dE X Z g gd B W':=h.more k (λ_ h=>.inl h) λ_ h=>.inl h
theorem dE.less(h:dE X Z g gd B W)(i:∀k,X' k->X k)(j:∀k,Z' k->Z k):dE X' Z' g gd B W:=h.more (K.rf W) (λk hk=>.inl (i k hk)) λk hk=>.inl (j k hk)
theorem dE.far(h:dE X Z g gd B W)(u:ah X W W')(j:∀k,X k->Z k):dE X Z g gd B W':=by obtain⟨i,p,hb,hg,hz⟩:=h;exact⟨i,p,hb.far u (λ_ h=>.inl h) (λk hk=>(hz k (j k hk)).1) (λ_ _ h=>h) (λ_ h=>.inr h) (λk hk=>bB (hb.low k hk) u.size),hg,λk hk=>⟨(hz k hk).1,bB (hz k hk).2 u.size⟩⟩
theorem dE.n{p:cV}(i:∀k,Z k->¬bn p k/\k<W.heap.size)(hg:p.key=(g,gd))(u:gL B')(h:cW (λk=>X k∨bn p k) p B' W W'):dE X Z g gd B' W'/\ah (λk=>¬Z k) W W':=by
 obtain⟨p',y,j,A,s⟩:=h;refine⟨⟨u,p',y.less (λ_ h=>.inr h) (λ_ h=>h.elim (λh=>.inl (.inl h)) .inr),A.trans hg,λk hk=>⟨λt=>?_,bB (i k hk).2 j.size⟩⟩,j.more λk hk hz=>(i k hz).1 hk⟩;rcases s k t with h|h
 ·exact (i k hk).1 h
 ·have:=(i k hk).2;omega
theorem dE.call{f:FuncId}{i:Array Value}{r:Value}(h:dE X Z g gd B W)(s:∀p,bC (λk=>X k∨bn p k) p B W->p.key=(g,gd)->Calls prog f i W λe w'=>e=.returned r/\cW (λk=>X k∨bn p k) p B' W w')(j:gL B') :
 Calls prog f i W λe w'=>e=.returned r/\dE X Z g gd B' w'/\ah (λk=>¬Z k) W w':=by
 obtain⟨-,p,hb,hg,hz⟩:=h
 exact (s p hb hg).mono λe w' h=>⟨h.1,dE.n hz hg j h.2⟩
theorem ajL(h:dE X Z g gd B W)(c:Int)(i:bU c)(hn:B.calls+1<4611686018427387904) :
 Calls prog 9 #[.pointer (some ⟨g,0,none⟩),.int .i64 c] W λe w'=>e=.returned (.tuple #[cN (pS B c).2.1,.int .i64 (pS B c).2.2])/\dE X Z g gd (pS B c).1 w'/\ah (λk=>¬Z k) W w' :=
 h.call (λp hb e=>kg e▸ape hb h.1.tobH c i) (h.1.begin hn i)
theorem ak9(h:dE X Z g gd B W)(c:Int)(j:bU c)(hn:B.calls+1<4611686018427387904)(n:Nat)(i:n<18446744073709551616)(f:List bc)(vf:Value)(s:eJ f vf W)(hfit:∀t∈f,iH t)(u:f.length<=1000000) :
 Calls prog 22 #[.pointer (some ⟨g,0,none⟩),.int .i64 c,.int .u64 (n:Int),vf] W λe w'=>e=.returned (.tuple #[cN (qZ B c n f).2.1,.int .i64 (qZ B c n f).2.2])/\dE X Z g gd (qZ B c n f).1 w'/\ah (λk=>¬Z k) W w' :=
 h.call (λp hb e=>kg e▸arn hb h.1.tobH c j n i f vf s hfit u) (h.1.ask hn pd j i hfit)
theorem adN(h:dE X Z g gd B W)(a:av)(y:df a)(i:List bh)(u:Value)(t:ik i u W)(s:i.length<=1000000)(j:∀x∈i,mV x) :
 Calls prog 24 #[.pointer (some ⟨g,0,none⟩),cN a,u] W λe w'=>e=.returned (.int .i64 (gF B (nv B.aK a i)).2)/\dE X Z g gd (gF B (nv B.aK a i)).1 w'/\ah (λk=>¬Z k) W w' :=
 h.call (λp hb e=>kg e▸aol hb h.1.tobH a i u t s j) (h.1.WL j y)
theorem ai8(h:dE X Z g gd B W)(a:av)(i:df a) :
 Calls prog 25 #[.pointer (some ⟨g,0,none⟩),cN a] W λe w'=>e=.returned (.int .i64 (gF B (ny B.aK a)).2)/\dE X Z g gd (gF B (ny B.aK a)).1 w'/\ah (λk=>¬Z k) W w' :=
 h.call (λp hb e=>kg e▸aoK hb h.1.tobH a) (h.1.XB i)
theorem ayd(h:dE X Z g gd B W)(i:jO B=true)(hk:mF B=[]) :
 Calls prog 18 #[.pointer (some ⟨g,0,none⟩)] W λe w'=>e=.returned (.slice none 0 0)/\dE X Z g gd (ic B) w'/\ah (λk=>¬Z k) W w' :=
 h.call (λp hb e=>kg e▸arT hb h.1.tobH i hk) h.1.work
theorem awD(h:dE X Z g gd B W)(a:av) :
 Calls prog 13 #[.pointer (some ⟨g,0,none⟩),cN a] W λe w'=>e=.returned (.int .i64 (Dy B a))/\K W w':=by
 obtain⟨i,p,hb,hg,-⟩:=h
 obtain rfl:=kg hg
 exact aoQ hb i.tobH a
theorem aye(h:dE X Z g gd B W)(c fr:Int) :
 Calls prog 23 #[.pointer (some ⟨g,0,none⟩),.int .i64 c,.int .i64 fr] W λe w'=>∃i,e=.returned (.tuple #[i,.int .i64 (tY B c fr).2.1,.int .i64 (tY B c fr).2.2])/\aX W.heap.size W.heap.size 34 dJ (tY B c fr).1 i w'/\K W w':=by
 obtain⟨j,p,hb,hg,-⟩:=h
 obtain rfl:=kg hg
 exact aqH hb j.tobH c fr
theorem XC(h:dE X Z g gd B W) :
 Calls prog 12 #[.pointer (some ⟨g,0,none⟩)] W λe w'=>∃vl vp va,e=.returned (.agg (bS B.st vl vp va))/\uY (λk=>k<W.heap.size) B.st vl vp va w'/\K W w':=by
 obtain⟨i,p,hb,hg,-⟩:=h
 obtain rfl:=kg hg
 exact api hb i.tobH
theorem dE.new{gd:Nat}{vh:Value}{e:Ending}{q:cV}(h:Qu gd vh B W e W' q)(s:gL B)(t:∀k,X k->k<W.heap.size)(i:∀k,Z k->¬jf gd vh k/\k<W.heap.size):dE X Z q.g gd B W'/\ah (λk=>¬Z k) W W':=by
 refine⟨⟨s,q,h.br.less (λ_ h=>.inr h) (λk h=>h.imp (t k) id),(by unfold cV.key;rw[h.dd]),λk hk=>⟨λj=>?_,bB (i k hk).2 h.up.size⟩⟩,h.up.more λk hk hz=>(i k hz).1 hk⟩;rcases h.new k j with h|h
 ·exact (i k hk).1 h
 ·have:=(i k hk).2;omega
end
theorem bH.open_{me:Int}{p aZ:List Int}{d:lq}{s:bA}(t:iw p=true)(hm:jd p me=true)(j:tc p aZ=true)(i:kX d s):gL (tZ me p aZ d s) :=
 ⟨⟨t,hm,j,i,jF.nil,vU,vU,vU,vU,vU,vU⟩,fY.nil⟩
section
open Go Go.RowKit Go.ChangeShapes Go.WideShapes Go.ChangeAt
def ajM(w:World)(v:Value):Prop:=∃m,js m v w/\oQ m
section
variable {H:Type} {enc:TypeId×Value->H} {w:World} {base:Nat} {r:Reach} {b0:Nat} {spare:Nat->Bool} {held:Bool} {v:Value} {d:DataW H} {p:List MemPlace}
theorem avm{G:Nat}{cs:List Value}{x:DataW H×List MemPlace}(h:DataW.trod enc prog w base spare held G 117 cs=some x):∃y:fG,jW.rel y cs w/\df y.id:=by
 obtain⟨xs,n,_,_,B,D,A⟩:=DataW.trod_struct underlying117 h
 have F:prog.cellsOf 117=4:=ak
 rw[F]at B
 have J:prog.cellsOf 4=1:=ak
 have C:prog.cellsOf 46=3:=ak
 have N:xs.length=2:=D
 match cs,B with
 | [c0,c1,c2,c3],_ => have j:=A 0 _ rfl;have s:=A 1 _ rfl;simp[J,C]at j s;rw[List.getElem?_eq_getElem af]at j s;obtain⟨i,u,E⟩:=Uk j;obtain⟨b,t⟩:=aqV s;obtain⟨I,M,L⟩:=i;simp at u t;obtain⟨rfl,rfl,rfl⟩:=u;subst t;exact⟨⟨(I,M,L),b⟩,rfl,E⟩
theorem adO{fuel:Nat}{cs:List Value}{x:DataW H×List MemPlace}(h:DataW.trod enc prog w base spare held fuel 41 cs=some x) :
 ∃(m:bK) (B t u D A F:Value),cs=(fH m B t u D A F).toList/\(ar jW m.bM B w/\ar aQ m.asks t w/\ar aQ m.entries u w/\ar aQ m.cH D w/\ar bI m.bY A w/\ar bI m.ends F w)/\oQ m:=by
 obtain⟨xs,n,_,_,O,hxl,i⟩:=DataW.trod_struct underlying41 h
 have hC:prog.cellsOf 41=8:=ak
 rw[hC]at O
 have e1:prog.cellsOf 3=1:=ak
 have e2:prog.cellsOf 37=1:=ak
 have e3:prog.cellsOf 38=1:=ak
 have e4:prog.cellsOf 39=1:=ak
 have X:prog.cellsOf 32=1:=ak
 have xJ:xs.length=8:=hxl
 match cs,O with
 | [c0,c1,c2,c3,c4,c5,c6,c7],_ => have C:=i 0 _ rfl;have I:=i 1 _ rfl;have j:=i 2 _ rfl;have s:=i 3 _ rfl;have E:=i 4 _ rfl;have G:=i 5 _ rfl;have h6:=i 6 _ rfl;have h7:=i 7 _ rfl;simp[e1,e2,e3,e4,X]at C I j s E G h6 h7;rw[List.getElem?_eq_getElem af]at C I j s E G h6 h7;obtain⟨k,S,Z⟩:=Dj C;obtain⟨g,J,wg⟩:=Ot I;obtain⟨B,l1,N,g1,W⟩:=Di underlying38 jW (λv=>df v.id) ak au (λ_ _ _ _ ht=>avm ht) j;obtain⟨t,l2,T,g2,o2⟩:=Di underlying39 aQ cK ak au (λ_ _ _ _ ht=>Ul ht) s;obtain⟨u,U,L,Y,V⟩:=Di underlying39 aQ cK ak au (λ_ _ _ _ ht=>Ul ht) E;obtain⟨D,l4,M,g4,o4⟩:=Di underlying39 aQ cK ak au (λ_ _ _ _ ht=>Ul ht) G;obtain⟨A,l5,R,g5,o5⟩:=Di underlying32 bI df ak au (λ_ _ _ _ ht=>ai9) h6;obtain⟨F,l6,Q,g6,o6⟩:=Di underlying32 bI df ak au (λ_ _ _ _ ht=>ai9) h7;simp at S J N T L M R Q;subst S J N T L M R Q;exact⟨⟨k,g,l1,l2,U,l4,l5,l6⟩,_,_,_,_,_,_,rfl,⟨g1,g2,Y,g4,g5,g6⟩,Z,wg,W,o2,V,o4,o5,o6⟩
theorem asc(D:Value.okWide prog w r b0 41 v)(h:DataW.Trod enc prog w base spare held 41 v d p):ajM w v:=by
 obtain⟨cs,rfl,L⟩:=okWide_struct underlying41 D;obtain⟨M,J⟩:=h;obtain⟨m,t,i,j,u,s,y,H,⟨G,C,I,E,A,F⟩,B⟩:=adO J;refine⟨m,⟨t,i,j,u,s,y,?_,G,C,I,E,A,F⟩,B⟩;have:cs.toList=(fH m t i j u s y).toList:=by simpa [Value.cells]using H
 obtain⟨l⟩:=cs;simp at this;rw[this]
end
end
section
open Go Go.RowKit Go.ChangeShapes Go.WideShapes Go.ChangeAt
structure DV where
 kind:Int
 cl:Int
 n:Int
 e:List bh
 f:List bc
 m:bK
 b:List UInt8
def QO(c:DV):Prop:=bU c.kind/\bU c.cl/\bU c.n/\(∀a∈c.e,mV a)/\(∀t∈c.f,iH t)/\oQ c.m
abbrev AO(c:DV)(ve vf v1 v2 v3 v4 v5 v6 vb:Value):Array Value:=#[.int .i64 c.kind,.int .i64 c.cl,.int .i64 c.n,ve,vf,.int .i64 c.m.kind,.int .u64 (c.m.got:Int),v1,v2,v3,v4,v5,v6,vb]
def SR:cF DV where
 size:=14
 rel c cs w:=∃s vf B t y j A h i,cs=(AO c s vf B t y j A h i).toList/\ik c.e s w/\eJ c.f vf w/\ar jW c.m.bM B w/\ar aQ c.m.asks t w/\ar aQ c.m.entries y w/\ar aQ c.m.cH j w/\ar bI c.m.bY A w/\ar bI c.m.ends h w/\sl c.b i w
 len:=by rintro _ _ _⟨s,vf,B,t,y,j,A,h,i,rfl,_⟩;rfl
 one:=by rintro x _ _⟨s,vf,B,t,y,j,A,h,i,rfl,⟨_,_,rfl,_⟩,⟨_,_,rfl,_⟩,⟨_,_,rfl,_⟩,⟨_,_,rfl,_⟩,⟨_,_,rfl,_⟩,⟨_,_,rfl,_⟩,⟨_,_,rfl,_⟩,⟨_,_,rfl,_⟩,⟨_,_,rfl,_⟩⟩ u C;simp at C;rcases C with rfl|rfl|rfl|rfl|rfl|rfl|rfl|rfl|rfl|rfl|rfl|rfl|rfl|rfl <;> rfl
 st:=by rintro _ _ _ _⟨s,vf,B,t,y,j,A,h,i,rfl,F,G,H,D,E,h6,h7,h8,h9⟩ k;exact⟨s,vf,B,t,y,j,A,h,i,rfl,mR _ _ _ _ F k,dB _ _ _ _ G k,aW H k,aW D k,aW E k,aW h6 k,aW h7 k,aW h8 k,iQ _ _ _ _ h9 k⟩
def ada(w:World)(v:Value):Prop:=∃l,ar SR l v w/\∀c∈l,QO c
section
variable {H:Type} {enc:TypeId×Value->H} {w:World} {base:Nat} {r:Reach} {b0:Nat} {spare:Nat->Bool} {held:Bool} {v:Value} {d:DataW H} {p:List MemPlace}
theorem avn{fuel:Nat}{cs:List Value}{x:DataW H×List MemPlace}(h:DataW.trod enc prog w base spare held fuel 44 cs=some x):∃c:DV,SR.rel c cs w/\QO c:=by
 obtain⟨xs,n,_,_,E,R,i⟩:=DataW.trod_struct underlying44 h
 have S:prog.cellsOf 44=14:=ak
 rw[S]at E
 have O:prog.cellsOf 3=1:=ak
 have W:prog.cellsOf 34=1:=ak
 have M:prog.cellsOf 36=1:=ak
 have e6:prog.cellsOf 41=8:=ak
 have e7:prog.cellsOf 42=1:=ak
 have xJ:xs.length=7:=R
 match cs,E with
 | [c0,c1,c2,c3,c4,c5,c6,c7,c8,c9,Ga,c11,c12,c13],_ => have t:=i 0 _ rfl;have A:=i 1 _ rfl;have j:=i 2 _ rfl;have s:=i 3 _ rfl;have u:=i 4 _ rfl;have y:=i 5 _ rfl;have h6:=i 6 _ rfl;simp[O,W,M,e6,e7]at t A j s u y h6;rw[List.getElem?_eq_getElem af]at t A j s u y h6;obtain⟨k,I,N⟩:=Dj t;obtain⟨c,G,wc⟩:=Dj A;obtain⟨m,J,wm⟩:=Dj j;obtain⟨e,⟨v,D,U⟩,we⟩:=adl s;obtain⟨vf,f,C,cC,X⟩:=adm u;obtain⟨ms,v1,v2,v3,v4,v5,v6,es,⟨Z,g2,L,V,Y,T⟩,Q⟩:=adO y;obtain⟨vb,F,B,cb,bl,evb,hb,-⟩:=apH h6;simp at I G J D C es F;obtain⟨rfl,rfl,rfl,rfl,rfl,rfl,rfl,rfl⟩:=es;subst I G J D C F;exact⟨⟨k,c,m,e,f,ms,bl⟩,⟨_,_,_,_,_,_,_,_,_,rfl,U,cC,Z,g2,L,V,Y,T,⟨B,cb,evb,hb⟩⟩,N,wc,wm,we,X,Q⟩
theorem ao3(s:Value.okWide prog w r b0 23 v)(h:DataW.Trod enc prog w base spare held 23 v d p):ada w v:=by obtain⟨A,n,c,rfl⟩:=okWide_slice underlying23 s;obtain⟨y,u⟩:=h;obtain⟨v,l,e,t,i⟩:=Di underlying23 SR QO ak au (λ_ _ _ _ j=>avn j) u;simp[Value.cells]at e;subst e;exact⟨l,t,i⟩
end
end
def wH(l:List aq):Bool:=decide (l.length<=20)&&l.all xD
def FW(m:bK):Bool:=wH m.asks&&wH m.entries&&wH m.cH&&decide (m.bM.length<=50)&&decide (m.bY.length<=50)&&decide (m.ends.length<=50)
theorem TA(l:List aq)(v:Value)(w:World)(h:ar aQ l v w) :
 Calls prog 42 #[v] w λe w'=>e=.returned (.bool (wH l))/\K w w':=by
 obtain⟨A,c,rfl,F,M⟩:=h
 have HI:Hid (wH l=(decide (l.length<=20)&&l.all xD)):=ae rfl
 generalize wH l=R at *
 have kk:=K.rf w
 go_enter func42,ntmps42
 by_cases fT:l.length<=20
 rotate_left
 ·have G:(20:Int)<(l.length:Int):=af;exact aja
 have G:¬(20:Int)<(l.length:Int):=af
 go_wp2_with fail
 go_loopw [3,4] (fun i _ wr=>∃j:Nat,j<=l.length/\i=.int .i64 (j:Int)/\Hid ((l.take j).all xD=true)/\K w wr) (fun i _ _=>l.length-(intOf i).toNat)
 case atStart=>exact⟨0,af,rfl,ae aj,kk⟩
 case round =>
  clear kk;obtain⟨j,O,rfl,HT,kr⟩:=hrel;by_cases u:j<l.length
  ·have ba:(j:Int)<(l.length:Int):=af;obtain⟨E,y,cs,rfl,H,B,s,d⟩:=dM F j u au;have HS:=ae (Df xD l j u);generalize l[j]=x at *;obtain⟨vf,I,rfl,D,C⟩:=B w (K.rf w);have s:∀W,K wr W->W.cell? ⟨E,y+j*8,none⟩=some (.int .i64 x.kind):=λW t=>s W (kr.tr t)
   have d:∀W,K wr W->∀i,i<8->W.cell? ⟨E,y+j*8+i,none⟩=(aA x vf I)[i]?:=λW t i L=>(d W (kr.tr t) i L).trans Array.getElem?_toList
   have kk:=K.rf wr;clear H B;go_wp2_with fail
   refine (aq6 x _ wr ⟨_,_,rfl,dB _ _ _ _ D kr,aW C kr⟩).mono ?_;rintro e N⟨rfl,J⟩;have qE:=kr.tr J;clear s d D C;cases hq:xD x
   ·have HR:Hid (R=false):=ae (by
     have h1:(l.take (j+1)).all xD=false:=KF;rw[HI.aa,Hu xD l (j+1) h1];simp)
    exact Pc
   ·have kJ:Hid ((l.take (j+1)).all xD=true):=ae KH;exact Pd
  ·exact Pe
theorem acm(m:bK)(v:Value)(w:World)(h:js m v w) :
 Calls prog 14 #[v] w λe w'=>e=.returned (.bool (FW m))/\K w w':=by
 obtain⟨v1,V,X,Y,v5,v6,rfl,N,j,s,t,J,h6⟩:=h
 have B:=ae λW (i:K w W)=>TA m.asks V W (aW j i)
 have M:=ae λW (i:K w W)=>TA m.entries X W (aW s i)
 have I:=ae λW (i:K w W)=>TA m.cH Y W (aW t i)
 obtain⟨U,c1,rfl⟩:=az N
 obtain⟨L,c2,rfl⟩:=az j
 obtain⟨S,c3,rfl⟩:=az s
 obtain⟨D,c4,rfl⟩:=az t
 obtain⟨A,c5,rfl⟩:=az J
 obtain⟨T,y,rfl⟩:=az h6
 clear N j s t J h6
 have HR:Hid (FW m=(wH m.asks&&wH m.entries&&wH m.cH&&decide (m.bM.length<=50)&&decide (m.bY.length<=50)&&decide (m.ends.length<=50))):=ae rfl
 generalize FW m=R at *
 have u:=ai.new w 41 (fH m (.slice U m.bM.length c1) (.slice L m.asks.length c2) (.slice S m.entries.length c3) (.slice D m.cH.length c4) (.slice A m.bY.length c5) (.slice T m.ends.length y))
 have E:K w (w.alloc (.cells (fH m (.slice U m.bM.length c1) (.slice L m.asks.length c2) (.slice S m.entries.length c3) (.slice D m.cH.length c4) (.slice A m.bY.length c5) (.slice T m.ends.length y)) 41)):=(K.rf w).al _
 go_enter func14,ntmps14
 go_upto_region 1 with (fail)
 generalize w.alloc _=F at *
 have qx:=u.cells
 have kk:=K.rf F
 generalize w.heap.size=g at *
 clear u
 go_wp2_with fail
 refine (B.aa F E).mono ?_
 rintro e w2⟨rfl,G⟩
 replace kk:=kk.tr G
 have O:=E.tr G
 go_wp2_with fail
 refine (M.aa w2 O).mono ?_
 rintro e Z⟨rfl,Q⟩
 replace kk:=kk.tr Q
 have H:=O.tr Q
 go_wp2_with fail
 refine (I.aa Z H).mono ?_
 rintro e w4⟨rfl,C⟩
 replace kk:=kk.tr C
 have k4:=H.tr C
 generalize wH m.asks=q1 at *
 generalize wH m.entries=q2 at *
 generalize wH m.cH=q3 at *
 clear B M I
 cases q1
 ·exact Xm
 cases q2
 ·exact Xm
 cases q3
 ·exact Xm
 by_cases z1:(m.bM.length:Int)<=50
 rotate_left
 ·have HQ:Hid (R=false):=ae (by rw[HR.aa,show decide (m.bM.length<=50)=false from by simp;omega];simp);exact Xn
 by_cases z2:(m.bY.length:Int)<=50
 rotate_left
 ·have HQ:Hid (R=false):=ae (by rw[HR.aa,show decide (m.bY.length<=50)=false from by simp;omega];simp);exact Xn
 by_cases z3:(m.ends.length:Int)<=50
 rotate_left
 ·have HQ:Hid (R=false):=ae (by rw[HR.aa,show decide (m.ends.length<=50)=false from by simp;omega];simp);exact Xn
 have HQ:Hid (R=true):=ae (by
  rw[HR.aa,show decide (m.bM.length<=50)=true from by simp;omega,show decide (m.bY.length<=50)=true from by simp;omega,show decide (m.ends.length<=50)=true from by simp;omega];rfl)
 go_wp2
 go_ret
 exact⟨ajb,k4⟩
section
variable {X Z:Nat->Prop} {g gd:Nat} {B:aB} {W:World}
theorem ajN(h:dE X Z g gd B W)(C:lL B)(u:B.told.length<=800000) :
 Calls prog 18 #[.pointer (some ⟨g,0,none⟩)] W λe w'=>(∃j,e=.returned j)/\dE X Z g gd (ic B) w'/\ah (λk=>¬Z k) W w':=by
 obtain⟨i,p,hb,hg,hz⟩:=h
 obtain rfl:=kg hg
 refine (aqF hb i.tobH C u).mono ?_
 rintro e w'⟨j,p',rfl,t,y,A,s,-⟩
 exact⟨⟨_,rfl⟩,dE.n hz hg i.work ⟨p',t,y,A,s⟩⟩
theorem ajc(h:dE X Z g gd B W)(s:lL B)(j:B.told.length+16<=1000000)(fr:Int)(b:List UInt8)(i:Value)(hb:sl b i W)(t:b.length<=1000000000) :
 Calls prog 17 #[.pointer (some ⟨g,0,none⟩),.int .i64 fr,i] W λe w'=>e=.returned (.int .i64 (jM B fr b).2)/\dE X Z g gd (jM B fr b).1 w'/\ah (λk=>¬Z k) W w' :=
 h.call (λp u e=>kg e▸aoZ u h.1.tobH s j fr b i hb t) (acg s h.1 fr b j).1
theorem axw(h:dE X Z g gd B W)(a:av)(i:df a) :
 Calls prog 26 #[.pointer (some ⟨g,0,none⟩),cN a] W λe w'=>e=.returned (.int .i64 (gF B (pQ B.aK a)).2)/\dE X Z g gd (gF B (pQ B.aK a)).1 w'/\ah (λk=>¬Z k) W w' :=
 h.call (λp hb e=>kg e▸apd hb h.1.tobH a) (h.1.abort i)
end
theorem ao0(l:List av)(n:Int)(v:Value)(w:World)(h:ar bI l v w)(L:l.length<=1000000)(hn:bU n)(E:∀a∈l,df a) :
 Calls prog 44 #[v,.int .i64 n] w λe w'=>∃a,e=.returned (cN a)/\df a/\K w w':=by
 obtain⟨A,c,rfl,s,-⟩:=h
 have hr:=ai.new w 46 #[.int .i64 0,.int .u64 0,.int .u64 0]
 have k1:K w (w.alloc (.cells #[.int .i64 0,.int .u64 0,.int .u64 0] 46)):=(K.rf w).al _
 have j:∀(a:av) (W:World),ai W w.heap.size 46 #[.int .i64 0,.int .u64 0,.int .u64 0]->K w W->ai (((W.setCell ⟨w.heap.size,0,none⟩ (.int .i64 a.1)).setCell ⟨w.heap.size,1,none⟩ (.int .u64 (a.2.1:Int))).setCell ⟨w.heap.size,2,none⟩ (.int .u64 (a.2.2:Int))) w.heap.size 46 (bZ a)/\K w (((W.setCell ⟨w.heap.size,0,none⟩ (.int .i64 a.1)).setCell ⟨w.heap.size,1,none⟩ (.int .u64 (a.2.1:Int))).setCell ⟨w.heap.size,2,none⟩ (.int .u64 (a.2.2:Int))):=λa W h k =>
  ⟨((h.aR 0 _).aR 1 _).aR 2 _,K.set (K.set (K.set k (r:=w.heap.size) (aG _) 0 _) (r:=w.heap.size) (aG _) 1 _) (r:=w.heap.size) (aG _) 2 _⟩
 have HST:=ae j
 by_cases h0:l.length=0
 ·have F:((l.length:Int)==0)=true:=Fk;clear s h0 hn j;go_enter func44,ntmps44;go_upto_region 1 with (fail);generalize w.alloc _=w1 at *;generalize w.heap.size=Q at *;obtain⟨h9,k9⟩:=HST.aa (0,0,0) w1 hr k1;simp only[Int.natCast_zero]at h9 k9;have q:=hr.cell;have z:=hr.frozen;clear HST;go_wp2;have e9:=h9.cell;refine bodyPost_ret (v:=cN (0,0,0)) ajd rfl ?_;have D:df (0,0,0):=⟨pd,aj,aj⟩;first|exact⟨(0,0,0),rfl,D,k9⟩|exact⟨0,0,0,rfl,D,k9⟩
 have F:((l.length:Int)==0)=false:=Fk
 have M:-9223372036854775808<=n/\n<=9223372036854775807:=by simpa [bU]using hn
 have key:∀m:Int,0<=m->∃r:Nat,Int.tmod m (l.length:Int)=(r:Int)/\r<l.length:=λm hm=>by have N:=Int.tmod_lt_of_pos m (show (0:Int)<(l.length:Int) by omega);have G:=Int.tmod_nonneg (l.length:Int) hm;exact⟨(Int.tmod m (l.length:Int)).toNat,af,af⟩
 obtain⟨r,C,t⟩:=key (if n<0 then -(n+1)else n) WK
 obtain⟨b,off,J,rfl,-,u,d0,d⟩:=dM s r t au
 have y:=E _ (bW t)
 have H:(r:Int)<(l.length:Int):=af
 generalize l[r]=a at *
 obtain rfl:=u w (K.rf w)
 have HFA:=ae y
 clear s h0 hn j key u E y
 by_cases B:n<0
 ·have I:IntKind.i64.wrap (n+1)=n+1:=KX;have O:IntKind.i64.wrap (-(n+1))=-(n+1):=KX;rw[if_pos B]at C;exact aje
 ·rw[if_neg B]at C;exact aje
def Fl(c:DV):Bool:=mX c.e&&pZ c.f&&FW c.m&&decide (c.b.length<=500)
theorem aqI{c:DV}(h:Fl c=true):c.e.length<=20/\c.f.length<=10:=by unfold Fl mX pZ at h;simp only[cz,decide_eq_true_eq]at h;exact⟨h.1.1.1.1,h.1.1.2.1⟩
theorem ao1(c:DV)(v:Value)(w:World)(h:∃J vf u j s B t C D,v=.agg (AO c J vf u j s B t C D)/\ik c.e J w/\eJ c.f vf w/\ar jW c.m.bM u w/\ar aQ c.m.asks j w/\ar aQ c.m.entries s w/\ar aQ c.m.cH B w/\ar bI c.m.bY t w/\ar bI c.m.ends C w/\sl c.b D w) :
 Calls prog 43 #[v] w λe w'=>e=.returned (.bool (Fl c))/\K w w':=by
 obtain⟨J,vf,u,j,s,B,t,C,D,rfl,he,hf,N,E,F,G,H,h6,hb⟩:=h
 have HS:Hid (Fl c=(mX c.e&&pZ c.f&&FW c.m&&decide (c.b.length<=500))):=ae rfl
 have CM:=ae λW (k:K w W)=>acm c.m _ W ⟨u,j,s,B,t,C,rfl,aW N k,aW E k,aW F k,aW G k,aW H k,aW h6 k⟩
 obtain⟨I,O,rfl,X⟩:=he
 obtain⟨L,M,rfl,T⟩:=hf
 have CE:=ae λW (k:K w W)=>acC I O c.e W _ ((X.below k (aG _)).more k.size) (aG _)
 have Z:=ae λW (k:K w W)=>abS L M c.f W _ ((T.below k (aG _)).more k.size) (aG _)
 obtain⟨A1,c1,rfl⟩:=az N
 obtain⟨A2,c2,rfl⟩:=az E
 obtain⟨A3,c3,rfl⟩:=az F
 obtain⟨U,c4,rfl⟩:=az G
 obtain⟨S,c5,rfl⟩:=az H
 obtain⟨A6,Q,rfl⟩:=az h6
 obtain⟨Y,V,rfl,-⟩:=hb
 have i:=ai.new w 44 (AO c (.slice I c.e.length O) (.slice L c.f.length M) (.slice A1 c.m.bM.length c1) (.slice A2 c.m.asks.length c2) (.slice A3 c.m.entries.length c3) (.slice U c.m.cH.length c4) (.slice S c.m.bY.length c5) (.slice A6 c.m.ends.length Q) (.slice Y c.b.length V))
 have y:=(K.rf w).al (.cells (AO c (.slice I c.e.length O) (.slice L c.f.length M) (.slice A1 c.m.bM.length c1) (.slice A2 c.m.asks.length c2) (.slice A3 c.m.entries.length c3) (.slice U c.m.cH.length c4) (.slice S c.m.bY.length c5) (.slice A6 c.m.ends.length Q) (.slice Y c.b.length V)) 44)
 clear N E F G H h6 X T
 generalize Fl c=R at *
 go_enter func43,ntmps43
 go_upto_region 1 with (fail)
 generalize w.alloc _=A at *
 generalize w.heap.size=gx at i⊢
 have qx:=i.cells A (K.rf _)
 go_wp2_with fail
 refine (CE.aa A y).mono ?_
 rintro e w2⟨rfl,rfl⟩
 go_wp2_with fail
 refine (Z.aa A y).mono ?_
 rintro e w2⟨rfl,rfl⟩
 go_wp2_with fail
 refine (CM.aa A y).mono ?_
 rintro e w2⟨rfl,k2⟩
 have gP:=y.tr k2
 have qx:=(i.below k2 i.lt).cell
 generalize mX c.e=q1 at *
 generalize pZ c.f=q2 at *
 generalize FW c.m=q3 at *
 clear CE Z CM
 cases q1
 ·exact Xo
 cases q2
 ·exact Xo
 cases q3
 ·exact Xo
 have hd:Hid (decide ((c.b.length:Int)<=500)=decide (c.b.length<=500)):=ae (by rw[Bool.eq_iff_iff];simp;omega)
 go_wp2
 go_ret
 exact⟨by rw[HS.aa];simp[<- hd.aa],gP⟩
def DkS(Z:Nat->Prop)(gd:Nat)(d:lq)(W:World):Prop:=∃vh,MK gd vh d W/\∀k,Z k->¬jf gd vh k/\k<W.heap.size
section
variable {X Z:Nat->Prop} {g gd:Nat} {B:aB} {W W':World}
theorem ayf{d:lq}{s:bA}(h:DkS Z gd d W)(D:kX d s)(I:FN (d.gU.map bV))(L:s.life+1<18446744073709551616)(p aZ:List Int)(me:Int)(t j:Value)(N:Fx (λk=>¬Z k) (λW=>ar eS p t W) W)(F:Fx (λk=>¬Z k) (λW=>ar eS aZ j W) W)
 (C:iw p=true) (hm:jd p me=true) (B:tc p aZ=true) (A:jw (eP (dS s))<=d.room) (J:∀k,X k->Z k) :
 Calls prog 8 #[.int .i64 me,t,j,.pointer (some ⟨gd,0,none⟩)] W λe w'=>∃g,e=.returned (.tuple #[.pointer (some ⟨g,0,none⟩),.int .i64 0])/\dE X Z g gd (tZ me p aZ ⟨eP (dS s),d.room⟩ (dS s)) w'/\ah (λk=>¬Z k) W w'/\W.heap.size<=g:=by
 obtain⟨vh,H,hz⟩:=h
 have E:∀k,jf gd vh k->¬Z k:=λk hk G=>(hz k G).1 hk
 refine (abo gd vh d s p aZ me t j W H D I L (N.less E) (F.less E) C hm B).mono ?_
 intro e w' y
 unfold DH at y
 rw[if_pos A]at y
 obtain⟨q,i⟩:=y
 obtain⟨M,u⟩:=dE.new (X:=X) i (bH.open_ C hm B (D.life A)) (λk hk=>(hz k (J k hk)).2) hz
 exact⟨q.g,i.ret,M,u,i.g⟩
theorem aT.ids{N:Nat->Prop}{base:Nat}{e:TypeId}{l:List av}{v:Value}(h:aT (λ_=>True) base e bI l v W)(u:ah N W W')(hN:∀k,v.ownBlock=some k->¬N k):aT (λ_=>True) base e bI l v W':=by exact aip
end
section
variable {me:Int} {par aZ:List Int} {B:aB} {n:Nat} {l:List av}
end
def j8(Z:Nat->Prop)(g:Nat)(B:aB)(W:World):Prop:=∃gd,azC Z g gd B W
section
variable {Z Z':Nat->Prop} {g:Nat} {B B':aB} {W W':World}
theorem j8.st(h:j8 Z g B W)(k:K W W'):j8 Z g B W':=h.elim λgd h=>⟨gd,h.st k⟩
theorem j8.more(h:j8 Z g B W)(k:K W W')(i:∀k,Z' k->Z k∨(W.heap.size<=k/\k<W'.heap.size)):j8 Z' g B W':=h.elim λgd h=>⟨gd,h.more k (λ_ h=>.inl h) i⟩
theorem axx(h:j8 Z g B W)(c:Int)(i:bU c)(hn:B.calls+1<4611686018427387904) :
 Calls prog 9 #[.pointer (some ⟨g,0,none⟩),.int .i64 c] W λe w'=>e=.returned (.tuple #[cN (pS B c).2.1,.int .i64 (pS B c).2.2])/\j8 Z g (pS B c).1 w'/\ah (λk=>¬Z k) W w' :=
 h.elim λgd h=>(ajL h c i hn).mono λ_ _ h=>⟨h.1,⟨gd,h.2.1⟩,h.2.2⟩
theorem azD(h:j8 Z g B W)(c:Int)(j:bU c)(hn:B.calls+1<4611686018427387904)(n:Nat)(u:n<18446744073709551616)(f:List bc)(vf:Value)(s:eJ f vf W)(hfit:∀t∈f,iH t)(i:f.length<=1000000) :
 Calls prog 22 #[.pointer (some ⟨g,0,none⟩),.int .i64 c,.int .u64 (n:Int),vf] W λe w'=>e=.returned (.tuple #[cN (qZ B c n f).2.1,.int .i64 (qZ B c n f).2.2])/\j8 Z g (qZ B c n f).1 w'/\ah (λk=>¬Z k) W w' :=
 h.elim λgd h=>(ak9 h c j hn n u f vf s hfit i).mono λ_ _ h=>⟨h.1,⟨gd,h.2.1⟩,h.2.2⟩
theorem avo(h:j8 Z g B W)(a:av)(t:df a)(i:List bh)(u:Value)(s:ik i u W)(j:i.length<=1000000)(y:∀x∈i,mV x) :
 Calls prog 24 #[.pointer (some ⟨g,0,none⟩),cN a,u] W λe w'=>e=.returned (.int .i64 (gF B (nv B.aK a i)).2)/\j8 Z g (gF B (nv B.aK a i)).1 w'/\ah (λk=>¬Z k) W w' :=
 h.elim λgd h=>(adN h a t i u s j y).mono λ_ _ h=>⟨h.1,⟨gd,h.2.1⟩,h.2.2⟩
theorem awE(h:j8 Z g B W)(a:av)(i:df a) :
 Calls prog 25 #[.pointer (some ⟨g,0,none⟩),cN a] W λe w'=>e=.returned (.int .i64 (gF B (ny B.aK a)).2)/\j8 Z g (gF B (ny B.aK a)).1 w'/\ah (λk=>¬Z k) W w' :=
 h.elim λgd h=>(ai8 h a i).mono λ_ _ h=>⟨h.1,⟨gd,h.2.1⟩,h.2.2⟩
theorem ayg(h:j8 Z g B W)(i:jO B=true)(hk:mF B=[]) :
 Calls prog 18 #[.pointer (some ⟨g,0,none⟩)] W λe w'=>e=.returned (.slice none 0 0)/\j8 Z g (ic B) w'/\ah (λk=>¬Z k) W w' :=
 h.elim λgd h=>(ayd h i hk).mono λ_ _ h=>⟨h.1,⟨gd,h.2.1⟩,h.2.2⟩
theorem Xp(h:j8 Z g B W)(a:av) :
 Calls prog 13 #[.pointer (some ⟨g,0,none⟩),cN a] W λe w'=>e=.returned (.int .i64 (Dy B a))/\K W w' :=
 h.elim λ_ h=>awD h a
theorem aj6(h:j8 Z g B W)(c fr:Int) :
 Calls prog 23 #[.pointer (some ⟨g,0,none⟩),.int .i64 c,.int .i64 fr] W λe w'=>∃i,e=.returned (.tuple #[i,.int .i64 (tY B c fr).2.1,.int .i64 (tY B c fr).2.2])/\aX W.heap.size W.heap.size 34 dJ (tY B c fr).1 i w'/\K W w' :=
 h.elim λ_ h=>aye h c fr
theorem axy(h:j8 Z g B W) :
 Calls prog 12 #[.pointer (some ⟨g,0,none⟩)] W λe w'=>∃vl vp va,e=.returned (.agg (bS B.st vl vp va))/\uY (λk=>k<W.heap.size) B.st vl vp va w'/\K W w' :=
 h.elim λ_ h=>XC h
theorem j8.new{gd:Nat}{vh:Value}{e:Ending}{q:cV}(h:Qu gd vh B W e W' q)(i:gL B)(j:∀k,Z k->¬jf gd vh k/\k<W.heap.size):j8 Z q.g B W'/\ah (λk=>¬Z k) W W':=(dE.new h i (λ_ h=>h.elim) j).imp (λh=>⟨gd,h⟩) id
end
def qu(m c:Int):List bz×Int:=vV [] (m,1,1) c
def tl(m c:Int):List bz×Int:=s6 (qu m c).1 ⟨2,m,1,2,c,1,[],[]⟩
def Mm(m c:Int):List bz×Int:=s6 (tl m c).1 ⟨3,m,1,3,c,1,[],[]⟩
theorem ar9:jw (eP (dS iL))<=60000:=by decide +kernel
def Xq(w:World)(v:Value):Prop:=∃l:List Int,ar eS l v w/\∀n∈l,bU n
abbrev YF:List bc:=[(⟨#[112]⟩,8,0,0,⟨#[]⟩)]
abbrev Mb:List bh:=[(⟨#[112]⟩,1,5,⟨#[]⟩)]
def azE:lq:=⟨eP (dS iL),10000⟩
def SS:aB:=tZ 0 [-1] [0] azE (dS iL)
def SU:aB:=(qZ SS 0 7 YF).1
def NH:aB:=(pS SU 0).1
def NI:aB:=(gF NH (nv NH.aK (0,1,2) Mb)).1
def NJ:aB:=(gF NI (ny NI.aK (0,1,2))).1
def Hp:aB:=ic NJ
theorem aj7:jw (eP (dS iL))<=10000:=by decide +kernel
theorem ayh:(qZ SS 0 7 YF).2=((0,1,1),0):=by decide +kernel
theorem ayi:(pS SU 0).2=((0,1,2),0):=by decide +kernel
theorem ayj:(gF NH (nv NH.aK (0,1,2) Mb)).2=0:=by decide +kernel
theorem ayk:(gF NI (ny NI.aK (0,1,2))).2=0:=by decide +kernel
theorem ayl:Dy NJ (0,1,2)=2:=by decide +kernel
theorem aj8:Dy Hp (0,1,1)=3/\Dy Hp (0,1,2)=3:=by decide +kernel
theorem aym:tY Hp 0 0=([Mb],2,0):=by decide +kernel
theorem ayn:tY Hp 0 2=([],2,0):=by decide +kernel
theorem ayo:Hp.st.life=1:=by decide +kernel
theorem aj9:jO NJ=true/\mF NJ=[]:=by decide +kernel
theorem aka:SS.calls+1<4611686018427387904/\SU.calls+1<4611686018427387904:=by decide +kernel
