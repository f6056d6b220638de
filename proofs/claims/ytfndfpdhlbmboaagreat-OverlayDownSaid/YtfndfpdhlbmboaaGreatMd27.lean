/-
  The walk of broker's Handle (layer 20). Conditions: at most a milliard bytes.
-/
import Derived.Test.YtfndfpdhlbmboaaGreatMd26
import Derived.Conc.LoneCalls
import Derived.Conc.LoneSelect
import Derived.Test.YtfndfpdhlbmboaaGreatMdz
set_option maxRecDepth 100000
set_option linter.constructorNameAsVariable false
set_option maxHeartbeats 16000000
set_option linter.unusedVariables false
set_option linter.unusedSimpArgs false
namespace Go.Proofs.YtfndfpdhlbmboaaGreat
open Go Go.RowKit _root_.Go.Proofs.Tryz
def LQ(B:aZ)(j:Int):Bool:=decide (j∈oo B)
def LR(B:aZ)(j:Int):Bool:=!mT B&&decide (j=tJ B)
def LJ(B:aZ)(t:Int)(j par:Bool)(m:fH):aZ×Int:=if j&&decide (m.kind=1)then (gB { B with bO:=oT B.bO t m },0)else if par&&decide (m.kind=2)then (rK B m,0)else (B,201)
theorem asP B j b:iC B j b=if LQ B j||LR B j then (if xD b=0 then LJ B j (LQ B j) (LR B j) (pM b)else (B,xD b))else (B,201):=by
 grind [iC,LQ,LR,xD,LJ,pM,tI]
theorem awp{B}{m:Nat}(t:B.me=(m:Int))(j:m<B.par.length):tJ B=B.par[m]:=by
 grind [tJ]
theorem apx{M p B w}(h:bB M p B w)(E:bE B)(hF:lH B)(gV:B.told.length+16<=1000000) j b vb(hb:sl b vb w)(bT:b.length<=1000000000) :
 Calls prog 57 #[.pointer (some ⟨p.g,0,none⟩),.int .i64 j,vb] w λe w'=>e=.returned (.int .i64 (iC B j b).2)/\dK M p (iC B j b).1 w w':=by
 have HE:=ae (asP B j b)
 have hlo:=h.low
 have Y6:=λk hk=>h.low k (h.sub k hk)
 have HV:=ae λW (k:K w W)=>h.st k
 have CK:=ae (Uv h E)
 have J:=ae λW (k:K w W)=>O7 (h.st k)
 have CD:=ae λW (k:K w W)=>ao3 b vb W (oh _ _ _ _ hb k) bT
 have pY:(oo B).length<=16:=bn (IC _ _) (sA E.tr).2
 have q:=h.q
 have CM:=E.me
 have hpl:=(sA E.tr).2
 simp only[fA,dC,decide_eq_true_eq]at CM
 obtain⟨mn,kK⟩:=Int.eq_ofNat_of_zero_le CM.1
 have Ob:mn<B.par.length:=af
 have Oc:=ae (awp kK Ob)
 have EC:=h.bK.now.par
 have A:Hid (LR B j=(!mT B&&decide (j=tJ B))):=ae rfl
 have HIK:Hid (LQ B j=decide (j∈oo B)):=ae rfl
 have HG:=ae E
 have HF:=ae hF
 obtain⟨A0,c0,rfl,-⟩:=hb
 obtain⟨g,hg⟩:∃g,Hid (g=p.g):=⟨_,ae rfl⟩
 rw[<- hg.aa]at CK J q⊢
 obtain⟨pv,hpv⟩:∃pv,Hid (pv=p.vp):=⟨_,ae rfl⟩
 simp only[G4]at q
 rw[<- hpv.aa,kK]at q
 rw[<- hpv.aa]at EC
 obtain⟨Ap,cp,rfl,ME,-⟩:=EC
 obtain⟨bp,op,rfl,hcell⟩:=ints_at ME af
 have qp:=λW (k:K w W)=>hcell W k mn Ob
 have vL:(mn:Int)<B.par.length:=af
 have wT:=ae hlo
 have HLX:=ae Y6
 have kk:=K.rf w
 clear h E hF ME hcell CM kK hlo Y6
 generalize LQ B j=t at *
 generalize LR B j=par at *
 generalize oo B=ks at *
 go_enter func57,ntmps57
 go_wp2_with fail
 refine CK.aa.mono ?_
 rintro e w1⟨v1,rfl,dU,k1⟩
 have C2:=ae (abG ks j v1 w1 dU.aq af)
 obtain⟨A1,c1,rfl⟩:=dU.slice
 clear CK dU
 go_wp2_with fail
 refine C2.aa.mono ?_
 rintro e Y⟨rfl,k2⟩
 have lO:=k1.tr k2
 rw[<- HIK.aa]
 clear C2 HIK
 go_upto_region 4 with (fail)
 have q2:=λW (k:K Y W)=>q W (lO.tr k)
 have Ij:=λW (k:K Y W)=>qp W (lO.tr k)
 have hb2:=Oc.aa.symm
 rw[hb2]at Ij
 generalize tJ B=pb at *
 clear q qp hb2
 go_cut [8]from 17 to 33 (fun v W=>v=.bool par/\K Y W)
 case first =>
  have C3:=ae λW (k:K Y W)=>J.aa W (lO.tr k)
  cases hr:mT B
  ·rw[hr]at C3 A;have HP:Hid (par=decide (j=pb)):=ae (by rw[A.aa];rfl);clear hr A J;have lr:(j==pb)=decide (j=pb):=cV;have qs:=And.intro q2 (And.intro Ij vL);refine dV 17 ?_;refine au.i ?_;refine au.is (.bool false) (λV W kW hp=>?_) ?_
   ·(try simp only[cF,aO,aR,bW,bY,aJ]at hp)
    exact aiI
   iterate 15 refine au.i ?_
   clear qs;intro V W kW hA;simp only[aO,aR,cC,aJ,Nat.reduceAdd]at hA;obtain⟨R,T,I,F,G,C,f6,f7,f8,f9,f10,f11,f12,f13,f14,f15,O,-⟩:=hA;refine aH.pure (.bool par) rfl (by simp[aF,List.lookup,O,HP.aa,lr,execOp,aG,go_sem]) ?_;refine aH.e ?_;clear R T I F G C f6 f7 f8 f9 f10 f11 f12 f13 f14 f15 O q2 Ij C3 lr;go_wp2_with fail
   go_meet
   case rel=>exact⟨rfl,kW⟩
  ·rw[hr]at C3 A;have HP:Hid (par=false):=ae (by rw[A.aa];rfl);clear hr A J;have qs:=And.intro q2 (And.intro Ij vL);refine dV 17 ?_;refine au.i ?_;refine au.is (.bool true) (λV W kW hp=>?_) ?_
   ·(try simp only[cF,aO,aR,bW,bY,aJ]at hp)
    exact aiI
   iterate 15 refine au.i ?_
   clear qs;intro V W kW hA;simp only[aO,aR,cC,aJ,Nat.reduceAdd]at hA;obtain⟨R,T,I,F,G,C,f6,f7,f8,f9,f10,f11,f12,f13,f14,f15,O,-⟩:=hA;refine aH.pure (.bool par) rfl (by simp[aF,List.lookup,O,HP.aa,execOp,aG,go_sem]) ?_;refine aH.e ?_;clear R T I F G C f6 f7 f8 f9 f10 f11 f12 f13 f14 f15 O q2 Ij C3;go_wp2_with fail
   go_meet
   case rel=>exact⟨rfl,kW⟩
 case rest =>
  obtain⟨rfl,k3⟩:=hcut;have U:=lO.tr k3;clear q2 Ij A Oc J;go_upto_region 5 with (fail);go_cut [39]from 34 to 38 (fun v W=>v=.bool (!(t||par))/\wc=W)
  case first =>
   cases t <;> cases par
   all_goals
    go_wp2_with fail
    go_meet
    case rel=>exact⟨rfl,rfl⟩
  case rest =>
   obtain⟨rfl,rfl⟩:=hcut;cases GJ:t||par
   ·have HR:Hid (iC B j b=(B,201)):=ae aiJ;have HN:=ae ((HV.aa w kk).n U);clear HE GJ CD;exact aiK
   have HR:Hid (iC B j b=if xD b=0 then LJ B j t par (pM b)else (B,xD b)):=ae aiJ;clear HE GJ;have CD4:=ae (CD.aa wc U);clear CD;go_wp2_with fail
   refine CD4.aa.mono ?_;rintro e w4⟨vm,rfl,hm,k4⟩;have rm:=U.tr k4;obtain⟨m1,m2,m3,m4,m5,m6,rfl,kH,hm2,sN,wP,EP,zj⟩:=hm w4 (ag.rf _ _);obtain⟨A1',c1',rfl⟩:=av kH;obtain⟨NI,NJ,rfl⟩:=av hm2;obtain⟨A3',c3',rfl⟩:=av sN;obtain⟨A4',c4',rfl⟩:=av wP;obtain⟨A5',c5',rfl⟩:=av EP;obtain⟨A6',c6',rfl⟩:=av zj;have hsz:=U.size;have HM:=ae (show Fx M (λW=>mj (pM b) (.agg (lA (pM b) (.slice A1' (pM b).cU.length c1') (.slice NI (pM b).asks.length NJ) (.slice A3' (pM b).entries.length c3') (.slice A4' (pM b).fe.length c4') (.slice A5' (pM b).dQ.length c5') (.slice A6' (pM b).ends.length c6'))) W) w4 from λW u=>hm W (u.more λk hk=>bz (wT.aa k hk) hsz));have j0:Hid (xD b=0->ed (pM b)=true/\pR (pM b)):=ae λh=>by
    cases D:tI b with
    | none=>rw[(show xD b=130 by simp[xD,D])]at h;cases h
    | some m => rw[show pM b=m by simp[pM,D]];exact⟨(Pr D).2,PE D⟩
   generalize pM b=m at *;generalize xD b=ec at *;have S:=ai.new w4 156 (lA m (.slice A1' m.cU.length c1') (.slice NI m.asks.length NJ) (.slice A3' m.entries.length c3') (.slice A4' m.fe.length c4') (.slice A5' m.dQ.length c5') (.slice A6' m.ends.length c6'));have k5:=S.aU;clear hm kH hm2 sN wP EP zj CD4;go_upto_region 8 with (fail);generalize World.alloc w4 _=y at *;generalize s6:w4.heap.size=gx at S⊢;have Q:=rm.tr k5;have HM5:=ae (HM.aa.k k5);clear s6;by_cases Z:ec=0;rotate_left
   ·have iQ:Hid (iC B j b=(B,ec)):=ae (by rw[HR.aa,if_neg Z]);have hne:(ec != 0)=true:=by simpa using Z
    have HN:=ae ((HV.aa w kk).n Q);clear HR Z j0;go_wp2;go_ret;exact⟨by rw[iQ.aa];rfl,by rw[iQ.aa];exact HN.aa⟩
   subst Z;obtain⟨hok,hfit⟩:=j0.aa rfl;have iQ:Hid (iC B j b=LJ B j t par m):=ae (by rw[HR.aa,if_pos rfl]);have SS:Hid (LJ B j t par m=if t&&decide (m.kind=1)then (gB { B with bO:=oT B.bO j m },0)else if par&&decide (m.kind=2)then (rK B m,0)else (B,201)):=ae rfl;have Y8:=ae hok;have y4:=ae hfit;clear HR j0 hok hfit;have qx:=S.cell;go_upto_region 11 with (fail);go_cut [48]from 49 to 54 (fun v W=>v=.bool (t&&decide (m.kind=1))/\y=W)
   case first =>
    cases t
    ·go_wp2_with fail
     go_meet
     case rel=>exact⟨rfl,rfl⟩
    ·have D:Hid ((m.kind==1)=decide (m.kind=1)):=ae Xq;go_wp2_with fail
     go_meet
     case rel=>exact⟨cV,rfl⟩
   case rest =>
    obtain⟨rfl,rfl⟩:=hcut;have HX:=ae S;have H5:=ae λW (k:K y W)=>HV.aa W (Q.tr k)
    cases hc1:t&&decide (m.kind=1)
    ·have HQ:Hid (iC B j b=if par&&decide (m.kind=2)then (rK B m,0)else (B,201)):=ae aiL;clear iQ SS hc1;go_upto_region 14 with (fail);go_cut [63]from 64 to 69 (fun v W=>v=.bool (par&&decide (m.kind=2))/\y=W)
     case first =>
      cases par
      ·go_wp2_with fail
       go_meet
       case rel=>exact⟨rfl,rfl⟩
      ·have D:Hid ((m.kind==2)=decide (m.kind=2)):=ae Xq;go_wp2_with fail
       go_meet
       case rel=>exact⟨cV,rfl⟩
     case rest =>
      obtain⟨rfl,rfl⟩:=hcut;cases ik:par&&decide (m.kind=2)
      ·have Bh:Hid (iC B j b=(B,201)):=ae aiM;have HN:=ae ((HV.aa w kk).n Q);clear HQ ik;exact aiN
      ·have Bh:Hid (iC B j b=(rK B m,0)):=ae aiM;have hA:=(QE Y8.aa y4.aa).2.2.2.2.2.1;have L:∀W,ag M y W->aq oG m.cU (.slice A1' m.cU.length c1') W/\aq aV m.asks (.slice NI m.asks.length NJ) W/\aq aV m.entries (.slice A3' m.entries.length c3') W/\aq aV m.fe (.slice A4' m.fe.length c4') W/\aq cd m.dQ (.slice A5' m.dQ.length c5') W/\aq cd m.ends (.slice A6' m.ends.length c6') W:=λW u=>by obtain⟨_,_,_,_,_,_,e,h⟩:=HM5.aa W u;cases e;exact h
       have L0:=L y (ag.rf _ _);have H:=aq3 (H5.aa y (K.rf _)) HG.aa m _ _ _ _ _ _ L0.1 L0.2.1 (λW u=>(L W u).2.2.1) (λW u=>(L W u).2.2.2.1) (λW u=>(L W u).2.2.2.2.1) (λW u=>(L W u).2.2.2.2.2) Y8.aa y4.aa af;rw[<- hg.aa]at H;have H:=ae H;clear HQ ik L L0;go_wp2_with fail
       refine H.aa.mono ?_;rintro e w6⟨rfl,N⟩;have HN:=ae (N.zD Q HLX.aa);clear H N qx;exact aiN
    ·have HQ:Hid (iC B j b=(gB { B with bO:=oT B.bO j m },0)):=ae aiL;clear iQ SS hc1;have jK:=hg.aa;subst jK;have q5:=λW (k:K y W)=>(H5.aa W k).q W (K.rf _)
     simp only[G4]at q5;have qx5:=S.cells;clear qx;go_wp2_with fail
     have qs:=And.intro q5 qx5;refine dV 6 ?_;iterate 6 refine au.i ?_
     clear qs;intro V W kW hA;simp only[aO,aR,cC,aJ,Nat.reduceAdd]at hA;obtain⟨R,T,I,F,G,C,-⟩:=hA;obtain⟨w7,jY,Nf,hu7⟩:=asO (H5.aa W kW) j HF.aa.nk (HM5.aa.k kW);refine aH.skip w7 rfl (by simp[aF,List.lookup,F,G,C,execOp,aG,jY,go_sem]) ?_;refine aH.e ?_;have Fj:=Q.tr kW;have X:=acG Nf (Pw (k:=j) HG.aa Y8.aa y4.aa);have U7:=ae ((ag.aT Fj (bw p)).tr (hu7.more λk e=>.inr (.inl e)));have X:=ae X;clear jY Nf hu7 q5 qx5 R T I F G C;go_wp2_with fail
     refine X.aa.mono ?_;rintro e w8⟨rfl,N⟩;have HN:=ae (dK.tr (p:=p) (M:=M) U7.aa rfl (λk hk=>.inl hk) (λk hk=>hk) N);clear X N;go_wp2;go_ret;exact⟨nW,by rw[HQ.aa];exact HN.aa⟩
theorem asQ c x r s n:nG c (x :: r) s n=if oQ s c x=[]then nG c r (lF s x) (n+1)else (oQ s c x,n+1):=rfl
theorem arh{M p B w}(h:bB M p B w)(A:bE B) c j :
 Calls prog 50 #[.pointer (some ⟨p.g,0,none⟩),.int .i64 c,.int .i64 j] w λe w'=>∃v',e=.returned (.tuple #[v',.int .i64 (ot B c j).2.1,.int .i64 (ot B c j).2.2])/\aX w.heap.size w.heap.size 51 cO (ot B c j).1 v' w'/\K w w':=by
 have iO:=A.Eb
 have gU:=A.dk.len
 have q:=h.q
 have rV:=h.bK.now.list
 have HP:Hid (ot B c j=if vX B c then (if 0<=j/\j<=(B.st.list.length:Int)then ((nG c (B.st.list.drop j.toNat) (kV (B.st.list.take j.toNat)) j.toNat).1,((nG c (B.st.list.drop j.toNat) (kV (B.st.list.take j.toNat)) j.toNat).2:Int),0)else ([],0,1))else ([],0,200)):=ae rfl
 have y:=ae (acu h A c)
 have Q:=ae λW (k:K w W) n hn=>acC (h.st k) A n hn
 obtain⟨g,gl,gd,gr,gt,vd,vr,vp,vh,vl,vq,va,vt,vf,vw,kr⟩:=p
 simp only at q rV y Q
 obtain⟨Al,cl,rfl,hl,hcl⟩:=rV
 have xe:B.st.list.length<=300000:=af
 have s7:=ae iO.1
 generalize ot B c j=R at *
 generalize Nn:vX B c=HB at *
 have kk:=K.rf w
 clear h A iO gU Nn
 go_enter func50,ntmps50
 go_wp2_with fail
 apply aM y.aa
 intro w1 k1
 clear y
 cases HB
 ·have HF:Hid (R=([],0,200)):=ae Xl;clear HP;exact XH
 have q1:=q w1 k1
 by_cases C:0<=j/\j<=(B.st.list.length:Int)
 rotate_left
 ·have HF:Hid (R=([],0,1)):=ae (by rw[HP.aa,if_pos rfl,if_neg C]);have L:j<0∨(¬j<0/\(B.st.list.length:Int)<j):=af;clear HP C;rcases L with L|⟨L,ik⟩
  ·exact XH
  ·exact XH
 obtain⟨n,rfl⟩:=Int.eq_ofNat_of_zero_le C.1
 have hn:n<=B.st.list.length:=af
 have HF:Hid (R=((nG c (B.st.list.drop n) (kV (B.st.list.take n)) n).1,((nG c (B.st.list.drop n) (kV (B.st.list.take n)) n).2:Int),0)):=ae (by rw[HP.aa,if_pos rfl,if_pos C];rfl)
 have hL0:=U2 (B.st.list.take n)
 have Hs:=ahE (l:=B.st.list.take n) λx E=>s7.aa x (om E)
 have aFe:(B.st.list.take n).length=n:=ba
 have hh1:¬((n:Int)<0):=af
 have hh2:¬((B.st.list.length:Int)<n):=af
 have u:=ae (Q.aa w1 k1 n hn)
 clear HP C
 go_upto_region 8 with (fail)
 go_wp2_with fail
 apply bS u.aa
 rintro v2 w2⟨cH,k2⟩
 have akU:aB (λk=>k<w.heap.size) w.heap.size 246 iI (kV (B.st.list.take n)) v2 w2:=(cH.less λk hk=>by have:=k1.size;omega).low k1.size
 generalize kV (B.st.list.take n)=O at *
 have bD:=k1.tr k2
 clear u Q q1 cH
 go_wp2_with fail
 have GW:Hid (∃s m,n<=m/\m<=B.st.list.length/\O=s/\m=n/\True):=ae ⟨O,n,aD _,hn,rfl,rfl,trivial⟩
 have hG0:=HF
 clear GW HF
 go_loopw [10,11,12,13] (fun o i _ _ W=>∃(m:Nat) (s:List mc),m<=B.st.list.length/\i=.int .i64 m/\s.length<=m/\Cm s/\aB (fun k=>k<w.heap.size) w.heap.size 246 iI s o W/\K w W/\Hid (R=((nG c (B.st.list.drop m) s m).1,((nG c (B.st.list.drop m) s m).2:Int),0))) (fun _ i _ _ _=>B.st.list.length-(intOf i).toNat)
 case atStart=>exact⟨n,O,hn,rfl,af,Hs,akU,bD,hG0⟩
 case round =>
  clear akU bD hG0 Hs hL0;obtain⟨m,s,hm,rfl,nc,G,T,kr,I⟩:=hrel;by_cases Y:m<B.st.list.length
  ·have aP:(m:Int)<B.st.list.length:=af;obtain⟨b1,off,cs,rfl,eS,hrl,d0,d⟩:=eB hl m Y ax;have U:=s7.aa _ (bZ Y);have H:Hid (R=((if oQ s c B.st.list[m]=[]then nG c (B.st.list.drop (m+1)) (lF s B.st.list[m]) (m+1)else (oQ s c B.st.list[m],m+1)).1,((if oQ s c B.st.list[m]=[]then nG c (B.st.list.drop (m+1)) (lF s B.st.list[m]) (m+1)else (oQ s c B.st.list[m],m+1)).2:Int),0)):=ae (by
    rw[I.aa,List.drop_eq_getElem_cons Y,asQ])
   generalize B.st.list[m]=x at *;obtain⟨vf,F,rfl,Z,S⟩:=hrl w (K.rf w);have HE:Hid (∀W,K w W->dm x (.agg (aE x vf F)) W):=ae λW k=>⟨_,_,rfl,eO _ _ _ _ Z k,bo S k⟩
   have q9:∀i,i<8->wr.cell? ⟨b1,off+m*8+i,none⟩=(aE x vf F)[i]?:=λi hi=>(d wr kr i hi).trans Array.getElem?_toList
   have q0:wr.cell? ⟨b1,off+m*8,none⟩=some (.int .i64 x.kind):=d0 wr kr;have E:=ai.new wr 126 (aE x vf F);have k1':K wr (wr.alloc (.cells (aE x vf F) 126)):=(K.rf wr).al _;have qg:=q wr kr;obtain⟨Af,cf,rfl⟩:=cA Z;obtain⟨Ae,ce,rfl⟩:=av S;clear d d0 Z S hrl eS I;go_upto_region 13 with (fail);generalize wr.alloc _=Zj at *;have J:=T.st k1';have N:=kr.tr k1';clear q9 q0 T qg;have q8:=E.cell;have y:=ae (aqR s c x _ _ Zj J.aq (HE.aa Zj N) af G U);obtain⟨Ao,co,rfl⟩:=J.slice;go_wp2_with fail
   apply rM y.aa N;intro v4 w4 X k4 D;have hz1:=N.size;have Dh:=ae (aX.low (aX.floor X hz1) hz1);have V:=J.st k4;have b5:=(E.ay k4).cell;obtain⟨A4,c4,rfl⟩:=av X.tO.aq;clear y X J q8 E;by_cases t:oQ s c x=[];rotate_left
   ·have hpos:=List.length_pos_iff.2 t;have HF:Hid (R=(oQ s c x,((m+1:Nat):Int),0)):=ae (by rw[H.aa,if_neg t]);have hgt:(0:Int)<((oQ s c x).length:Int):=af;have hw:IntKind.i64.wrap ((m:Int)+1)=(m:Int)+1:=IntWalk.i64_in _ af;clear t H;generalize oQ s c x=bt at *;go_wp2;go_ret3;exact⟨_,D3,by rw[HF.aa];exact Dh.aa,D⟩
   have HF:Hid (R=((nG c (B.st.list.drop (m+1)) (lF s x) (m+1)).1,((nG c (B.st.list.drop (m+1)) (lF s x) (m+1)).2:Int),0)):=ae (by rw[H.aa,if_pos t]);rw[t];clear H Dh t;by_cases hk:x.kind=1
   ·have HF2:Hid (R=((nG c (B.st.list.drop (m+1)) s (m+1)).1,((nG c (B.st.list.drop (m+1)) s (m+1)).2:Int),0)):=ae (by rw[HF.aa,show lF s x=s from if_pos hk]);have hk2:(x.kind != 1)=false:=D2;clear hk HF;go_wp2;go_roundw
    case rel=>exact⟨m+1,s,af,bI,af,G,V,D,HF2⟩
    case measure=>simp[intOf];omega
   have hk2:(x.kind != 1)=true:=tk;have hs1:lF s x=uv s x:=if_neg hk;have jX:=adS s x;have qV:=ahD (x:=x) G U.1;have u:=ae (acA s x _ _ w4 V.aq (HE.aa w4 D) af G U.1);rw[<- hs1]at u;clear hk hs1 V;go_wp2_with fail
   apply rM u.aa D;intro v5 w5 lB k5 lM;have gM:=D.size;have j9:aB (λk=>k<w.heap.size) w.heap.size 246 iI (lF s x) v5 w5:=(lB.less λk hk=>af).low gM;clear u lB b5;go_wp2;go_roundw
   case rel=>exact⟨m+1,lF s x,af,bI,af,qV,j9,lM,HF⟩
   case measure=>simp[intOf];omega
  ·have aP:¬(m:Int)<B.st.list.length:=af;obtain rfl:m=B.st.list.length:=af;have HF:Hid (R=([],(B.st.list.length:Int),0)):=ae (by rw[I.aa,List.drop_length];rfl);clear I T;go_wp2;go_ret3;exact⟨_,D3,WY,kr⟩
def dE(X Z:Nat->Prop)(g gd:Nat)(B:aZ)(W:World):Prop:=gj B/\∃p,bB (λk=>X k∨bw p k) p B W/\p.key=(g,gd)/\∀k,Z k->¬bw p k/\k<W.heap.size
section
variable {X X' Z Z':Nat->Prop} {g gd:Nat} {B B':aZ} {W W':World}
theorem dE.more(h:dE X Z g gd B W)(k:K W W')(y:∀k,X' k->X k∨(W.heap.size<=k/\k<W'.heap.size))(A:∀k,Z' k->Z k∨(W.heap.size<=k/\k<W'.heap.size)):dE X' Z' g gd B W':=by
 obtain⟨C,p,hb,hg,hz⟩:=h;refine⟨C,p,hb.far (X:=λ_=>False) (ag.aT k _) (λ_ h=>h.elim) (λ_ h=>h.elim) (λj t u=>u.elim (λh=>.inl ((y j h).resolve_right af)) .inr) (λ_ h=>.inr h) (λj t=>?_),hg,λj t=>?_⟩
 ·rcases t with h|h
  ·rcases y j h with h|h
   ·exact bz (hb.low j (.inl h)) k.size
   ·exact h.2
  ·exact bz (hb.low j (.inr h)) k.size
 ·rcases A j t with h|h
  ·exact⟨(hz j h).1,bz (hz j h).2 k.size⟩
  ·exact⟨λu=>by have:=hb.low j (hb.sub j u);omega,h.2⟩
theorem dE.st(h:dE X Z g gd B W)(k:K W W'):dE X Z g gd B W':=h.more k (λ_ h=>.inl h) λ_ h=>.inl h
theorem dE.less(h:dE X Z g gd B W)(t:∀k,X' k->X k)(j:∀k,Z' k->Z k):dE X' Z' g gd B W:=h.more (K.rf W) (λk hk=>.inl (t k hk)) λk hk=>.inl (j k hk)
theorem dE.n{p}(j:∀k,Z k->¬bw p k/\k<W.heap.size)(hg:p.key=(g,gd))(y:gj B')(h:dK (λk=>X k∨bw p k) p B' W W'):dE X Z g gd B' W'/\ag (λk=>¬Z k) W W':=by
 obtain⟨p',A,t,u,C⟩:=h
 refine⟨⟨y,p',A.less (λ_ h=>.inr h) (λ_ h=>h.elim (λh=>.inl (.inl h)) .inr),u.trans hg,λk hk=>⟨λB=>?_,bz (j k hk).2 t.size⟩⟩,t.more λk hk hz=>(j k hz).1 hk⟩
 grind
theorem dE.call{f args r}(h:dE X Z g gd B W)(t:∀p,bB (λk=>X k∨bw p k) p B W->p.key=(g,gd)->Calls prog f args W λe w'=>e=.returned r/\dK (λk=>X k∨bw p k) p B' W w')(j:gj B') :
 Calls prog f args W λe w'=>e=.returned r/\dE X Z g gd B' w'/\ag (λk=>¬Z k) W w':=by
 obtain⟨-,p,hb,hg,hz⟩:=h
 exact (t p hb hg).mono λe w' h=>⟨h.1,dE.n hz hg j h.2⟩
theorem ayL(h:dE X Z g gd B W) c(j:cD c)(hn:B.calls+1<4611686018427387904) :
 Calls prog 49 #[.pointer (some ⟨g,0,none⟩),.int .i64 c] W λe w'=>e=.returned (.tuple #[cN (tz B c).2.1,.int .i64 (tz B c).2.2])/\dE X Z g gd (tz B c).1 w'/\ag (λk=>¬Z k) W w' :=
 h.call (λp hb e=>kg e▸apR hb h.1.tobE c j) (h.1.begin hn j)
theorem aAM(h:dE X Z g gd B W) c(j:cD c)(hn:B.calls+1<4611686018427387904)(n:Nat)(u:n<18446744073709551616) f vf(A:fF f vf W)(hfit:∀t∈f,jB t)(y:f.length<=1000000) :
 Calls prog 77 #[.pointer (some ⟨g,0,none⟩),.int .i64 c,.int .u64 n,vf] W λe w'=>e=.returned (.tuple #[cN (yX B c n f).2.1,.int .i64 (yX B c n f).2.2])/\dE X Z g gd (yX B c n f).1 w'/\ag (λk=>¬Z k) W w' :=
 h.call (λp hb e=>kg e▸ar6 hb h.1.tobE c j n u f vf A hfit y) (h.1.ask hn qA j u hfit)
theorem awq(h:dE X Z g gd B W) a(y:dW a) j u(C:ji j u W)(A:j.length<=1000000)(t:∀x∈j,nJ x) :
 Calls prog 84 #[.pointer (some ⟨g,0,none⟩),cN a,u] W λe w'=>e=.returned (.int .i64 (fK B (jm B.aC a j)).2)/\dE X Z g gd (fK B (jm B.aC a j)).1 w'/\ag (λk=>¬Z k) W w' :=
 h.call (λp hb e=>kg e▸aoU hb h.1.tobE a j u C A t) (h.1.I3 t y)
theorem axQ(h:dE X Z g gd B W) a(j:dW a) :
 Calls prog 55 #[.pointer (some ⟨g,0,none⟩),cN a] W λe w'=>e=.returned (.int .i64 (fK B (jx B.aC a)).2)/\dE X Z g gd (fK B (jx B.aC a)).1 w'/\ag (λk=>¬Z k) W w' :=
 h.call (λp hb e=>kg e▸apj hb h.1.tobE a) (h.1.Ga j)
theorem axR(h:dE X Z g gd B W) a :
 Calls prog 53 #[.pointer (some ⟨g,0,none⟩),cN a] W λe w'=>e=.returned (.int .i64 (FZ B a))/\K W w':=by
 obtain⟨j,p,hb,hg,-⟩:=h
 obtain rfl:=kg hg
 exact apq hb j.tobE a
theorem azu(h:dE X Z g gd B W) c j :
 Calls prog 50 #[.pointer (some ⟨g,0,none⟩),.int .i64 c,.int .i64 j] W λe w'=>∃v',e=.returned (.tuple #[v',.int .i64 (ot B c j).2.1,.int .i64 (ot B c j).2.2])/\aX W.heap.size W.heap.size 51 cO (ot B c j).1 v' w'/\K W w':=by
 obtain⟨t,p,hb,hg,-⟩:=h
 obtain rfl:=kg hg
 exact arh hb t.tobE c j
theorem ayM(h:dE X Z g gd B W) :
 Calls prog 58 #[.pointer (some ⟨g,0,none⟩)] W λe w'=>∃vl vp va,e=.returned (.agg (cP B.st vl vp va))/\mh (λk=>k<W.heap.size) B.st vl vp va w'/\K W w':=by
 obtain⟨j,p,hb,hg,-⟩:=h
 obtain rfl:=kg hg
 exact apU hb j.tobE
theorem dE.new{gd vh e q}(h:YI gd vh B W e W' q)(u:gj B)(y:∀k,X k->k<W.heap.size)(j:∀k,Z k->¬lP gd vh k/\k<W.heap.size):dE X Z q.g gd B W'/\ag (λk=>¬Z k) W W':=by refine⟨⟨u,q,h.br.less (λ_ h=>.inr h) (λk h=>h.imp (y k) id),(by unfold nU.key;rw[h.dd]),λk hk=>⟨λt=>?_,bz (j k hk).2 h.up.size⟩⟩,h.up.more λk hk hz=>(j k hz).1 hk⟩;rcases h.new k t with h|h;all_goals grind
end
theorem bE.open_{me p ah d s}(u:fk p=true)(hm:fA p me=true)(j:jt p ah=true)(t:gS d s):gj (oV me p ah d s) :=
 ⟨⟨u,hm,j,t,jI.nil,tu,tu,tu,tu,tu,tu⟩,iB.nil⟩
section
variable {X Z:Nat->Prop} {g gd:Nat} {B:aZ} {W:World}
theorem axS(h:dE X Z g gd B W)(u:lH B)(y:B.told.length+16<=1000000) j b t(hb:sl b t W)(A:b.length<=1000000000) :
 Calls prog 57 #[.pointer (some ⟨g,0,none⟩),.int .i64 j,t] W λe w'=>e=.returned (.int .i64 (iC B j b).2)/\dE X Z g gd (iC B j b).1 w'/\ag (λk=>¬Z k) W w' :=
 h.call (λp C e=>kg e▸apx C h.1.tobE u y j b t hb A) (UM u h.1 j b y).1
end
theorem ari{B}(u:bE B)(t:lH B):∀x∈sF B,x.2.length<=1000000000:=by
 have key:∀(k:Int) (m:fH),pR m->∀x∈tE k m,x.2.length<=1000000000:=λk m hm x j=>by
  grind [tE,awh,kZ]
 intro x j
 grind [sF,qK,sE,acK,acb]
def zT(m:Int)(p ah:List Int)(B:aZ):Prop:=B.me=m/\B.par=p/\B.ah=ah
section
variable {m:Int} {p ah:List Int} {B:aZ}
theorem zT.note B r(h:zT m p ah B):zT m p ah (dz B r).1:=by
 unfold dz;split
 ·split <;> exact h
 ·exact h
theorem zT.handle(h:zT m p ah B)(u:bE B) t b:zT m p ah (iC B t b).1:=by
 unfold iC;split
 ·split
  ·exact h
  ·next x hx =>
   split
   ·have j:=KU (Pw (k:=t) u (Pr hx).2 (PE hx));exact⟨j.me.trans h.1,j.par.trans h.2.1,j.ah.trans h.2.2⟩
   ·split
    ·exact aea zT.note (λ_ _ h=>h) (λ_ _ h=>h) h x
    ·exact h
 ·exact h
end
structure MG(par ah:List Int)(n:Nat)(x:Kn)(k:Nat):Prop where
 down:x.up=none->∃s,gS x.dk s/\s.life<=k+1/\(∀a∈s.ab,bV s.list a=false)/\s.prom.length<=6
 up:∀B,x.up=some B->x.dk=B.dk/\gj B/\lf B k/\B.st.life<=k+1/\zT n par ah B
structure bQ(par ah:List Int)(O:bF)(k:Nat):Prop where
 gH:pU O
 lh:O.par=par
 pc:O.ah=ah
 eX:∀(n:Nat) x,O.eX[n]?=some x->MG par ah n x k
 key:O.cz.map (·.1)=(Cg par).map (·.1)
 few:∀q∈O.cz,q.2.length<=8
 gl:∀l∈O.got,l.length<=k
structure AH(B B':aZ)(k:Nat):Prop where
 aAN:gj B'
 run:lf B' k
 life:B'.st.life=B.st.life
 me:∀ {m p ah},zT m p ah B->zT m p ah B'
theorem lf.mono{B n k}(h:lf B n)(hk:n<=k):lf B k:=⟨h.inv,h.fit,by have:=h.told;omega,by have:=h.calls;omega⟩
theorem Ec{O m B}(h:cL O m=some B):∃n:Nat,m=(n:Int)/\n<O.par.length/\∃x,O.eX[n]?=some x/\x.up=some B:=by
 grind [cL,gX,fA]
theorem Gb{d s}(h:gS d s):Ie d=s:=by unfold Ie;rw[h.run];rfl
theorem awr B c j:(jq B c j).1.st=B.st/\(jq B c j).1.me=B.me/\(jq B c j).1.par=B.par/\(jq B c j).1.ah=B.ah:=by
 grind [jq]
theorem aws B r:(fK B r).1.st=B.st/\(fK B r).1.me=B.me/\(fK B r).1.par=B.par/\(fK B r).1.ah=B.ah:=by
 grind [fK]
section
variable {B B':aZ} {k j:Nat} {par ah:List Int} {O:bF} {n:Nat} {x:Kn} {m:Int}
theorem AH.call{c j}(C:gj (jq B c j).1)(u:lf B k):AH B (jq B c j).1 (k+1):=by obtain⟨D,y,t,A⟩:=awr B c j;exact⟨C,u.call c j,by rw[D],λh=>⟨y.trans h.1,t.trans h.2.1,A.trans h.2.2⟩⟩
theorem AH.keep{r}(A:gj (fK B r).1)(t:lf B k):AH B (fK B r).1 (k+1):=by obtain⟨C,u,j,y⟩:=aws B r;exact⟨A,t.keep r,by rw[C],λh=>⟨u.trans h.1,j.trans h.2.1,y.trans h.2.2⟩⟩
theorem AH.work(t:gj B)(u:lf B k):AH B (gB B) (k+1):=by have j:=KU t.tobE;exact⟨t.work,u.work t.tobE,j.life,λh=>⟨j.me.trans h.1,j.par.trans h.2.1,j.ah.trans h.2.2⟩⟩
theorem AH.handle(u:gj B)(t:lf B k) j b(hk:k<=50000):AH B (iC B j b).1 (k+1) :=
 ⟨(UM t.fit u j b (by have:=t.told;omega)).1,t.handle u j b hk,(adn t.inv j b).1.life,λh=>h.handle u.tobE j b⟩
theorem MG.mono(h:MG par ah n x k)(hk:k<=j):MG par ah n x j :=
 ⟨λe=>(h.down e).imp λs h=>⟨h.1,by have:=h.2.1;omega,h.2.2⟩,λB e=>by obtain⟨A,u,t,C,y⟩:=h.up B e;exact⟨A,u,t.mono hk,by omega,y⟩⟩
theorem bQ.mono(h:bQ par ah O k)(hk:k<=j):bQ par ah O j:=⟨h.gH,h.lh,h.pc,λn x e=>(h.eX n x e).mono hk,h.key,h.few,λl t=>bn (h.gl l t) hk⟩
theorem bQ.up(h:bQ par ah O k)(t:cL O m=some B):gj B/\lf B k/\B.st.life<=k+1/\zT m par ah B:=by obtain⟨n,rfl,-,x,u,j⟩:=Ec t;exact ((h.eX n x u).up B j).2
theorem bQ.set(h:bQ par ah O k) n(hk:k<=j)(u:MG par ah n x j):bQ par ah (jU O n x) j:=by
 refine⟨⟨h.gH.tr,h.gH.hm,?_,h.gH.lc,h.gH.lg⟩,h.lh,h.pc,λi y e=>?_,h.key,h.few,λl t=>bn (h.gl l t) hk⟩
 ·show (O.eX.set _ x).length=_;rw[List.length_set];exact h.gH.ln
 ·unfold jU at e;simp only[Int.toNat_natCast,List.getElem?_set]at e;split at e
  ·grind
  ·exact (h.eX i y e).mono hk
theorem bQ.put(h:bQ par ah O k)(y:cL O m=some B)(hk:k<=j)(t:AH B B' j):bQ par ah (iw O m B') j:=by
 obtain⟨n,rfl,-,x,D,A⟩:=Ec y;have u:=(h.eX n x D).up B A;exact h.set n hk ⟨λe=>by simp at e,λC e=>by
  simp at e;subst e;exact⟨rfl,t.aAN,t.run,by have:=t.life;omega,t.me u.2.2.2.2⟩⟩
theorem bQ.call{α}(h:bQ par ah O k) c z(f:aZ->aZ×α×Int)(t:∀B,gj B->lf B k->AH B (f B).1 (k+1)):bQ par ah (rL O c z f).1 (k+1):=by
 unfold rL;split
 ·split
  ·exact h.mono (Nat.le_succ k)
  ·next B hu =>
   have j:=h.up hu;exact h.put hu (Nat.le_succ k) (t B j.1 j.2.1)
 ·exact h.mono (Nat.le_succ k)
theorem bQ.begin(h:bQ par ah O k)(hk:k<=50000){c}(t:cD c):bQ par ah (jz O c).1 (k+1) :=
 h.call c _ _ λB j hr=>.call (j.begin aiO t) hr
theorem bQ.sub(h:bQ par ah O k)(hk:k<=50000){c}(y:cD c){s}(A:s<18446744073709551616){f}(u:∀t∈f,jB t):bQ par ah (y8 O c s f).1 (k+1) :=
 h.call c _ _ λB j hr=>.call (j.ask aiO qA y A u) hr
theorem bQ.keep(h:bQ par ah O k) c a f(t:∀B,gj B->gj (fK B (f B.aC)).1):bQ par ah (ou O c a f).1 (k+1):=by
 unfold ou vM;split
 ·exact h.mono (Nat.le_succ k)
 ·exact h.call c _ _ λB u j=>.keep (t B u) j
theorem XI{L k l}(h:fI L k=some l):(k,l)∈L:=by
 grind [fI,Option.map_eq_some_iff,List.mem_of_find?_eq_some]
theorem Vy L k l:(iF L k l).map (·.1)=L.map (·.1):=by
 grind [iF,List.map_map,List.map_congr_left]
theorem Vz{L k l}(h:∀q∈L,q.2.length<=8)(j:l.length<=8):∀q∈iF L k l,q.2.length<=8:=by
 grind [iF]
theorem auD{L}(h:∀q∈L,q.2.length<=8) k b:(pP L k b).map (·.1)=L.map (·.1)/\∀q∈pP L k b,q.2.length<=8:=by
 unfold pP;split
 ·split
  ·next l e hl=>exact⟨Vy _ _ _,Vz h aA⟩
  ·grind
 ·grind
theorem aec n:∀(l:List (Int×List UInt8)) {L:List pI},(∀q∈L,q.2.length<=8)->(l.foldl (λL m=>pP L (n,m.1) m.2) L).map (·.1)=L.map (·.1)/\∀q∈l.foldl (λL m=>pP L (n,m.1) m.2) L,q.2.length<=8
 | [],_,h=>⟨rfl,h⟩
 | x :: l,L,h=>by have t:=auD h (n,x.1) x.2;have j:=aec n l t.2;exact⟨j.1.trans t.1,j.2⟩
theorem bQ.cz(h:bQ par ah O k){L}(j:L.map (·.1)=O.cz.map (·.1))(t:∀q∈L,q.2.length<=8):bQ par ah { O with cz:=L } k :=
 ⟨⟨h.gH.tr,h.gH.hm,h.gH.ln,h.gH.lc,h.gH.lg⟩,h.lh,h.pc,h.eX,j.trans h.key,t,h.gl⟩
theorem bQ.tick(h:bQ par ah O k) n:bQ par ah (lV O n).1 (k+1):=by
 unfold lV;split
 ·split
  ·exact h.mono (Nat.le_succ k)
  ·next B hu =>
   have t:=h.up hu;have u:=h.put hu (Nat.le_succ k) (.work t.1 t.2.1);have j:=aec n (sF (gB B)) h.few;exact u.cz j.1 j.2
 ·exact h.mono (Nat.le_succ k)
theorem bQ.F5(h:bQ par ah O k)(hk:k<=50000) a b:bQ par ah (jO O a b).1 (k+1):=by
 unfold jO;split
 ·exact h.mono (Nat.le_succ k)
 ·exact h.mono (Nat.le_succ k)
 ·next m l hm =>
  have u:=h.few _ (XI hm);simp only[fg]at u;have t:bQ par ah { O with cz:=iF O.cz (a,b) l } k:=h.cz (Vy _ _ _) (Vz h.few af);have e:cL { O with cz:=iF O.cz (a,b) l } b=cL O b:=rfl;simp only[e];split
  ·exact t.mono (Nat.le_succ k)
  ·next B hu =>
   have j:=h.up hu;exact t.put hu (Nat.le_succ k) (.handle j.1 j.2.1 a m hk)
theorem bQ.drain a b:∀(j:Nat) {O:bF} {k:Nat},bQ par ah O k->k+j<=50000->bQ par ah (F9 a b j O) (k+j)
 | 0,_,_,h,_=>h
 | j+1,_,k,h,hk=>by have:=bQ.drain a b j (h.F5 af a b) af;rw[show k+(j+1)=k+1+j by omega];exact this
theorem bQ.long(h:bQ par ah O k) a b:oW O a b<=8:=by
 unfold oW
 cases e:fI O.cz (a,b)with
 | none=>simp
 | some l=>exact h.few _ (XI e)
theorem bQ.ajK n:∀(l:List Nat) {O:bF} {k:Nat},bQ par ah O k->k+8*l.length<=50000->bQ par ah (l.foldl (λO (t:Nat)=>if t=n then O else F9 n t (oW O n t) O) O) (k+8*l.length)
 | [],_,_,h,_=>h
 | t :: l,O,k,h,hk=>by
  simp only[fg,List.foldl_cons]at hk⊢;rw[show k+8*(l.length+1)=k+8+8*l.length by omega];refine bQ.ajK n l ?_ af;split
  ·exact h.mono af
  ·have:=h.long n t;exact (h.drain n t _ af).mono af
theorem bQ.turn(h:bQ par ah O k)(hp:par.length<=6)(hk:k+49<=50000) n:bQ par ah (yN O n) (k+49):=by
 have t:=h.tick n;have e:=h.lh;unfold yN;split
 ·have j:=bQ.ajK n (List.range O.par.length) t aA;exact j.mono aA
 ·exact h.mono af
theorem bQ.turns(hp:par.length<=6):∀(l:List Nat) {O:bF} {k:Nat},bQ par ah O k->k+49*l.length<=50000->bQ par ah (l.foldl yN O) (k+49*l.length)
 | [],_,_,h,_=>h
 | t :: l,O,k,h,hk=>by simp only[fg,List.foldl_cons]at hk⊢;rw[show k+49*(l.length+1)=k+49+49*l.length by omega];exact bQ.turns hp l (h.turn hp af t) af
theorem bQ.round(h:bQ par ah O k)(hp:par.length<=6)(hk:k+588<=50000):bQ par ah (xB O) (k+588):=by have e:=h.lh;have j:=bQ.turns hp ((List.range O.par.length).reverse++List.range O.par.length) h aA;exact j.mono aA
theorem bQ.Ma(h:bQ par ah O k) n:bQ par ah (sB O n).1 k:=by
 unfold sB;split
 ·split
  ·exact h
  ·next B hu =>
   obtain⟨u,j,t,y⟩:=h.up hu;obtain⟨i,rfl,-⟩:=Ec hu;exact h.set i (aD k) ⟨λ_=>⟨B.st,u.dk,t,j.inv.ab,j.inv.prom⟩,λC e=>aA⟩
 ·exact h
theorem lf.open_{me p q d s}(t:∀a∈s.ab,bV s.list a=false)(j:s.prom.length<=6):lf (oV me p q d (bP s)) k:=⟨⟨t,j⟩,⟨tu,tu,tu,tu⟩,tu,tu⟩
theorem bQ.down(h:bQ par ah O k)(t:gX O m=true)(j:cL O m=none):∃n:Nat,m=(n:Int)/\n<par.length/\∃d s,O.eX[n]?=some ⟨none,d⟩/\gS d s/\s.life<=k+1/\(∀a∈s.ab,bV s.list a=false)/\s.prom.length<=6:=by
 unfold cL at j;rw[if_pos t]at j;unfold gX fA at t;simp only[dC,decide_eq_true_eq]at t;obtain⟨n,rfl⟩:=Int.eq_ofNat_of_zero_le t.1;have u:n<O.eX.length:=by have:=h.gH.ln;omega
 rw[Int.toNat_natCast,List.getElem?_eq_getElem u]at j;have A:=(h.eX n _ (List.getElem?_eq_getElem u)).down j;obtain⟨s,y⟩:=A;refine⟨n,rfl,by rw[<- h.lh];omega,O.eX[n].dk,s,?_,y⟩;rw[List.getElem?_eq_getElem u];exact congrArg some (by cases hx:O.eX[n];rw[hx]at j;simp at j;simp[j])
theorem bQ.LK(h:bQ par ah O k) n(hk:k<=50000):bQ par ah (lR O n).1 (k+1):=by
 unfold lR;split
 ·next hi =>
  split
  ·exact h.mono (Nat.le_succ k)
  ·next hu =>
   have t:cL O n=none:=FQ;obtain⟨i,rfl,B,d,s,A,j,D,u,y⟩:=h.down hi t;unfold qL;simp only[Int.toNat_natCast,A,Option.map_some,Option.getD_some,Gb j];split
   ·next hr =>
    rw[h.lh,h.pc];refine h.set i (Nat.le_succ k) ⟨λe=>by simp at e,λC e=>?_⟩;simp at e;subst e;refine⟨rfl,bE.open_ (h.lh▸h.gH.tr) ?_ (h.lh▸h.pc▸h.gH.hm) (j.life hr),lf.open_ u y,?_,rfl,rfl,rfl⟩
    ·unfold fA;simp;omega
    ·show (s.life+1)%18446744073709551616<=_;omega
   ·exact h.mono (Nat.le_succ k)
 ·exact h.mono (Nat.le_succ k)
theorem bQ.MH(h:bQ par ah O k) c:bQ par ah (jr O c).1 (k+1):=by
 have hm:=h.mono (Nat.le_succ k);unfold jr;split
 ·split
  ·exact hm
  ·dsimp only;split
   ·refine⟨⟨h.gH.tr,h.gH.hm,h.gH.ln,?_,?_⟩,h.lh,h.pc,hm.eX,h.key,h.few,λl j=>?_⟩
    ·simp[h.gH.lc]
    ·dsimp only;split
     ·exact h.gH.lg
     ·simp[h.gH.lg]
    ·dsimp only at j;split at j
     ·exact hm.gl l j
     ·obtain⟨i,t,rfl⟩:=List.getElem_of_mem j;rw[List.getElem_modify];have h9:=h.gl _ (bZ (show i<O.got.length by grind));split
      ·grind
      ·omega
   ·exact hm
 ·exact hm
theorem asR p:∀q∈Cg p,q.2.length<=8:=by
 grind [Cg]
theorem bQ.new(t:fk par=true)(j:jt par ah=true){room}(y:ir (cM (bP bU))<=room)(u:room<=1048576):bQ par ah (jV par ah room) 0:=by
 refine⟨⟨t,j,by simp[jV],by simp[jV],by simp[jV]⟩,rfl,rfl,λn x e=>?_,rfl,asR par,λl A=>by grind [jV]⟩;have hn:n<par.length:=by
  grind [fk,jt,ir,cM,bP,bU,jV]
 simp[jV,hn]at e;subst e;refine⟨λe=>aA,λC e=>?_⟩;simp at e;subst e;exact⟨rfl,bE.open_ t (by grind [fA]) j ((gS.new u).life y),lf.open_ yD yD,by simp[oV,bP,bU],rfl,rfl,rfl⟩
end
structure BL(par ah:List Int)(m c:Nat)(B:aZ):Prop where
 me:B.me=(m:Int)
 lh:B.par=par
 pc:B.ah=ah
 st:B.st=bP bU
 tx:∀t∈B.aC,t.asked=false/\∃s,jD t.e=((m:Int),1,s)/\s<=B.calls
 len:B.aC.length<=c
 calls:B.calls<=c
 bO:B.bO=[]
 told:B.told=[]
 refused:B.refused=[]
 waits:B.waits=[]
structure iJ(par ah:List Int)(n c:Nat)(O:bF):Prop where
 lh:O.par=par
 pc:O.ah=ah
 cur:∀x∈O.cur,x=0
 ln:O.eX.length=par.length
 dn:O.eX[n]?=some ⟨none,⟨cM (bP bU),60000⟩⟩
 up:∀m,m<par.length->m≠n->∃B,O.eX[m]?=some ⟨some B,B.dk⟩/\BL par ah m c B
section
variable {par ah:List Int} {n c:Nat} {O:bF}
theorem iJ.no(h:iJ par ah n c O)(hn:n<par.length):gX O n=true/\cL O n=none:=by have j:gX O n=true:=aiP;refine⟨j,?_⟩;unfold cL;rw[j,Int.toNat_natCast,h.dn];rfl
theorem iJ.yes(h:iJ par ah n c O){m}(hm:m<par.length)(y:m≠n):∃B,gX O m=true/\cL O m=some B/\O.eX[m]?=some ⟨some B,B.dk⟩/\BL par ah m c B:=by obtain⟨B,j,u⟩:=h.up m hm y;have t:gX O m=true:=aiP;refine⟨B,t,?_,j,u⟩;unfold cL;rw[t,Int.toNat_natCast,j];rfl
theorem iJ.down(h:iJ par ah n c O)(hn:n<par.length):sB O n=(O,210)/\lV O n=(O,210)/\(cL O n).isSome=false:=by obtain⟨t,j⟩:=h.no hn;unfold sB lV;rw[t,j];exact⟨rfl,rfl,rfl⟩
theorem iJ.new(hn:n<par.length):(sB (jV par ah 60000) n).2=0/\iJ par ah n 0 (sB (jV par ah 60000) n).1/\∀q∈(sB (jV par ah 60000) n).1.cz,q.2=[]:=by
 have u:gX (jV par ah 60000) n=true:=by unfold gX fA jV;simp;omega
 have t:∀m,m<par.length->(jV par ah 60000).eX[m]?=some ⟨some (oV m par ah ⟨cM (bP bU),60000⟩ (bP bU)),⟨cM (bP bU),60000⟩⟩:=λm hm=>by simp[jV,hm]
 have y:cL (jV par ah 60000) n=some (oV n par ah ⟨cM (bP bU),60000⟩ (bP bU)):=by unfold cL;rw[u,Int.toNat_natCast,t n hn];rfl
 unfold sB;rw[u,y];refine⟨rfl,⟨rfl,rfl,by simp[jU,jV],by simp[jU,jV],?_,λm hm B=>?_⟩,λq j=>?_⟩
 ·have A:n<(jV par ah 60000).eX.length:=by simp[jV];omega
  simp only[jU,Int.toNat_natCast,if_true];rw[List.getElem?_set_self A];rfl
 ·refine⟨oV m par ah ⟨cM (bP bU),60000⟩ (bP bU),?_,⟨rfl,rfl,rfl,rfl,tu,tu,tu,rfl,rfl,rfl,rfl⟩⟩;simp only[jU,Int.toNat_natCast,if_true];rw[List.getElem?_set_ne af,t m hm];rfl
 ·have j:q∈Cg par:=j;unfold Cg at j;simp only[List.mem_flatMap,List.mem_cons,List.not_mem_nil,or_false]at j;obtain⟨k,-,rfl|rfl⟩:=j <;> rfl
theorem iJ.put(h:iJ par ah n c O){t}(D:c<=t){m B}(A:m≠n)(u:BL par ah m t B):iJ par ah n t (iw O m B):=by
 refine⟨h.lh,h.pc,h.cur,by simp[iw,jU,h.ln],?_,λk hk y=>?_⟩
 ·simp only[iw,jU,Int.toNat_natCast];rw[List.getElem?_set_ne A,h.dn]
 ·simp only[iw,jU,Int.toNat_natCast];by_cases e:k=m
  ·subst e;exact⟨B,List.getElem?_set_self (by rw[h.ln];exact hk),u⟩
  ·rw[List.getElem?_set_ne af];obtain⟨B',C,j⟩:=h.up k hk y;exact⟨B',C,⟨j.me,j.lh,j.pc,j.st,j.tx,by have:=j.len;omega,by have:=j.calls;omega,j.bO,j.told,j.refused,j.waits⟩⟩
theorem iJ.cl(h:iJ par ah n c O)(hm:jt par ah=true){k:Nat}(hk:k<ah.length):jP O k=true/\mV O k=ah[k]/\∃m:Nat,ah[k]=(m:Int)/\m<par.length:=by
 have t:jP O k=true:=by unfold jP;rw[h.pc];simp;omega
 have j:fA par ah[k]=true:=by simp only[jt,dC,xC]at hm;exact hm.2 _ (bZ hk)
 refine⟨t,by unfold mV;rw[h.pc,Int.toNat_natCast,List.getElem?_eq_getElem hk];rfl,?_⟩;simp only[fA,dC,decide_eq_true_eq]at j;exact⟨ah[k].toNat,af,af⟩
theorem iJ.refused(h:iJ par ah n c O)(hn:n<par.length)(hm:jt par ah=true){k:Nat}(hk:k<ah.length)(e:ah[k]=(n:Int)) :
 jz O k=(O,(0,0,0),210)/\jr O k=(O,[],210)/\∀a,(yG O k a).2=210/\ou O k a (λl=>jx l a)=(O,(),210):=by
 obtain⟨u,j,-⟩:=h.cl hm hk
 have t:=(h.no hn).2
 rw[e]at j
 simp[jz,jr,yG,ou,vM,rL,u,j,t]
theorem auE{m:Nat}{B:aZ}(j:BL par ah m c B)(hm:m<par.length)(hp:par.length<=16){k:Nat}(hk:k<ah.length)(L:ah.length<=32)(e:ah[k]=(m:Int))(J:c<8) :
 (tz B k).2.2=0/\BL par ah m (c+1) (tz B k).1:=by
 have E:vX B k=true:=by unfold vX;rw[j.pc,j.me];simp[List.getElem?_eq_getElem hk,e];omega
 have A:B.st.life=1:=by rw[j.st];rfl
 have G:jn B.aC (jD (lX (jG B) k))=none:=by unfold jn;rw[List.findIdx?_eq_none_iff];intro t u;obtain⟨-,s,y,C⟩:=j.tx t u;have:=j.calls;simp only[nK,y];simp[jD,lX,jG];omega
 have D:bJ (lX (jG B) k)=true:=by simp[bJ,lX,jG,j.me,qH];omega
 have hb:qQ (lX (jG B) k)=false:=by have F:cE (lX (jG B) k):=⟨Wz,by simp[lX,jG,j.me,cD];omega,by simp[lX,cD];omega,by simp[lX,jG,A],by have:=j.calls;simp[lX,jG];omega,B7,B7,B7⟩;have H:=UZ _ F;have M:=cS 0 af;unfold qQ Yf eP;rw[D];simp[lX]at H⊢;omega
 have I:vW B.aC (jG B) k=(B.aC++[⟨lX (jG B) k,false⟩],0):=by unfold vW uE;have:=j.len;rw[G,D,hb];simp;omega
 unfold tz jq
 rw[E,I]
 refine⟨rfl,⟨j.me,j.lh,j.pc,j.st,λt u=>?_,?_,?_,j.bO,j.told,j.refused,j.waits⟩⟩
 ·simp only[if_true]at u⊢;rw[Eh,List.mem_singleton]at u;rcases u with u|rfl
  ·obtain⟨a,s,y,C⟩:=j.tx t u;exact⟨a,s,y,Nat.le_succ_of_le C⟩
  ·exact⟨rfl,B.calls+1,by simp[jD,lX,jG,j.me,A],aD _⟩
 ·have:=j.len;simp;omega
 ·have:=j.calls;simp;omega
theorem axT{m:Nat}{B:aZ}(j:BL par ah m c B){k:Nat}(hk:k<ah.length)(e:ah[k]=(m:Int)):ot B k 0=([],0,0):=by
 have t:vX B k=true:=by unfold vX;rw[j.pc,j.me];simp[List.getElem?_eq_getElem hk,e];omega
 unfold ot;rw[t,j.st];rfl
theorem iJ.calls(h:iJ par ah n c O)(hp:par.length<=16)(hm:jt par ah=true){k:Nat}(hk:k<ah.length)(e:ah[k]≠(n:Int))(J:c<8) :
 (jz O k).2.2=0/\iJ par ah n (c+1) (jz O k).1/\(jz O k).1.cz=O.cz/\∀ {t},iJ par ah n (c+1) t->(jr t k).2.2=0/\iJ par ah n (c+1) (jr t k).1/\(jr t k).1.cz=t.cz:=by
 obtain⟨D,A,m,u,C⟩:=h.cl hm hk
 have N:=(FN hm).2
 have F:m≠n:=λM=>e (by rw[u,M])
 obtain⟨B,-,E,-,Q⟩:=h.yes C F
 obtain⟨R,I⟩:=auE Q C hp hk N u J
 rw[u]at A
 refine⟨?_,?_,?_,λ{t} j=>?_⟩
 ·simp[jz,rL,D,A,E,R]
 ·simp only[jz,rL,D,A,E,if_true];exact h.put (Nat.le_succ c) F I
 ·simp[jz,rL,D,A,E,iw,jU]
 ·obtain⟨B',-,S,-,P⟩:=j.yes C F;obtain⟨L,G,-⟩:=j.cl hm hk;rw[u]at G;have H:(t.cur[k]?).getD 0=0:=by
   cases y:t.cur[k]? with
   | none=>rfl
   | some x=>exact j.cur x (List.mem_of_getElem? y)
  simp only[jr,L,G,S,if_true,Int.toNat_natCast,H,axT P hk u];refine⟨trivial,⟨j.lh,j.pc,λx y=>?_,j.ln,j.dn,j.up⟩,trivial⟩;rcases List.mem_or_eq_of_mem_set y with y|rfl
  ·exact j.cur x y
  ·rfl
theorem iJ.mono(h:iJ par ah n c O){t}(A:c<=t):iJ par ah n t O :=
 ⟨h.lh,h.pc,h.cur,h.ln,h.dn,λm hm u=>by
  obtain⟨B,y,j⟩:=h.up m hm u;exact⟨B,y,⟨j.me,j.lh,j.pc,j.st,j.tx,by have:=j.len;omega,by have:=j.calls;omega,j.bO,j.told,j.refused,j.waits⟩⟩⟩
theorem iJ.round(h:iJ par ah n c O)(hn:n<par.length)(hp:par.length<=16)(hm:jt par ah=true){k:Nat}(hk:k<ah.length)(A:c<8) :
 ∃x y,(jz O k).2.2=x/\(jr (jz O k).1 k).2.2=y/\iJ par ah n (c+1) (jr (jz O k).1 k).1/\(jr (jz O k).1 k).1.cz=O.cz /\
  (ah[k]=(n:Int)->x=210/\y=210/\∀a,(yG (jr (jz O k).1 k).1 k a).2=210/\ou (jr (jz O k).1 k).1 k a (λl=>jx l a)=((jr (jz O k).1 k).1,(),210))/\(ah[k]≠(n:Int)->x=0/\y=0):=by
 by_cases e:ah[k]=(n:Int)
 ·obtain⟨u,t,j⟩:=h.refused hn hm hk e;rw[u];dsimp only;rw[t];exact⟨_,_,rfl,rfl,h.mono (Nat.le_succ c),rfl,λ_=>⟨rfl,rfl,j⟩,λh9=>absurd e h9⟩
 ·obtain⟨u,t,j,C⟩:=h.calls hp hm hk e A;obtain⟨B,h6,h7⟩:=C t;exact⟨_,_,rfl,rfl,h6,h7.trans j,λh9=>absurd h9 e,λ_=>⟨u,B⟩⟩
theorem aeL(B:aZ):∀(l:List fH) o,(∀k∈l,k.asks=[])->l.foldl (λo k=>k.asks.foldl (km B) o) o=o
 | [],_,_=>rfl
 | k :: l,o,h=>by rw[List.foldl_cons,h k (List.mem_cons_self ..)];exact aeL B l o λx j=>h x (List.mem_cons_of_mem _ j)
theorem BL.quiet{m:Nat}{B:aZ}(j:BL par ah m c B):gB B=B/\Ad B=⟨1,0,[],[],[],[],[],[]⟩/\∀k,uh B k=⟨2,0,[],[],[],[],[],[]⟩:=by
 have A:∀k,iX B k=uH:=λk=>by unfold iX;rw[j.bO];rfl
 have D:∀k∈dy B,k=uH:=λk hk=>by unfold dy at hk;obtain⟨x,-,rfl⟩:=List.mem_map.1 hk;exact A x
 have y:lU B=[]:=by
  unfold lU;have e:jb B.aC=[]:=by unfold jb;rw[List.filter_eq_nil_iff.2 λt C=>by rw[(j.tx t C).1];decide];rfl
  rw[e];exact aeL B _ _ λk hk=>by rw[D k hk];rfl
 have u:B.st.list=[]/\B.st.prom=[]:=by rw[j.st];exact⟨rfl,rfl⟩
 refine⟨?_,?_,λk=>?_⟩
 ·have e:oq B=(B,[]):=by simp[oq,yM,y,j.waits,oR]
  unfold gB;rw[e];split
  ·rw[<- j.waits]
  ·rfl
 ·simp[Ad,y,u.1,u.2,j.refused,Ja]
 ·simp[uh,A,pN,u.1,u.2,j.waits,uH,yL,AG,uB,uA]
theorem K7(k j:Int×Int) l:∀L:List pI,fI (iF L k l) j=if j=k then (fI L j).map λ_=>l else fI L j
 | []=>by simp[fI,iF]
 | p :: L=>by
  have:=K7 k j l L
  simp only[fI,iF,jR,List.find?_cons]at this⊢
  grind
theorem arj{L:List pI}{k j:Int×Int} b(h:j≠k):fI (pP L k b) j=fI L j:=by
 unfold pP
 grind [K7]
theorem awt{L:List pI}{k:Int×Int}{b}(h:fI L k=some []):fI (pP L k b) k=some [b]:=by unfold pP;rw[h];simp[K7,h]
theorem PI{s:Int}{k:Int×Int}:∀(l:List (Int×List UInt8)) {L:List pI},(∀x∈l,k≠(s,x.1))->fI (l.foldl (λL m=>pP L (s,m.1) m.2) L) k=fI L k
 | [],_,_=>rfl
 | x :: l,L,h=>by rw[List.foldl_cons,PI l λy j=>h y (List.mem_cons_of_mem _ j),arj _ (h x (List.mem_cons_self ..))]
theorem auF{s n:Int}{b}{u j:List (Int×List UInt8)}{L:List pI}(h:fI L (s,n)=some [])(A:∀x∈u,x.1≠n)(y:∀x∈j,x.1≠n) :
 fI ((u++(n,b) :: j).foldl (λL m=>pP L (s,m.1) m.2) L) (s,n)=some [b]:=by
 rw[List.foldl_append,List.foldl_cons,PI j λx t e=>y x t (by injection e with _ e;exact e.symm)]
 exact awt (by rw[PI u λx t e=>A x t (by injection e with _ e;exact e.symm),h])
theorem auG{p:List Int}{n x:Int}(h:x∈nE p n):∃k:Nat,x=(k:Int)/\k<p.length/\p[k]?=some n:=by unfold nE at h;obtain⟨k,j,rfl⟩:=List.mem_map.1 h;simp only[List.mem_filter,List.mem_range,decide_eq_true_eq]at j;exact⟨k,rfl,j⟩
theorem BL.sends{m:Nat}{B:aZ}(A:BL par ah m c B)(G:fk par=true)(hm:m<par.length)(hn:n<par.length)(t:par[n]?=some (m:Int)∨par[m]?=some (n:Int)) :
 ∃b R Q,sF (gB B)=R++((n:Int),b) :: Q/\(∀x∈R,x.1≠(n:Int))/\∀x∈Q,x.1≠(n:Int):=by
 obtain⟨X,O,T⟩:=A.quiet
 have F:=(zX.1 G).2.2.2
 have u:=(zX.1 G).2.2.1
 have V:ed ⟨2,0,[],[],[],[],[],[]⟩=true:=ax
 have M:ed ⟨1,0,[],[],[],[],[],[]⟩=true:=ax
 have U:∀l,sE B l=l.map λk=>(k,kZ ⟨2,0,[],[],[],[],[],[]⟩):=λl=>by
  unfold sE
  induction l with
  | nil=>rfl
  | cons k l Z=>rw[uy,Z,T];simp[tE,V]
 have hk:oo B=nE par m:=by unfold oo En;rw[A.lh,A.me,G,if_pos (by simp[fA];omega)]
 have N:tJ B=(par[m]?).getD (-1):=by unfold tJ;rw[A.lh,A.me,Int.toNat_natCast]
 have key:∀k:Nat,k<par.length->par[k]?=some (m:Int)->m<k:=λk hk e=>by
  rw[List.getElem?_eq_getElem hk]at e;injection e with e;rcases Nat.eq_zero_or_pos k with rfl|h9
  ·rw[List.getElem?_eq_getElem hk,e]at u;injection u with u;omega
  ·have:=F k hk h9;omega
 rw[X,sF,U,hk]
 rcases t with t|t
 ·obtain⟨D,C,S,I,L⟩:∃D C,nE par m=D++(n:Int) :: C/\(∀x∈D,x≠(n:Int))/\∀x∈C,x≠(n:Int):=by
   have W:(n:Int)∈nE par m:=List.mem_map.2 ⟨n,by simp only[List.mem_filter,List.mem_range,decide_eq_true_eq];exact⟨hn,t⟩,rfl⟩;have J:(nE par m).Nodup:=by exact List.Pairwise.map _ (λa b h e=>h af) ((List.nodup_range (n:=par.length)).filter _)
   obtain⟨D,C,e⟩:=List.append_of_mem W;rw[e,List.nodup_append]at J;refine⟨D,C,e,λx j H=>J.2.2 x j n (List.mem_cons_self ..) H,λx j H=>?_⟩;subst H;exact (List.nodup_cons.1 J.2.1).1 j
  refine⟨_,qK B++D.map _,C.map _,by rw[S,List.map_append,jR,eu],λx j=>?_,λx j=>?_⟩
  ·rcases List.mem_append.1 j with j|j
   ·unfold qK at j;split at j
    ·cases j
    ·rw[O]at j;simp[tE,M]at j;rw[j,N];have h9:=key n hn t;rw[List.getElem?_eq_getElem hm];intro e;simp only[Option.getD_some]at e;rcases Nat.eq_zero_or_pos m with rfl|h8
     ·rw[List.getElem?_eq_getElem hm,e]at u;injection u with u;omega
     ·have:=F m hm h8;omega
   ·obtain⟨y,E,rfl⟩:=List.mem_map.1 j;exact I y E
  ·obtain⟨y,E,rfl⟩:=List.mem_map.1 j;exact L y E
 ·have h8:1<=m:=by
   rcases Nat.eq_zero_or_pos m with rfl|h9
   ·rw[u]at t;injection t with t;omega
   ·exact h9
  have Y:qK B=[((n:Int),kZ ⟨1,0,[],[],[],[],[],[]⟩)]:=by unfold qK mT;rw[A.me,if_neg ba,O,N,t];simp[tE,M]
  refine⟨_,[],_,by rw[Y];rfl,λx j=>(by cases j),λx j=>?_⟩;obtain⟨y,E,rfl⟩:=List.mem_map.1 j;obtain⟨k,rfl,I,L⟩:=auG E;have:=key k I L;have h3:n<m:=by have:=F m hm h8;rw[List.getElem?_eq_getElem hm]at t;injection t with t;omega
  intro e;simp only at e;omega
theorem iJ.tick(h:iJ par ah n c O)(E:fk par=true)(hn:n<par.length){m:Nat}(hm:m<par.length)(C:m≠n)(G:par[n]?=some (m:Int)∨par[m]?=some (n:Int))(J:fI O.cz ((m:Int),(n:Int))=some []) :
 (lV O m).2=0/\(jO (lV O m).1 m n).2=210/\(jO (jO (lV O m).1 m n).1 m n).2=141/\iJ par ah n c (jO (jO (lV O m).1 m n).1 m n).1 /\
  ∀k:Nat,k≠m->fI (jO (jO (lV O m).1 m n).1 m n).1.cz ((k:Int),(n:Int))=fI O.cz ((k:Int),(n:Int)):=by
 obtain⟨B,M,R,V,t⟩:=h.yes hm C
 obtain⟨b,W,U,e,H,S⟩:=t.sends E hm hn G
 have y:lV O m=({ iw O m B with cz:=(sF (gB B)).foldl (λL x=>pP L ((m:Int),x.1) x.2) O.cz },0):=by unfold lV;simp only[M,R,t.quiet.1,if_true]
 have j:iJ par ah n c (iw O m B):=h.put (aD c) C t
 generalize u:(sF (gB B)).foldl (λL x=>pP L ((m:Int),x.1) x.2) O.cz=N at y
 have A:fI N ((m:Int),(n:Int))=some [b]:=by rw[<- u,e];exact auF J H S
 have T:∀k:Nat,k≠m->fI N ((k:Int),(n:Int))=fI O.cz ((k:Int),(n:Int)):=λk hk=>by rw[<- u];exact PI _ λx _ e=>hk aiQ
 rw[y]
 have Q:∀L,cL { iw O m B with cz:=L } n=none:=λL=>(iJ.no ⟨j.lh,j.pc,j.cur,j.ln,j.dn,j.up⟩ hn).2
 have D:jO { iw O m B with cz:=N } m n=({ iw O m B with cz:=iF N (m,n) [] },210):=by unfold jO;simp only[A,Q]
 have F:fI (iF N ((m:Int),(n:Int)) []) (m,n)=some []:=by rw[K7,if_pos rfl,A];rfl
 have I:jO { iw O m B with cz:=iF N (m,n) [] } m n=({ iw O m B with cz:=iF N (m,n) [] },141):=by unfold jO;simp only[F]
 rw[D,I]
 refine⟨rfl,rfl,rfl,⟨j.lh,j.pc,j.cur,j.ln,j.dn,j.up⟩,λk hk=>?_⟩
 show fI (iF N _ _) _=_
 rw[K7,if_neg (λe=>hk aiQ),T k hk]
theorem XJ:Ie ⟨cM (bP bU),60000⟩=bP bU/\ir (cM (bP (bP bU)))<=60000:=⟨Gb (gS.new af |>.life QR),QR⟩
theorem iJ.again(h:iJ par ah n c O)(hn:n<par.length):(kT O n).life=1/\(lR O n).2=0/\(lR (lR O n).1 n).2=210/\(kT (lR (lR O n).1 n).1 n).life=2/\(cL (lR (lR O n).1 n).1 n).isSome=true:=by
 obtain⟨j,u⟩:=h.no hn;have C:lR O n=(iw O n (oV n O.par O.ah ⟨cM (bP (bP bU)),60000⟩ (bP (bP bU))),0):=by unfold lR qL;rw[j,u,Int.toNat_natCast,h.dn];simp only[Option.map_some,Option.getD_some,XJ.1];rw[if_pos XJ.2];rfl
 have t:cL (iw O n (oV n O.par O.ah ⟨cM (bP (bP bU)),60000⟩ (bP (bP bU)))) n=some (oV n O.par O.ah ⟨cM (bP (bP bU)),60000⟩ (bP (bP bU))):=by unfold cL;rw[show gX (iw O n _) n=gX O n from rfl,j];simp only[iw,jU,Int.toNat_natCast,if_true];rw[List.getElem?_set_self (by rw[h.ln];exact hn)];rfl
 have y:∀B,cL (iw O n B) n=some B->lR (iw O n B) n=(iw O n B,210):=λB A=>by unfold lR;rw[show gX (iw O n B) n=gX O n from rfl,j,A];rfl
 rw[C,y _ t];refine⟨?_,rfl,rfl,?_,by rw[t];rfl⟩
 ·unfold kT;rw[j,u,Int.toNat_natCast,h.dn];simp only[Option.map_some,Option.getD_some,XJ.1];rfl
 ·unfold kT;rw[show gX (iw O n _) n=gX O n from rfl,j,t];rfl
theorem axU(h:bQ par ah O c)(u:∀q∈O.cz,q.2=[]){m:Nat}(hm:m<par.length)(hn:n<par.length)(y:fk par=true)(j:par[n]?=some (m:Int)∨par[m]?=some (n:Int)):fI O.cz ((m:Int),(n:Int))=some []:=by
 have B:=(zX.1 y).2.2.1
 have hz:∀k:Nat,par[0]?≠some (k:Int):=λk e=>by rw[B]at e;injection e with e;omega
 have hk:((m:Int),(n:Int))∈O.cz.map (·.1):=by
  rw[h.key];unfold Cg;rw[List.tail_range,List.mem_map];rcases j with j|j
  ·refine⟨(((m:Int),(n:Int)),[]),?_,rfl⟩;rw[List.mem_flatMap];refine⟨n,?_,by simp[j]⟩;rw[List.mem_range'];exact⟨n-1,by have:n≠0:=λe=>hz m (e▸j);omega⟩
  ·refine⟨(((m:Int),(n:Int)),[]),?_,rfl⟩;rw[List.mem_flatMap];refine⟨m,?_,by simp[j]⟩;rw[List.mem_range'];exact⟨m-1,by have:m≠0:=λe=>hz n (e▸j);omega⟩
 obtain⟨q,A,t⟩:=List.mem_map.1 hk
 unfold fI
 cases hf:O.cz.find? λp=>decide (p.1=((m:Int),(n:Int)))with
 | none=>exact absurd (List.find?_eq_none.1 hf q A) (by simp[t])
 | some x=>rw[Option.map_some,u x (List.mem_of_find?_eq_some hf)]
end
section
open Go Go.RowKit Go.Conc
def qu(c:Nat)(l:List Value)(w:World):Prop:=∃s r,w.heap[c]?=some (.chan 8 l.toArray false s r false)
theorem qu.aW{X c l w w'}(h:qu c l w)(u:ag X w w')(j:¬X c):qu c l w':=by obtain⟨s,r,h⟩:=h;exact⟨s,r,(u.block c (Array.getElem?_eq_some_iff.1 h).1 j).trans h⟩
theorem qu.lt{c l w}(h:qu c l w):c<w.heap.size:=h.elim λ_ h=>h.elim λ_ h=>(Array.getElem?_eq_some_iff.1 h).1
theorem aeM{c w cap buf cl tm s r}:ag (λk=>k=c) w (w.setChan c cap buf cl s r tm) :=
 ⟨rfl,rfl,rfl,by simp[World.setChan],λk _ hk=>by simp[World.setChan,Array.getElem?_setIfInBounds_ne (Ne.symm hk)]⟩
theorem asS c l v w(h:qu c l w) :
 Calls prog 97 #[.chan (some c),v] w λe w'=>e=.returned (.bool (decide (l.length<8)))/\qu c (if l.length<8 then l++[v]else l) w'/\ag (λk=>k=c) w w':=by
 refine calls_of_loneTo λcs=>?_
 obtain⟨s,r,hb⟩:=h
 have e:Frame.enter prog 97 #[.chan (some c),v] .normal=(base 97).at ⟨#[.chan (some c),v,undef,undef,undef,undef,undef,undef,undef,undef],[]⟩ [.code (f97.body.getD .skip)]:=by rfl
 rw[e]
 refine LoneTo.goes (n:=14) ?_
 simp only[f97,Option.getD_some]
 s_c stepG_seq
 s_reg
 s_op
 s_c stepG_region_end
 s_c stepG_seq
 s_c stepG_seq
 s_reg
 s_op
 s_c stepG_region_end
 s_reg
 s_op
 s_c stepG_region_end
 s_c stepG_seq
 s_reg
 s_stop
 by_cases hl:l.length<8
 ·refine LoneTo.step (step_lone_select_send_room (c:=c) (cap:=8) (buf:=l.toArray) (s:=s) (r:=r) (tm:=false) (stepG_comm (cases:=#[scase c v (.slice none 0 0)]) (blocking:=false) (shape:=.select) (w':=w) rfl rfl ax aiR) hb af) ?_;rw[Frame.finish_at];walk_nrm
  refine LoneTo.goes (n:=10) ?_;s_op
  s_op
  s_c stepG_region_end
  s_c stepG_block
  s_cond true
  s_c stepG_seq
  s_reg
  s_op
  s_c stepG_region_end
  s_c stepG_ret'
  s_stop
  refine LoneTo.done ⟨.returned (.bool true),_,rfl,⟨by simp[hl],⟨s+1,r,?_⟩,aeM⟩,rfl,rfl,rfl,rfl,_,func97,by simp[results,f97,Frame.at]⟩;rw[if_pos hl,heap_setChan _ _ _ _ _ _ _ _ (Array.getElem?_eq_some_iff.1 hb).1]
 ·refine LoneTo.step (step_lone_select_send_full (c:=c) (cap:=8) (buf:=l.toArray) (s:=s) (r:=r) (tm:=false) (stepG_comm (cases:=#[scase c v (.slice none 0 0)]) (blocking:=false) (shape:=.select) (w':=w) rfl rfl ax aiR) hb WD) ?_;rw[Frame.finish_at];walk_nrm
  refine LoneTo.goes (n:=10) ?_;s_op
  s_op
  s_c stepG_region_end
  s_c stepG_block
  s_cond false
  s_c stepG_seq
  s_reg
  s_op
  s_c stepG_region_end
  s_c stepG_ret'
  s_stop
  exact LoneTo.done ⟨.returned (.bool false),_,rfl,⟨by simp[hl],by rw[if_neg hl];exact⟨s,r,hb⟩,ag.rf _ _⟩,rfl,rfl,rfl,rfl,_,func97,by simp[results,f97,Frame.at]⟩
theorem ark c l w(h:qu c l w) :
 Calls prog 111 #[.chan (some c)] w λe w'=>e=.returned (.tuple #[l.headD (.slice none 0 0),.bool (!l.isEmpty)])/\qu c l.tail w'/\ag (λk=>k=c) w w':=by
 refine calls_of_loneTo λcs=>?_
 obtain⟨s,r,hb⟩:=h
 have e:Frame.enter prog 111 #[.chan (some c)] .normal=(base 111).at ⟨#[.chan (some c),undef,undef,undef,undef,undef,undef,undef,undef,undef,undef],[]⟩ [.code (f111.body.getD .skip)]:=by rfl
 rw[e]
 refine LoneTo.goes (n:=11) ?_
 simp only[f111,Option.getD_some]
 s_c stepG_seq
 s_reg
 s_op
 s_op
 s_c stepG_region_end
 s_c stepG_seq
 s_reg
 s_op
 s_c stepG_region_end
 s_c stepG_seq
 s_reg
 s_stop
 cases l with
 | cons x l =>
  refine LoneTo.step (step_lone_select_recv_buf (c:=c) (cap:=8) (buf:=(x :: l).toArray) (s:=s) (r:=r) (tm:=false) (stepG_comm (cases:=#[rcase c (.slice none 0 0)]) (blocking:=false) (shape:=.select) (w':=w) rfl rfl ax aiS) hb aj) ?_
  rw[Frame.finish_at]
  walk_nrm
  refine LoneTo.goes (n:=17) ?_
  s_op
  s_op
  s_c stepG_region_end
  s_c stepG_block
  s_cond true
  s_c stepG_seq
  s_reg
  s_op
  s_op
  s_c stepG_region_end
  s_c stepG_seq
  s_reg
  s_op
  s_op
  s_op
  s_c stepG_region_end
  s_c stepG_ret'
  s_stop
  refine LoneTo.done ⟨.returned (.tuple #[x,.bool true]),_,rfl,⟨rfl,⟨s,r+1,?_⟩,aeM⟩,rfl,rfl,rfl,rfl,_,func111,aiT⟩
  rw[heap_setChan _ _ _ _ _ _ _ _ (Array.getElem?_eq_some_iff.1 hb).1]
  simp
 | nil =>
  refine LoneTo.step (step_lone_select_default (c:=c) (cap:=8) (s:=s) (r:=r) (tm:=false) (stepG_comm (cases:=#[rcase c (.slice none 0 0)]) (blocking:=false) (shape:=.select) (w':=w) rfl rfl ax aiS) hb) ?_
  rw[Frame.finish_at]
  walk_nrm
  refine LoneTo.goes (n:=11) ?_
  s_op
  s_op
  s_c stepG_region_end
  s_c stepG_block
  s_cond false
  s_c stepG_seq
  s_reg
  s_op
  s_op
  s_c stepG_region_end
  s_c stepG_ret'
  s_stop
  exact LoneTo.done ⟨.returned (.tuple #[.slice none 0 0,.bool false]),_,rfl,⟨rfl,⟨s,r,hb⟩,ag.rf _ _⟩,rfl,rfl,rfl,rfl,_,func111,aiT⟩
end
