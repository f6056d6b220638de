/-
  The walk of broker's work (layer 20). Conditions: none.
-/
import Derived.Test.YtfndfpdhlbmboaaGreatMa20
import Derived.Test.YtfndfpdhlbmboaaGreatMz
set_option maxRecDepth 100000
set_option linter.constructorNameAsVariable false
set_option maxHeartbeats 16000000
set_option linter.unusedVariables false
set_option linter.unusedSimpArgs false
namespace Go.Proofs.YtfndfpdhlbmboaaGreat
open Go Go.RowKit _root_.Go.Proofs.Tryz
theorem adx{s y}:∀ {l:List aK} {p:List aK×List aK},(y∈(l.foldl (mO s) p).1->y∈p.1∨y∈l)/\(y∈(l.foldl (mO s) p).2->y∈p.2∨y∈l):=by
 intro l
 induction l with
 | nil=>intro p;exact⟨.inl,.inl⟩
 | cons x l j =>
  grind [mO]
theorem bD.open'{B}(j:bD B):(∀x∈(oQ B.st B.waits (mo B)).1,bK x=true/\cD x)/\(∀x∈(oQ B.st B.waits (mo B)).2,bK x=true/\cD x)/\(oQ B.st B.waits (mo B)).1.length<=1000000/\(oQ B.st B.waits (mo B)).2.length<=16:=by
 have h:=adr B.st (mo B) (B.waits,[]);have:=j.yB;have:=adu B;refine⟨λx t=>?_,λx t=>?_,?_,?_⟩
 ·rcases adx.1 t with h|h
  ·exact j.waits x h
  ·exact j.asks h
 ·rcases adx.2 t with h|h
  ·simp at h
  ·exact j.asks h
 ·grind [oQ]
 ·grind [oQ]
theorem Hr{l:List aK}:∀ {B:bj},bD B->(∀x∈l,cD x)->bD (l.foldl (λb x=>(mq b x).1) B)/\mT B (l.foldl (λb x=>(mq b x).1) B):=by
 induction l with
 | nil=>intro B h _;exact⟨h,mT.rf B⟩
 | cons x l u =>
  intro B h t;have j:=u (acK h (t x aj)) λy A=>t y aG
  exact⟨j.1,(acL B x).tr j.2⟩
theorem ar3{kids p x}(h:bD p.1)(j:cD x):bD (kJ kids p x).1/\mT p.1 (kJ kids p x).1/\(∀y∈(kJ kids p x).2,y∈p.2∨y=x)/\(kJ kids p x).2.length<=p.2.length+1:=by
 have t:eu (ar x):=⟨j.2.1,j.2.2.2.1,j.2.2.2.2.1⟩
 have u:∀y∈p.2++[x],y∈p.2∨y=x:=λy A=>aG
 unfold kJ
 grind [acK,acL,mT.rf,aqC,aqD]
theorem Kl{kids}{l:List aK}:∀ {p:bj×List aK},bD p.1->(∀x∈l,cD x)->bD (l.foldl (kJ kids) p).1/\mT p.1 (l.foldl (kJ kids) p).1/\(∀y∈(l.foldl (kJ kids) p).2,y∈p.2∨y∈l)/\(l.foldl (kJ kids) p).2.length<=p.2.length+l.length:=by
 induction l with
 | nil=>intro p h _;exact⟨h,mT.rf _,λy j=>.inl j,aj⟩
 | cons x l B =>
  intro p h A;have t:=ar3 (kids:=kids) (x:=x) h (A x aj);have u:=B (p:=kJ kids p x) t.1 λy j=>A y aG
  refine⟨u.1,t.2.1.tr u.2.1,λy j=>?_,?_⟩;all_goals grind
theorem Km{B}(y:bD B):bD (gZ B):=by
 have u:=y.open';unfold gZ;split
 ·have A:=Hr y λx t=>(u.2.1 x t).2
  have j:=Kl (kids:=dy B) (p:=(zK B,[])) A.1 λx t=>(u.1 x t).2
  exact⟨j.1.tr,j.1.me,j.1.hm,j.1.dk,j.1.tx,j.1.calls,j.1.bQ,j.1.told,j.1.fe,λx t=>by
   rcases j.2.2.1 x t with h|h
   ·simp at h
   ·exact u.1 x h,by
   exact bn (show (oV B).2.length<=0+(oQ B.st B.waits (mo B)).1.length from j.2.2.2) (by have:=u.2.2.1;omega)⟩
 ·exact y
theorem ar4{B B'}(h:mT B B'):dy B'=dy B:=by unfold dy oU i7;rw[h.me,h.par,h.bQ]
theorem awU{op kids x}(j:x∈op):bT (D3 op kids) (ar x)=decide (iZ kids (ar x)=1):=by
 grind [bT,D3,ar,iZ]
theorem aya{op kids x}(j:x∈op):dG (Cm op kids) (ar x)=decide (iZ kids (ar x)=2):=by
 grind [dG,Cm,ar,iZ]
def Re(M:Nat->Prop)(op u:List aK)(v:Value)(W:World):Prop:=∃t j,v=.tuple #[t,j]/\Fx M (λW=>aq aU op t W) W/\Fx M (λW=>aq aU u j W) W
theorem ahG M op j:∀v w w',Re M op j v w->Below w.heap.size w w'->Re M op j v w':=by rintro v w w'⟨u,A,e,t,y⟩ k;exact⟨u,A,e,t.k k,y.k k⟩
def GW(M:Nat->Prop)(l:List aK)(v:Value)(W:World):Prop:=Fx M (λW=>aq aU l v W) W
theorem Lo M l:∀v w w',GW M l v w->Below w.heap.size w w'->GW M l v w':=λ_ _ _ h k=>Fx.k h k
theorem acd{M p B w}(h:bA M p B w)(hG:bD B) :
 Calls prog 87 #[.pointer (some ⟨p.g,0,none⟩)] w λe w'=>e=.returned (.tuple #[])/\dC M p (gZ B) w w':=by
 have HR:Hid (gZ B=if mQ B then { (oV B).1 with waits:=(oV B).2 }else B):=ae rfl
 have ZP:Hid (zK B=(oQ B.st B.waits (mo B)).2.foldl (λb x=>(mq b x).1) B):=ae rfl
 have HWD:Hid (oV B=(oQ B.st B.waits (mo B)).1.foldl (kJ (dy B)) (zK B,[])):=ae rfl
 have L:=ae hG.open'
 have H:=ae h
 have HG:=ae hG
 have iz:=hG.DD
 have C0:=ae (OG h)
 have C1:=ae λW (k:K w W)=>acb (h.st k) hG
 have C2:=ae λW (k:K w W) va (ha:aq aU (mo B) va W)=>aqA B.st B.waits (mo B) p.vl p.vq p.va p.vw va W ⟨_,_,_,rfl,(h.bI.at k).list,(h.bI.at k).prom,(h.bI.at k).ab⟩ (h.bI.at k).waits ha iz.2.2 (λx t=>uy (hG.asks t).1) ⟨Br,Br⟩ hG.yB (by have:=adu B;omega)
 have HM:=ae h.low
 have hs1:=aw h.bI.now.list
 have fC:=aw h.bI.now.prom
 have eU:=aw h.bI.now.ab
 have hs4:=aw h.bI.now.waits
 have q:=h.q
 obtain⟨op,hop⟩:∃op,op=(oQ B.st B.waits (mo B)).1:=⟨_,rfl⟩
 obtain⟨A,vO⟩:∃A,A=(oQ B.st B.waits (mo B)).2:=⟨_,rfl⟩
 simp only[<- hop,<- vO]at C2 L ZP HWD
 clear hop vO iz h hG
 generalize My:gZ B=WB at *
 clear My
 obtain⟨g,gl,gd,gr,gt,vd,vr,vp,vh,vl,vq,va,vt,jN,vw,kr⟩:=p
 simp only at q C1 C2 hs1 fC eU hs4
 obtain⟨Al,cl,rfl⟩:=hs1
 obtain⟨Aq,cq,rfl⟩:=fC
 obtain⟨Aa,ca,rfl⟩:=eU
 obtain⟨Aw,cw,rfl⟩:=hs4
 go_enter func87,ntmps87
 go_wp2
 go_step3
 go_wp2_with fail
 apply bF C0.aa
 intro w1 J
 clear C0
 cases ajD:mQ B
 ·have HF:Hid (WB=B):=ae ahH;have HN:=ae (H.aa.n J);clear HR;go_wp2;rw[gq];refine bodyPost_ret (results_none rfl _ _ _) rfl ?_;exact WC
 have Jq:Hid (WB={ (oV B).1 with waits:=(oV B).2 }):=ae ahH
 have q1:=λW (k:K w1 W)=>q W (J.tr k)
 clear HR q ajD
 go_upto_region 2 with (fail)
 have qs:=q1
 refine dD 16 [([],[]),([0],[(23,0)]),([1],[(24,1)]),([2],[(25,2)]),([],[]),([4],[(27,4)]),([5],[(28,5)]),([6],[(29,6)]),([],[]),([8],[(31,8)]),([3,7,9],[(26,3),(30,7),(32,9)]),([10],[(33,10)]),([11],[(22,11)]),([11],[(22,11)]),([12],[(34,12)]),([13],[(35,13)])] 94 ?_
 iterate 9 refine au.i ?_
 refine au.op (GW M (mo B)) (Lo _ _) (λV W kW hp=>?_) ?_
 ·(try simp only[cd,aO,aQ,bW,bY,aJ]at hp)
  simp[bP,aE,List.lookup,hp,cN,execOp,aF,q1,go_sem];apply lQ (C1.aa W (J.tr kW));rintro v4 w4⟨T,k4⟩;exact⟨_,rfl,T,k4⟩
 refine au.op (Re M op A) (ahG _ _ _) (λV W kW hp=>?_) ?_
 ·simp only[cd,aO,aQ,bW,bY,aJ]at hp;obtain⟨e3,e7,h9,-⟩:=hp;simp[bP,aE,List.lookup,e3,e7,cN,execOp,aF,go_sem];refine (C2.aa W (J.tr kW) (V 9) (Fx.now h9)).mono ?_;rintro e w4⟨v1,v2,rfl,hT,k4⟩;refine⟨_,rfl,⟨v1,v2,rfl,?_,?_⟩,k4⟩
  ·exact (hT.a.less (Y':=M) λk hk=>.inl (bz (HM.aa k hk) (J.tr kW).size)).fx λk hk=>bz (HM.aa k hk) (J.tr kW).size
  ·exact (hT.b.less (Y':=M) λk hk=>.inl (bz (HM.aa k hk) (J.tr kW).size)).fx λk hk=>bz (HM.aa k hk) (J.tr kW).size
 refine au.op (Re M op A) (ahG _ _ _) (λV W kW hp=>?_) ?_
 ·simp only[cd,aO,aQ,bW,bY,aJ]at hp;obtain⟨⟨v1,v2,e,h1,h2⟩,-⟩:=hp;simp[bP,aE,List.lookup,e,cN,execOp,aF,cM,go_sem];exact⟨v1,v2,rfl,h1,h2⟩
 refine au.op (GW M op) (Lo _ _) (λV W kW hp=>?_) ?_
 ·simp only[cd,aO,aQ,bW,bY,aJ]at hp;obtain⟨⟨v1,v2,e,h1,h2⟩,-⟩:=hp;simp[bP,aE,List.lookup,e,cN,execOp,aF,cM,go_sem];exact h1
 refine au.op (GW M A) (Lo _ _) (λV W kW hp=>?_) ?_
 ·simp only[cd,aO,aQ,bW,bY,aJ]at hp;obtain⟨⟨v1,v2,e,h1,h2⟩,-⟩:=hp;simp[bP,aE,List.lookup,e,cN,execOp,aF,cM,go_sem];exact h2
 refine au.op (GW M op) (Lo _ _) (λV W kW hp=>?_) ?_
 ·exact ahI
 refine au.op (GW M A) (Lo _ _) (λV W kW hp=>?_) ?_
 ·exact ahI
 clear qs
 intro V W kW hA
 simp only[aO,aQ,cz,aJ,Nat.reduceAdd]at hA
 refine aH.h ?_
 obtain⟨-,-,-,-,-,-,-,-,-,-,-,-,-,-,h14,GX,-⟩:=hA
 have kA:=J.tr kW
 have hb0:=H.aa.st kA
 have ZQ:=Fx.fix h14 ay QF
 have ZR:=Fx.fix GX ay QF
 generalize V 14=v14 at *
 generalize V 15=v15 at *
 obtain⟨A4,c4,rfl⟩:=ZQ.slice
 obtain⟨A5,c5,rfl⟩:=ZR.slice
 have Sv:=ae ZQ
 have s6:=ae ZR
 have xA:=ae hb0
 have xf:=hb0.n (K.rf W)
 have SC:=ae kA
 have hlb:=L.aa.2.2.2
 have dB:=L.aa.2.2.1
 clear h14 GX ZQ ZR C1 C2 q1 kW J hb0 kA
 go_wp2_with fail
 go_loopw [7,38] (fun _ i wr=>∃j:Nat,j<=A.length/\i=.int .i64 (j:Int)/\dC M ⟨g,gl,gd,gr,gt,vd,vr,vp,vh,.slice Al B.st.list.length cl,.slice Aq B.st.prom.length cq,.slice Aa B.st.ab.length ca,vt,jN,.slice Aw B.waits.length cw,kr⟩ ((A.take j).foldl (fun b x=>(mq b x).1) B) W wr) (fun _ i _=>A.length-(intOf i).toNat)
 case atStart=>exact⟨0,af,rfl,by simpa using xf⟩
 case round =>
  clear xf;obtain⟨j,hj,rfl,p',D,u,E,G⟩:=hrel;by_cases N:j<A.length
  ·have aP:(j:Int)<(A.length:Int):=af;obtain⟨b1,o1,c1,cs1,Z,dA,hcl,T,hcell⟩:=s6.aa.at j N ay;injection Z with Z _ fD;subst Z fD;have HF:=ae (fold_succ (λb x=>(mq b x).1) A B j N);have hm:=L.aa.2.1 _ (bS N);have O:=Hr HG.aa (l:=A.take j) λx t=>(L.aa.2.1 x (lM t)).2
   generalize A[j]=x at *;generalize (A.take j).foldl (λb x=>(mq b x).1) B=Bj at *;have uM:=u.more xA.aa.sub;have oO:=hcell wr uM;obtain⟨vf,Y,rfl,hf,he⟩:=T wr uM;have q9:∀i,i<8->wr.cell? ⟨b1,o1+j*8+i,none⟩=(aD x vf Y)[i]?:=λi hi=>(oO i hi).trans Array.getElem?_toList
   have q0:wr.cell? ⟨b1,o1+j*8,none⟩=some (.int .i64 x.kind):=q9 0 ay;have HE:Hid (∀W,K wr W->cV x (.agg (aD x vf Y)) W):=ae λW k=>⟨_,_,rfl,eH _ _ _ _ hf k,bo he k⟩
   have t:=ah.new wr 126 (aD x vf Y);have k3:=t.aS;obtain⟨Af,cf,rfl⟩:=b6 hf;obtain⟨Ae,ce,rfl⟩:=aw he;clear hcell oO T hcl dA hf he;go_upto_region 6 with (fail);generalize wr.alloc _=w3 at *;clear q9 q0;have q8:=t.cell;have R:=ae (ab4 (D.st k3) O.1 x _ (HE.aa w3 k3) hm.2 (uy hm.1));simp only[AW E]at R;have u3:=u.tr (ag.aT k3 _);have Bb:=ae G;have xB:=ae E;clear D O E G;go_wp2_with fail
   apply bF R.aa;intro w4 U;have ze:=dC.tr u3 xB.aa Bb.aa (λk hk=>.inl hk) U;rw[<- HF.aa]at ze;clear R q8 t U;go_wp2;go_roundw
   case rel=>exact⟨j+1,af,bJ,ze⟩
   case measure=>simp[intOf];omega
  ·have aP:¬(j:Int)<(A.length:Int):=af;obtain rfl:j=A.length:=af;rw[lL,<- ZP.aa]at D;have hg1:=Hr HG.aa (l:=A) λx t=>(L.aa.2.1 x t).2
   rw[<- ZP.aa]at hg1;obtain⟨hg1,hs1⟩:=hg1;have az5:=ae (ar4 hs1);generalize zK B=B1 at *;have R:=ae (TW D hg1);rw[az5.aa]at R;simp only[AW E]at R;have pg:=adv HG.aa;have Nl:∀m∈dy B,m.cK.length<=1000000:=λm hm=>by have:=(HG.aa.last hm).2.1;omega
   have az6:=ae (λW' (k:K wr W')=>bo ((Sv.aa.fx ay) wr (u.more xA.aa.sub)) k);have MQ:=ae hg1;have GK:=ae D;have Bb:=ae G;have xB:=ae E;have ru:=λx t=>uy (L.aa.1 x t).1
   have C4:=ae λW' (k:K wr W') vk (hk:aq xJ (dy B) vk W')=>apF op (dy B) _ vk W' (az6.aa W' k) hk ru dB af Nl
   clear D hg1 hs1 G E Nl ru;go_wp2_with fail
   apply lQ R.aa;rintro vk w6⟨hFk,k6⟩;have GY:=hFk.now;have C5:=ae (C4.aa w6 k6 vk GY);obtain⟨Ak,ck,rfl⟩:=aw GY;clear R C4 hFk GY;go_wp2_with fail
   refine C5.aa.mono ?_;rintro e C⟨vy,vn,vz,rfl,JL,GY,k7⟩;have Ez:=k6.tr k7;have hB7:=GK.aa.st Ez;have hBl:=GK.aa.low;have u7:=u.tr (ag.aT Ez _);have xg:=k6.size;have HL7:Hid (iX (λk=>M k∨bw p' k) aU op (.slice A4 op.length c4) C):=ae (Sv.aa.to u7 xA.aa.sub (λk hk t=>by
    rcases t with h|h
    ·exact h
    ·exact xA.aa.sub k ((Bb.aa k h).resolve_right af)) ay)
   have HY:=ae JL;have HN:=ae GY;have HBS:=ae (λk (hk:bw p' k)=>bz (hBl k (.inr hk)) xg);obtain⟨Ay,cy,hy⟩:=aw JL.now;obtain⟨An,cn,hn⟩:=aw GY.now;subst hy hn;have Zk:(D3 op (dy B)).length<=1000000:=bn (ll _ _) dB;have hnl:(Cm op (dy B)).length<=1000000:=by unfold Cm;rw[List.length_map];exact bn (ll _ _) dB
   have JG:=ae u7;have ry:bA (λk=>((M k∨bw p' k)∨(Value.slice none 0 0).ownBlock=some k)∨bw p' k) p' B1 C:=hB7.less (λk hk=>.inr hk) λk hk=>by
    rcases hk with (h|h)|h
    ·exact h
    ·simp[Value.ownBlock]at h
    ·exact .inr h
   have ij:=aA.nil (λk=>(M k∨bw p' k)∨C.heap.size<=k) C.heap.size 126 aU C;clear C5 JL GY k7 hB7 hBl u u7;go_wp2_with fail
   go_step3;go_wp2_with fail
   go_loopw [11,13,14,56] (fun o _ _ i wr=>∃(j:Nat) (p'':nr),j<=op.length/\i=.int .i64 (j:Int)/\bA (fun k=>((M k∨bw p' k)∨o.ownBlock=some k)∨bw p'' k) p'' ((op.take j).foldl (kJ (dy B)) (B1,[])).1 wr/\ag (bw p') C wr/\p''.key=(g,gd)/\(∀k,bw p'' k->bw p' k∨C.heap.size<=k)/\(∀k,o.ownBlock=some k->¬bw p'' k)/\aA (fun k=>(M k∨bw p' k)∨C.heap.size<=k) C.heap.size 126 aU ((op.take j).foldl (kJ (dy B)) (B1,[])).2 o wr) (fun _ _ _ i _=>op.length-(intOf i).toNat)
   case atStart=>exact⟨0,p',af,rfl,ry,ag.rf _ _,xB.aa,λk hk=>.inl hk,λk hk=>ahE,ij⟩
   case round =>
    clear ry ij;obtain⟨j,p2,hj,rfl,D,u,E,G,JM,I⟩:=hrel;by_cases N:j<op.length
    ·have aP:(j:Int)<(op.length:Int):=af;obtain⟨b1,o1,c1,cs1,Z,dA,hcl,T,hcell⟩:=HL7.aa.at j N ay;injection Z with Z _ fD;subst Z fD;have JN:=ae (fold_succ (kJ (dy B)) op (B1,[]) j N);have hm:=L.aa.1 _ (bS N);have hyh:=awU (kids:=dy B) (bS N);have Nr:=aya (kids:=dy B) (bS N);have O:=Kl (kids:=dy B) (p:=(B1,[])) (l:=op.take j) MQ.aa λx t=>(L.aa.1 x (lM t)).2
     have Sw:=O.2.2.2;replace O:=O.1;generalize op[j]=x at *;generalize (op.take j).foldl (kJ (dy B)) (B1,[])=Q at *;obtain⟨P',gL⟩:∃P',Hid (P'=(op.take (j+1)).foldl (kJ (dy B)) (B1,[])):=⟨_,ae rfl⟩;replace JN:Hid (P'=kJ (dy B) Q x):=ae (gL.aa.trans JN.aa);obtain⟨Bj,lj⟩:=Q;simp only at D I O Sw;have uM:ag (λk=>M k∨bw p' k) C wr:=u.more λk hk=>.inr hk
     have oO:=hcell wr uM;obtain⟨vf,Y,rfl,hf,he⟩:=T wr uM;have jD:Fx (λk=>(M k∨bw p' k)∨C.heap.size<=k) (λW=>aU.rel x (aD x vf Y).toList W) wr:=T.to uM (λ_ h=>h) λk hk t=>t.resolve_right af
     have q9:∀i,i<8->wr.cell? ⟨b1,o1+j*8+i,none⟩=(aD x vf Y)[i]?:=λi hi=>(oO i hi).trans Array.getElem?_toList
     have q0:wr.cell? ⟨b1,o1+j*8,none⟩=some (.int .i64 x.kind):=q9 0 ay;have HE:Hid (∀W,K wr W->cV x (.agg (aD x vf Y)) W):=ae λW k=>⟨_,_,rfl,eH _ _ _ _ hf k,bo he k⟩
     have t:=ah.new wr 126 (aD x vf Y);have k3:=t.aS;have bR:=I.blk;obtain⟨Af,cf,rfl⟩:=b6 hf;obtain⟨Ae,ce,rfl⟩:=aw he;obtain⟨Ao,co,rfl⟩:=I.slice;have SD:=ae jD;have jl:=u.size;have HYr:=ae (λW' (k:K wr W')=>bo (HY.aa wr (u.more HBS.aa)) k);have HNr:=ae (λW' (k:K wr W')=>bo (HN.aa wr (u.more HBS.aa)) k);have ZS:=ae D;have SE:=ae u;have Rf:=ae E;have GZ:=ae G;have zf:=ae JM;have HOr:=ae I;have Zc:=ae bR;clear hcell oO T hcl dA hf he jD uM D u E G JM I bR;go_upto_region 13 with (fail);generalize wr.alloc _=w8 at *;obtain⟨ga,lG⟩:∃ga,Hid (ga=wr.heap.size):=⟨_,ae rfl⟩;rw[<- lG.aa]at t⊢;clear q9 q0;have C6:=ae (OH (D3 op (dy B)) _ (gN (ar x)) 143 #[.pointer (some ⟨ga,0,none⟩)] w8 (HYr.aa w8 k3) Zk (λ_ _=>fk) (λW k y _ u hu=>aqw y x u _ _ ga W hu (t.av k)));have GV:Hid ((D3 op (dy B)).any (gN (ar x))=decide (iZ (dy B) (ar x)=1)):=ae hyh;rw[GV.aa]at C6;clear hyh GV;go_wp2_with fail
     apply oX C6.aa k3;intro w9 k9 uo;have nj:=t.av k9;have q8:=nj.cell;have Zq:=HE.aa w9 uo;have sZ:=ZS.aa.st uo;have jA:=kg Rf.aa;have Yq:=adw (dy B) (ar x);have SF:Hid (P'=if iZ (dy B) (ar x)=1 then (if (mq Bj x).2 then ((mq Bj x).1,lj)else (Bj,lj++[x]))else if iZ (dy B) (ar x)=2 then (if (nA Bj (ar x)).2 then ((nA Bj (ar x)).1,lj)else (Bj,lj++[x]))else (Bj,lj++[x])):=ae JN.aa;clear C6 t JN;generalize iZ (dy B) (ar x)=sx at *;rcases Yq with rfl|rfl|rfl
     ·have HQ:Hid (P'=(Bj,lj++[x])):=ae WD;have F:=ae λW (k:K w9 W)=>E3 (Cm op (dy B)) (ar x) _ W (HNr.aa W (uo.tr k)) hnl
      rw[Nr]at F;clear SF Nr;go_wp2_with fail
      apply oX (F.aa w9 (K.rf _)) uo;intro sk G0 Rg;have yC:=ZS.aa.st Rg;have uR:=SE.aa.tr (ag.aT Rg _);have D8:=Rf.aa;have Eb:=GZ.aa;have DU:=zf.aa;have mZ:=HOr.aa.st Rg;clear F jA;have L8:=nj.av G0;have Ns:=L8.cell;have ZT:=ae (SD.aa.k Rg);have kA:=K.new sk (.cells (aD x (.slice Af x.f.length cf) (.slice Ae x.es.length ce)) 126);have ER:=mZ.st kA;have Rh:=mZ.blk;have hr:=ew.new (S:=aU) (e:=126) (v:=.agg (aD x (.slice Af x.f.length cf) (.slice Ae x.es.length ce))) ZT.aa 0 (eV _);have Ma:=yC.st kA;have Yr:=uR.size;have zh:=ae (And.intro yC (And.intro uR (And.intro D8 (And.intro Eb (And.intro DU mZ)))));have I1:=ae Ma;have az7:lj.length<=1000000:=by simp at Sw;omega
      clear yC uR D8 Eb DU mZ Ma sZ q8;go_wp2_with (at_builtin;refine jt rfl _ _ 43 rfl _ 8 96 oH rfl rfl ER _ rfl x ?p1 ?p2 ?p3 ?_)
      case p1 => exact ahJ
      case p2=>omega
      case p3=>exact bn Yr kA.size
      intro v11 Bc zX xc FK I2;have akm:=ae zX;have hBw:bA (λk=>((M k∨bw p' k)∨v11.ownBlock=some k)∨bw p2 k) p2 Bj Bc:=I1.aa.far (X:=λk=>(Value.slice Ao lj.length co).ownBlock=some k) (ag.eM xc λk e=>e) (λk hk=>.inl (.inr hk)) (λk hk=>zh.aa.2.2.2.2.1 k hk) (λk hk h=>by
       rcases h with (h|h)|h
       ·exact .inl (.inl h)
       ·exact ahK
       ·exact .inr h) (λk hk=>.inr hk) (λk hk=>by
        rcases hk with (h|h)|h
        ·exact ahL
        ·exact (zX.blk k h).2
        ·exact bz (I1.aa.low k (.inr h)) xc.size)
      have Lz:∀k,v11.ownBlock=some k->¬bw p2 k:=λk hk h=>by exact ahM
      have u11:=(zh.aa.2.1.tr (ag.aT kA _)).gg (ag.eM (X:=λk=>(Value.slice Ao lj.length co).ownBlock=some k) xc λk e=>e) λk hk h=>by have:=(Rh k h).1;omega
      have HH:=ae (And.intro hBw (And.intro u11 (And.intro zh.aa.2.2.1 (And.intro zh.aa.2.2.2.1 Lz))));clear hBw u11 Lz hr ER zX xc FK I2 Ns L8;go_wp2;go_roundw
      case rel=>exact⟨j+1,p2,af,bJ,WE,HH.aa.2.1,HH.aa.2.2.1,HH.aa.2.2.2.1,HH.aa.2.2.2.2,ahN⟩
      case measure=>simp[intOf];omega
     ·have F:=ae (ab4 (M:=λk=>((M k∨bw p' k)∨(Value.slice Ao lj.length co).ownBlock=some k)∨bw p2 k) sZ O x _ Zq hm.2 (uy hm.1));simp only[jA]at F;have nO:Hid ((mq Bj x).2=false->(mq Bj x).1=Bj):=ae aeb;clear Nr jA;generalize mq Bj x=LB at *;obtain⟨L1,L2⟩:=LB;simp only at F nO SF;go_wp2_with fail
      apply bF F.aa;intro sk U;obtain⟨p3,ou,u3,ix,Nt⟩:=U;have nt:=uo.size;have uR:=(SE.aa.tr (ag.aT uo _)).gg u3 λk hk h=>(GZ.aa k h).resolve_right af
      have Eb:∀k,bw p3 k->bw p' k∨C.heap.size<=k:=λk hk=>by exact ahO
      have DU:∀k,(Value.slice Ao lj.length co).ownBlock=some k->¬bw p3 k:=λk hk h=>by exact ahP
      have mZ:=(HOr.aa.st uo).to (Y':=λk=>(M k∨bw p' k)∨C.heap.size<=k) u3 (λk hk=>(GZ.aa k hk).imp .inr id) (λk hk h=>zf.aa k hk h) λk _ hk=>.inl hk
      have yC:bA (λk=>((M k∨bw p' k)∨(Value.slice Ao lj.length co).ownBlock=some k)∨bw p3 k) p3 L1 sk:=ou.less (λk hk=>.inr hk) λk hk=>by exact ahQ
      have D8:=ix.trans Rf.aa;clear F;exact ahR
     ·have F:=ae λW (k:K w9 W)=>E3 (Cm op (dy B)) (ar x) _ W (HNr.aa W (uo.tr k)) hnl
      rw[Nr]at F;clear Nr;go_wp2_with fail
      apply bF (F.aa w9 (K.rf _));intro ZU ZV;replace uo:=uo.tr ZV;replace nj:=nj.av ZV;replace q8:=nj.cell;replace sZ:=sZ.st ZV;have C8:=ae (aoX (M:=λk=>((M k∨bw p' k)∨(Value.slice Ao lj.length co).ownBlock=some k)∨bw p2 k) sZ O (ar x) ⟨hm.2.2.1,hm.2.2.2.2.1,hm.2.2.2.2.2.1⟩);simp only[jA]at C8;have nO:Hid ((nA Bj (ar x)).2=false->(nA Bj (ar x)).1=Bj):=ae λh=>by
       unfold nA at h⊢;split
       ·rename_i hh;rw[if_pos hh]at h;cases h
       ·rfl
      clear jA F;generalize nA Bj (ar x)=LB at *;obtain⟨L1,L2⟩:=LB;simp only at C8 nO SF;go_wp2_with fail
      apply bF C8.aa;intro sk U;obtain⟨p3,ou,u3,ix,Nt⟩:=U;have nt:=uo.size;have uR:=(SE.aa.tr (ag.aT uo _)).gg u3 λk hk h=>(GZ.aa k h).resolve_right af
      have Eb:∀k,bw p3 k->bw p' k∨C.heap.size<=k:=λk hk=>by exact ahO
      have DU:∀k,(Value.slice Ao lj.length co).ownBlock=some k->¬bw p3 k:=λk hk h=>by exact ahP
      have mZ:=(HOr.aa.st uo).to (Y':=λk=>(M k∨bw p' k)∨C.heap.size<=k) u3 (λk hk=>(GZ.aa k hk).imp .inr id) (λk hk h=>zf.aa k hk h) λk _ hk=>.inl hk
      have yC:bA (λk=>((M k∨bw p' k)∨(Value.slice Ao lj.length co).ownBlock=some k)∨bw p3 k) p3 L1 sk:=ou.less (λk hk=>.inr hk) λk hk=>by exact ahQ
      have D8:=ix.trans Rf.aa;clear C8;exact ahR
    ·have aP:¬(j:Int)<(op.length:Int):=af;obtain rfl:j=op.length:=af;rw[lL,<- HWD.aa]at D I;have uf:=JG.aa.gg u λk hk h=>(Bb.aa k h).resolve_right af
     have Cx:=JG.aa.size;have ZW:∀k,bw p2 k->bw ⟨g,gl,gd,gr,gt,vd,vr,vp,vh,.slice Al B.st.list.length cl,.slice Aq B.st.prom.length cq,.slice Aa B.st.ab.length ca,vt,jN,.slice Aw B.waits.length cw,kr⟩ k∨W.heap.size<=k:=λk hk=>by
      rcases G k hk with h|h
      ·exact Bb.aa k h
      ·exact .inr af
     obtain⟨Ao,co,rfl⟩:=I.slice;have bR:=I.blk;have hMl:=HM.aa;have mI:=SC.aa.size;have akn:iX (λk=>M k∨bw p2 k) aU (oV B).2 _ wr:=I.GM (λk hk=>by
      rcases hk with h|h
      ·exact .inl (.inl (.inl h))
      ·rcases G k h with h|h
       ·exact .inl (.inl (.inr h))
       ·exact .inl (.inr h)) (λk hk h=>by
        rcases h with h|h
        ·have:=hMl k h;have:=(bR k hk).1;have:=JG.aa.size;omega
        ·exact JM k hk h)
     have hb2:bA (λk=>M k∨bw p2 k) p2 (oV B).1 wr:=D.less (λk hk=>.inr hk) λk hk=>by
      rcases hk with h|h
      ·exact .inl (.inl (.inl h))
      ·exact .inr h
     have hfin:=hb2.azL (akn.fx ay);have u9:ag (bw p2) wr (wr.setCell ⟨p2.g,13,none⟩ (.slice Ao (oV B).2.length co)):=ag.bL (X:=bw p2) (.inl rfl) 13 _;have HF:Hid (∀W9,W9=wr.setCell ⟨p2.g,13,none⟩ (.slice Ao (oV B).2.length co)->bA (λk=>M k∨bw p2 k) { p2 with vw:=.slice Ao (oV B).2.length co } { (oV B).1 with waits:=(oV B).2 } W9):=ae λW9 e=>e▸hfin
     rw[kg E]at u9;have Gx:=ae (uf.gg u9 λk hk h=>(ZW k h).resolve_right af);have HX9:=ae ZW;have ako:=ae E;have qg:=hb2.blk.cell;have zg:=hb2.blk.frozen;rw[kg E]at qg zg;clear D G JM I bR hMl mI akn hb2 hfin u9 uf ZW E u Cx;go_wp2;first|go_end0|(rw[Exit.noGoto_normal];go_end0)|(simp only[Exit.noGoto];go_end0)
     refine⟨rfl,?_⟩;rw[Jq.aa];have U:dC M ⟨g,gl,gd,gr,gt,vd,vr,vp,vh,.slice Al B.st.list.length cl,.slice Aq B.st.prom.length cq,.slice Aa B.st.ab.length ca,vt,jN,.slice Aw B.waits.length cw,kr⟩ { (oV B).1 with waits:=(oV B).2 } W (wr.setCell ⟨g,13,none⟩ (.slice Ao (oV B).2.length co)):=⟨{ p2 with vw:=.slice Ao (oV B).2.length co },HF.aa _ (by rw[kg ako.aa]),Gx.aa,ako.aa,HX9.aa⟩;exact U.y4 SC.aa λk hk=>HM.aa k (xA.aa.sub k hk)
structure s9(M:Nat->Prop)(p:nr)(w w9:World)(o9:Value)(p2:nr)(B:bj)(l:List aR)(o:Value)(W:World):Prop where
 br:bA (λk=>(M k∨o.ownBlock=some k)∨bw p2 k) p2 B W
 uw:ag (bw p) w W
 u9:ag (λk=>bw p k∨o9.ownBlock=some k) w9 W
 key:p2.key=p.key
 new:∀k,bw p2 k->bw p k∨w9.heap.size<=k
 no:∀k,o.ownBlock=some k->¬bw p2 k
 SG:∀k,o.ownBlock=some k->o9.ownBlock=some k∨w9.heap.size<=k
 own:aA (λ_=>True) w.heap.size 26 b5 l o W
 hz:w.heap.size<=w9.heap.size
 low:∀k,bw p k->k<w.heap.size
 Ri:∀k,M k->k<w.heap.size
section
variable {M:Nat->Prop} {p p2:nr} {w w9 W W':World} {o9 o:Value} {B B':bj} {l l':List aR}
theorem aA.ajE{Y base e}(h:aA Y base e b5 l o W):aA (λ_=>True) base e b5 l o W:=by obtain⟨css,j,u,t⟩:=h;exact⟨css,j,u,λ_ _=>t W (ag.rf _ _)⟩
theorem aA.akp{N base e}(h:aA (λ_=>True) base e b5 l o W)(u:ag N W W')(A:∀k,o.ownBlock=some k->¬N k):aA (λ_=>True) base e b5 l o W':=by obtain⟨css,j,y,C⟩:=h;exact⟨css,iK j u A,y,λB t=>C B ((u.more λ_ _=>.inl trivial).tr t)⟩
theorem s9.start(h:bA M p B w)(k:K w w9)(A:aA (λ_=>True) w.heap.size 26 b5 l o9 w9):s9 M p w w9 o9 p B l o9 w9:=by
 have C:=A.blk;have y:=λk hk=>h.low k (h.sub k hk)
 refine⟨h.far (X:=λ_=>False) (ag.aT k _) (λ_ h=>h.elim) (λ_ h=>h.elim) (λj t u=>?_) (λj t=>.inr t) (λj t=>?_),ag.aT k _,ag.rf _ _,rfl,λ_ h=>.inl h,λj t u=>aG,λ_ h=>.inl h,A,k.size,y,h.low⟩
 ·rcases u with (u|u)|u
  ·exact u
  ·grind
  ·exact h.sub j u
 ·rcases t with (t|t)|t
  ·exact bz (h.low j t) k.size
  ·grind
  ·exact bz (y j t) k.size
theorem s9.st(h:s9 M p w w9 o9 p2 B l o W)(k:K W W'):s9 M p w w9 o9 p2 B l o W' :=
 ⟨h.br.st k,h.uw.tr (ag.aT k _),h.u9.tr (ag.aT k _),h.key,h.new,h.no,h.SG,h.own.st k,h.hz,h.low,h.Ri⟩
theorem s9.note(h:s9 M p w w9 o9 p2 B l o W)(A:dC (λk=>(M k∨o.ownBlock=some k)∨bw p2 k) p2 B' W W'):∃p3,s9 M p w w9 o9 p3 B' l o W':=by
 obtain⟨p3,C,u,hg,y⟩:=A;have E:=h.u9.size;have D:=h.hz;have F:=h.own.blk;refine⟨p3,C.less (λk hk=>.inr hk) (λk hk=>hk.imp .inl λh=>h),h.uw.gg u λk hk t=>(h.new k t).resolve_right af,h.u9.gg u λk hk t=>(h.new k t).imp (λh=>h) λh=>af,hg.trans h.key,λk hk=>?_,λk hk t=>?_,h.SG,h.own.akp u λk hk=>h.no k hk,h.hz,h.low,h.Ri⟩
 ·rcases y k hk with j|j
  ·exact h.new k j
  ·omega
 ·rcases y k t with j|j
  ·exact h.no k hk j
  ·grind
theorem s9.push(h:s9 M p w w9 o9 p2 B l o W){o'}(y:aA (λ_=>True) w.heap.size 26 b5 l' o' W')(hg:W.grownBy W' o.ownBlock)(C:o'.ownBlock=o.ownBlock∨o'.ownBlock=some W.heap.size):s9 M p w w9 o9 p2 B l' o' W':=by
 have u:=ag.eM hg λk e=>e
 have E:=h.own.blk;have F:=y.blk;have D:=h.u9.size;have A:∀k,o'.ownBlock=some k->o.ownBlock=some k∨W.heap.size<=k:=λk hk=>by
  grind
 refine⟨h.br.far u (λk hk=>.inl (.inr hk)) (λk hk=>h.no k hk) (λk hk j=>?_) (λk hk=>.inr hk) (λk hk=>?_),h.uw.gg u λk hk j=>aG,h.u9.gg u λk hk j=>(h.SG k j).elim .inr λh=>af,h.key,h.new,λk hk j=>?_,λk hk=>?_,y,h.hz,h.low,h.Ri⟩
 ·grind
 ·rcases hk with (hk|hk)|hk
  ·exact bz (h.br.low k (.inl (.inl hk))) u.size
  ·grind
  ·exact bz (h.br.low k (.inr hk)) u.size
 ·rcases A k hk with t|t
  ·exact h.no k t j
  ·have:=h.br.low k (.inr j);omega
 ·rcases A k hk with t|t
  ·exact h.SG k t
  ·omega
theorem s9.fin(h:s9 M p w w9 o9 p2 B l o W):dC M p { B with refused:=l } w (W.setCell ⟨p.g,11,none⟩ o):=by
 have hg:=AW h.key;have y:=h.own.blk;have A:Fx (λk=>M k∨bw p2 k) (λW=>aq b5 l o W) W:=λW' u=>(h.own.akp u λk hk j=>by
  rcases j with j|j
  ·have:=(y k hk).1;have:=h.Ri k j;omega
  ·exact h.no k hk j).aq
 have hb:bA (λk=>M k∨bw p2 k) p2 B W:=h.br.less (λk hk=>.inr hk) λk hk=>hk.imp .inl λh=>h
 have hp:=hb.azM A;rw[<- hg];have C:∀k,bw { p2 with vf:=o } k->bw p2 k:=λk hk=>hk
 refine⟨{ p2 with vf:=o },hp,h.uw.gg (ag.bL (X:=λk=>k=p2.g) rfl 11 o) λk hk e=>.inl (e.trans hg),h.key,λk hk=>?_⟩;rcases h.new k (C k hk)with t|t
 ·exact .inl t
 ·have:=h.hz;exact .inr af
end
def vK(told:List aR)(p:List aR×List aK)(x:aK):List aR×List aK:=if dG told (ar x)then (p.1++[ar x],p.2)else (p.1,p.2++[x])
theorem ayb B l:l.foldl (vK B.told) ([],[])=(tN B l,mw B l):=by
 have key:∀(l:List aK) (p:List aR×List aK),l.foldl (vK B.told) p=(p.1++tN B l,p.2++mw B l):=by
  intro l
  induction l with
  | nil=>intro p;simp[tN,mw]
  | cons x l j =>
   grind [vK,tN,mw,dG,ar]
 simpa using key l ([],[])
theorem awV told:∀(l:List aK) (p:List aR×List aK),(l.foldl (vK told) p).1.length<=p.1.length+l.length/\(l.foldl (vK told) p).2.length<=p.2.length+l.length:=by
 intro l
 induction l with
 | nil=>intro p;simp
 | cons x l j =>
  grind [vK]
theorem abK{s y}:∀ {l:List aK} {p:List aK×List aR},y∈(l.foldl (iN s) p).1->y∈p.1∨y∈l:=by
 intro l
 induction l with
 | nil=>intro p h;exact .inl h
 | cons x l j =>
  grind [iN]
theorem ady{B r}(h:(cY B r).2=false):(cY B r).1=B:=by
 grind [cY]
theorem aqE{p x}(h:bD p.1)(j:cD x):bD (iL p x).1:=by
 unfold iL;split
 ·exact Hq h ⟨Qh,Dw,j,Qh,Dw,Dw⟩
 ·exact h
theorem acM{l:List aK}:∀ {p:bj×List aR},bD p.1->(∀x∈l,cD x)->bD (l.foldl iL p).1/\(l.foldl iL p).2.length<=p.2.length+l.length:=by
 induction l with
 | nil=>intro p h _;exact⟨h,aj⟩
 | cons x l j =>
  grind [aqE,iL,eQ]
theorem aoz{M p B w}(h:bA M p B w)(hG:bD B) l va(hl:Fx M (λW=>aq aU l va W) w)(hok:∀x∈l,bK x=true/\cD x)(hlen:l.length<=16) :
 Calls prog 204 #[.pointer (some ⟨p.g,0,none⟩),va] w λe w'=>e=.returned (.tuple #[])/\dC M p (uV B l) w w':=by
 have HR:Hid (uV B l={ (sH B l).1 with refused:=(sH B l).2 }):=ae rfl
 have ZX:Hid (sH B l=(nU B.st (mw B l)).1.foldl iL (B,tN B l++(nU B.st (mw B l)).2)):=ae rfl
 have HME:=ae (ayb B l)
 have vI:=ae λj=>awV B.told (l.take j) ([],[])
 have jO:=ae hok
 have H:=ae h
 have HG:=ae hG
 have Q1:=ae λW (k:K w W) a=>(Df QX underlying160 (V1 W) (h.wm.st k) a).1
 simp only[acC]at Q1
 have JJ:=IA hl.now
 have hs1:=aw h.bI.now.list
 have fC:=aw h.bI.now.prom
 have eU:=aw h.bI.now.ab
 have hs4:=aw h.bI.now.fe
 have CP:=ae λW (k:K w W) ml vm (hm:aq aU ml vm W) (I:∀x∈ml,eB x) (h2:ml.length<=500000)=>ao0 B.st ml p.vl p.vq p.va vm W ⟨_,_,_,rfl,(h.bI.at k).list,(h.bI.at k).prom,(h.bI.at k).ab⟩ hm I ⟨Br,Br,Br⟩ h2
 have q:=h.q
 generalize uV B l=R at *
 obtain⟨g,gl,gd,gr,gt,vd,vr,vp,vh,vl,vq,vab,vt,jN,vw,kr⟩:=p
 simp only at q Q1 hs1 fC eU hs4 CP
 obtain⟨Al,cl,rfl⟩:=hs1
 obtain⟨Aq,cq,rfl⟩:=fC
 obtain⟨Ab,cb,rfl⟩:=eU
 obtain⟨Ar,cr,rfl⟩:=hs4
 obtain⟨A,c,rfl⟩:=JJ.slice
 have HLA:=ae JJ
 obtain⟨Nu,Yt⟩:∃n:Nat,Hid (n=0):=⟨0,ae rfl⟩
 have Mr:lr Nu w.heap.size 26 b5 ([]:List aR) (.slice none 0 0) 126 aU ([]:List aK) (.slice none 0 0) w:=lr.X6 (aA.nil _ _ _ _ _) (by rw[Yt.aa];exact eV _)
 have kk:=K.rf w
 clear h hG hl hok JJ
 go_enter func204,ntmps204
 go_wp2_with fail
 go_loopw [5,6,8,9,10,19] (fun o1 o2 _ _ _ i W=>∃j:Nat,j<=l.length/\i=.int .i64 (j:Int)/\lr Nu w.heap.size 26 b5 ((l.take j).foldl (vK B.told) ([],[])).1 o1 126 aU ((l.take j).foldl (vK B.told) ([],[])).2 o2 W/\K w W) (fun _ _ _ _ _ i _=>l.length-(intOf i).toNat)
 case atStart=>exact⟨0,af,rfl,by simpa using Mr,kk⟩
 case round =>
  clear Mr kk;obtain⟨j,hj,rfl,F,L⟩:=hrel;by_cases hlt:j<l.length
  ·have aP:(j:Int)<(l.length:Int):=af;obtain⟨b1,off,c1,cs1,O,dA,eJ,hF,hcell⟩:=HLA.aa.at j hlt ay;injection O with O _ fD;subst O fD;have HF:=ae (fold_succ (vK B.told) l ([],[]) j hlt);have hpl:=vI.aa j;generalize l[j]=x at *;generalize (l.take j).foldl (vK B.told) ([],[])=P at *;obtain⟨E,gL⟩:∃E,Hid (E=(l.take (j+1)).foldl (vK B.told) ([],[])):=⟨_,ae rfl⟩;replace HF:Hid (E=vK B.told P x):=ae (gL.aa.trans HF.aa);have IZ:P.1.length<=500000:=Ip;have LW:P.2.length<=500000:=Ip;obtain⟨P1,P2⟩:=P;simp only at F IZ LW;have uM:ag (λk=>w.heap.size<=k) w wr:=ag.aT L _;have oO:=hcell wr uM;have SD:=ae hF;obtain⟨vf,ve,rfl,hf,he⟩:=hF wr uM;have q9:∀i,i<8->wr.cell? ⟨b1,off+j*8+i,none⟩=(aD x vf ve)[i]?:=λi hi=>(oO i hi).trans Array.getElem?_toList
   have q0:wr.cell? ⟨b1,off+j*8,none⟩=some (.int .i64 x.kind):=q9 0 ay;have t:=ah.new wr 126 (aD x vf ve);have Y:=t.aS;obtain⟨Af,cf,rfl⟩:=b6 hf;obtain⟨Ae,ce,rfl⟩:=aw he;obtain⟨A1,c1',rfl⟩:=F.a.slice;obtain⟨A3,c3,rfl⟩:=F.b.slice;clear hcell oO hF eJ dA hf he hpl;go_upto_region 6 with (fail);have EO:=F.st Y;have cH:=L.tr Y;generalize wr.alloc _=w3 at *;clear q9 q0 F;have q8:=t.cells;have q1:=λW (k:K w3 W)=>q W (cH.tr k)
   obtain⟨vz,hvz⟩:∃vz,vz=(di (pL B.told) (ar x)).getD (.int .i64 0):=⟨_,rfl⟩;have ql:∀W,K w3 W->(Instr.lookup 160 (.map (some gt)) (.agg #[.int .i64 x.br,.int .u64 (x.life:Int),.int .u64 (x.bV:Int)]) true).run prog W=.ok (.tuple #[vz,.bool (dG B.told (ar x))]) W:=λW k=>by rw[hvz];exact Q1.aa W (cH.tr k) (ar x)
   clear hvz;have qs:=And.intro q1 (And.intro q8 ql);refine dD 12 [([],[]),([0],[(24,0)]),([1],[(25,1)]),([2],[(26,2)]),([],[]),([4],[(28,4)]),([3,5],[(27,3),(29,5)]),([6],[(30,6)]),([7],[(23,7)]),([7],[(23,7)]),([8],[(31,8)]),([9],[(32,9)])] 77 ?_;iterate 12 refine au.i ?_
   clear qs;intro V W kW hA;simp only[aO,aQ,cz,aJ,Nat.reduceAdd]at hA;refine aH.h ?_;have s7:=EO.st kW;have gK:=cH.tr kW;have bZ:=t.av kW;have J:=s7.a.blk;have eX:=s7.b.blk;clear hA EO q8 q1 ql t kW cH Y;generalize W=Q at *;have q9:=bZ.cell;cases ht:dG B.told (ar x)
   ·have HP:Hid (E=(P1,P2++[x])):=ae ahS;have jD:Fx (λk=>(k<Nu∨(Value.slice A1 P1.length c1').ownBlock=some k)∨(Value.slice A3 P2.length c3).ownBlock=some k) (λW=>aU.rel x (Value.agg (aD x (.slice Af x.f.length cf) (.slice Ae x.es.length ce))).cells.toList W) Q:=λW' u=>SD.aa W' ((ag.aT gK _).gg u λk hk h=>by
     rcases h with (h|h)|h
     ·have:=Yt.aa;omega
     ·exact (J k h).1
     ·exact (eX k h).1)
    have hr:=ew.new (S:=aU) (e:=126) (v:=.agg (aD x (.slice Af x.f.length cf) (.slice Ae x.es.length ce))) jD 0 (eV _);have U:=K.new Q (.cells (aD x (.slice Af x.f.length cf) (.slice Ae x.es.length ce)) 126);have lf:=s7.st U;have ig:=gK.tr U;have nt:=ig.size;clear s7 jD ht;go_wp2_with (at_builtin;refine jt rfl _ _ 43 rfl _ 8 96 oH rfl rfl lf.b _ rfl x ?p1 ?p2 ?p3 ?_)
    case p1=>exact hr
    case p2=>omega
    case p3=>simpa using nt
    intro v9 w9 bq bB cQ aZ;have LY:=(lf.swap.push bq bB pC).swap;exact ahT
   ·have HP:Hid (E=(P1++[ar x],P2)):=ae ahS;have hr:=ew.new (S:=b5) (e:=26) (x:=ar x) (v:=.agg (df (ar x))) (w:=Q) (N:=λk=>(k<Nu∨(Value.slice A3 P2.length c3).ownBlock=some k)∨(Value.slice A1 P1.length c1').ownBlock=some k) (λW u=>rfl) 0 (eV _);have U:=K.new Q (.cells (df (ar x)) 26);have lf:=s7.st U;have ig:=gK.tr U;have nt:=ig.size;clear s7 ht;go_wp2_with (at_builtin;refine jt rfl _ _ 44 rfl _ 3 24 vX rfl rfl lf.a _ rfl (ar x) ?p1 ?p2 ?p3 ?_)
    case p1=>exact hr
    case p2=>omega
    case p3=>simpa using nt
    intro v9 w9 bq bB cQ aZ;have LY:=lf.push bq bB pC;exact ahT
  ·have aP:¬(j:Int)<(l.length:Int):=af;obtain rfl:j=l.length:=af;rw[lL,HME.aa]at F;simp only at F;have tR:∀x∈mw B l,bK x=true/\cD x:=λx t=>jO.aa x (List.mem_filter.1 t).1
   have vT:(mw B l).length<=16:=bn (ll _ _) hlen;have hrn:(tN B l).length<=16:=by unfold tN;rw[List.length_map];exact bn (ll _ _) hlen
   have C2:=ae (CP.aa wr L (mw B l) _ F.b.aq (λx t=>uy (tR x t).1) af);have RO:∀y∈(nU B.st (mw B l)).1,bK y=true/\cD y:=λy hy=>tR y ((abK hy).resolve_left aj)
   have hpn:=aca B.st (mw B l) ([],[]);have ZY:=ae RO;obtain⟨A3,c3,e3⟩:=F.b.slice;have SH:=F.a;have ou:=λk hk=>(F.b.blk k (e3▸hk)).2
   generalize tN B l=rB at *;generalize mw B l=mB at *;have JO:(nU B.st mB).1.length<=16:=ahU;have Nv:(nU B.st mB).2.length<=16:=ahU;generalize nU B.st mB=PV at *;obtain⟨D,PV2⟩:=PV;simp only at C2 ZX ZY JO Nv;clear tR RO hpn HME vI jO aP F;have q1:=q wr L;subst e3;obtain⟨A1,c1',rfl⟩:=SH.slice;generalize wr=w5 at *;go_wp2_with fail
   refine C2.aa.mono ?_;rintro e w6⟨v1,v2,rfl,X,k6⟩;clear C2 q1;have s8:=SH.st k6;have J:=SH.blk;have p7:=L.size;have aN:=X.a.blk;have hb2:=X.b.blk;have kZ:iX (λk=>(k<Nu∨(Value.slice A3 mB.length c3).ownBlock=some k)∨(Value.slice A1 rB.length c1').ownBlock=some k) b5 PV2 v2 w6:=X.b.ajE.GM (λ_ _=>.inl trivial) λk hk t=>by
    have I:=(hb2 k hk).1;rcases t with (t|t)|t
    ·have:=Yt.aa;omega
    ·have:=s8.slice;exact absurd I (by have:=ou k t;omega)
    ·have:=(J k t).2;omega
   have JP:=L.tr k6;obtain⟨Av1,cv1,e1⟩:=X.a.slice;have akq:=X.a;clear X SH;go_wp2_with (at_builtin;refine TV rfl _ _ 44 rfl _ 3 24 vX rfl rfl s8 _ rfl kZ ?p2 ?p3 ?_)
   case p2=>omega
   case p3=>exact JP.size
   intro v9 w9 bq bB cQ aZ;have SI:=JP.trans aZ;have C:=s9.start H.aa SI bq.ajE;have u19:=ag.eM bB λk e=>e
   have rz:=akq.to (Y':=λk=>k<w5.heap.size∨w6.heap.size<=k) u19 (λk hk=>.inl (J k hk).2) (λk I h2=>by have:=(aN k I).1;have:=(J k h2).2;omega) (λk I hk=>hk.elim (λh=>.inl (.inl h)) λh=>af);have HV1:=ae (rz.GM (N:=λk=>bw ⟨g,gl,gd,gr,gt,vd,vr,vp,vh,.slice Al B.st.list.length cl,.slice Aq B.st.prom.length cq,.slice Ab B.st.ab.length cb,vt,.slice Ar B.refused.length cr,vw,kr⟩ k∨v9.ownBlock=some k) (λk hk=>.inl (by
    rcases hk with hk|hk
    ·have:=C.low k hk;exact .inl af
    ·rcases cQ with e|e
     ·exact .inl ((J k (e▸hk)).2)
     ·rw[e]at hk;injection hk with hk;exact .inr af)) λk I hk=>by
    have:=aN k I;rcases hk with hk|hk
    ·have:=C.low k hk;omega
    ·rcases cQ with e|e
     ·have:=(J k (e▸hk)).2;omega
     ·rw[e]at hk;injection hk with hk;omega)
   subst e1;obtain⟨G,Jk⟩:∃G,Hid (G=rB++PV2):=⟨_,ae rfl⟩;rw[<- Jk.aa]at bq C;have hl9:G.length<=32:=by rw[Jk.aa];simp;omega
   have az8:Hid (sH B l=D.foldl iL (B,G)):=ae (by rw[ZX.aa,Jk.aa]);obtain⟨A9,c9,rfl⟩:=bq.slice;obtain⟨P0,Es⟩:∃P0:nr,Hid (P0=⟨g,gl,gd,gr,gt,vd,vr,vp,vh,.slice Al B.st.list.length cl,.slice Aq B.st.prom.length cq,.slice Ab B.st.ab.length cb,vt,.slice Ar B.refused.length cr,vw,kr⟩):=⟨_,ae rfl⟩;rw[<- Es.aa]at C HV1;have Sb:Hid (P0.g=g):=ae (by rw[Es.aa]);clear rz akq s8 u19 bq bB cQ aZ J ou aN hb2 kZ ZX Jk H p7 k6 L JP Q1 CP q HLA;go_wp2_with fail
   go_loopw [5,14,58] (fun o _ i W=>∃(j:Nat) (p2:nr),j<=D.length/\i=.int .i64 (j:Int)/\s9 M P0 w w9 (.slice A9 G.length c9) p2 ((D.take j).foldl iL (B,G)).1 ((D.take j).foldl iL (B,G)).2 o W) (fun _ _ i _=>D.length-(intOf i).toNat)
   case atStart=>exact⟨0,P0,af,rfl,by simpa using C⟩
   case round =>
    clear C;obtain⟨j,p2,hj,rfl,C⟩:=hrel;have jA:=(AW C.key).trans Sb.aa;have HP:=ae C;by_cases hlt:j<D.length
    ·have aP:(j:Int)<(D.length:Int):=af;obtain⟨b1,o1,c1,cs1,O,dA,eJ,hF,hcell⟩:=HV1.aa.at j hlt ay;injection O with O _ fD;subst O fD;have HF:=ae (fold_succ iL D (B,G) j hlt);have hm:=ZY.aa _ (bS hlt);have um:=acM (p:=(B,G)) HG.aa (l:=D.take j) λx t=>(ZY.aa x (lM t)).2
     generalize D[j]=x at *;generalize (D.take j).foldl iL (B,G)=P at *;obtain⟨E,gL⟩:∃E,Hid (E=(D.take (j+1)).foldl iL (B,G)):=⟨_,ae rfl⟩;replace HF:Hid (E=iL P x):=ae (gL.aa.trans HF.aa);obtain⟨T,Z⟩:=P;simp only at C HP um;have hrl:Z.length<=100:=by have:=um.2;simp at this;omega
     have oO:=hcell wr C.u9;obtain⟨vf,ve,rfl,hf,he⟩:=hF wr C.u9;have q9:∀i,i<8->wr.cell? ⟨b1,o1+j*8+i,none⟩=(aD x vf ve)[i]?:=λi hi=>(oO i hi).trans Array.getElem?_toList
     have q0:wr.cell? ⟨b1,o1+j*8,none⟩=some (.int .i64 x.kind):=q9 0 ay;have t:=ah.new wr 126 (aD x vf ve);have Y:=t.aS;have sX:∀W,K wr W->pk (tM x) (.agg (eS (tM x) vf ve)) W:=λW k=>⟨_,_,rfl,eH _ _ _ _ hf k,bo he k⟩
     obtain⟨Af,cf,rfl⟩:=b6 hf;obtain⟨Ae,ce,rfl⟩:=aw he;have tV:=ae sX;obtain⟨Ao,co,rfl⟩:=C.own.slice;clear hcell oO hF eJ dA hf he sX;go_upto_region 16 with (fail);have ZZ:=C.st Y;generalize wr.alloc _=w3 at *;have hxe:¬bw p2 wr.heap.size:=λh=>by have:=C.br.low _ (.inr h);omega
     generalize s5:wr.heap.size=gx at *;clear q9 q0 C s5;have q8:=t.cell;have C3:=ae (Kc ZZ.br um.1 (tM x) _ (tV.aa w3 Y) ⟨Qh,Dw,hm.2,Qh,Dw,Dw⟩ (uy hm.1));simp only[jA]at C3;have nO:Hid ((cY T (tM x)).2=false->(cY T (tM x)).1=T):=ae ady;have Cy:Hid (E=if (cY T (tM x)).2 then ((cY T (tM x)).1,Z)else (T,Z++[ar x])):=ae HF.aa;clear jA um HF;generalize cY T (tM x)=NB at *;obtain⟨N1,N2⟩:=NB;simp only at C3 nO Cy;go_wp2_with fail
     apply bF C3.aa;intro Q hN;obtain⟨p3,Z0⟩:=ZZ.note hN;obtain⟨_,_,uN,_⟩:=hN;have bZ:=t.aX uN hxe;clear C3 q8 t uN ZZ hxe;cases N2
     ·have JM:=nO.aa rfl;subst JM;have HQ:Hid (E=(N1,Z++[ar x])):=ae (by rw[Cy.aa];rfl);have Ns:=bZ.cell;have hr:=ew.new (S:=b5) (e:=26) (x:=ar x) (v:=.agg (df (ar x))) (w:=Q) (N:=λk=>True∨(Value.slice Ao Z.length co).ownBlock=some k) (λW u=>rfl) 0 (eV _);have U:=K.new Q (.cells (df (ar x)) 26);have SJ:=Z0.st U;have cC:=SJ.own;have p7:=SJ.uw.size;clear Z0 Cy nO;go_wp2_with (at_builtin;refine jt rfl _ _ 44 rfl _ 3 24 vX rfl rfl cC _ rfl (ar x) ?p1 ?p2 ?p3 ?_)
      case p1=>exact hr.less λk _=>.inl trivial
      case p2=>omega
      case p3=>simpa using p7
      intro v9 sk bq bB cQ aZ;have AY:=SJ.push (bq.less λ_ _=>trivial) bB pC;clear hr cC SJ bq bB cQ aZ Ns bZ;go_wp2;go_roundw
      case rel=>exact⟨j+1,p3,af,bJ,by rw[<- gL.aa,HQ.aa];exact AY⟩
      case measure=>simp[intOf];omega
     ·have HQ:Hid (E=(N1,Z)):=ae (by rw[Cy.aa];rfl);clear Cy nO bZ;go_wp2;go_roundw
      case rel=>exact⟨j+1,p3,af,bJ,by rw[<- gL.aa,HQ.aa];exact Z0⟩
      case measure=>simp[intOf];omega
    ·have aP:¬(j:Int)<(D.length:Int):=af;obtain rfl:j=D.length:=af;rw[lL,<- az8.aa]at C;have sZ:=C.fin;rw[Sb.aa]at sZ;obtain⟨Ao,co,e8⟩:=C.own.slice;have qg:=C.br.blk.cell;have zg:=C.br.blk.frozen;rw[jA]at qg zg;subst e8;have Si:=ae sZ;rw[Es.aa]at Si;clear C HP sZ jA;go_wp2;go_end0;refine⟨rfl,?_⟩;rw[HR.aa];exact Si.aa
theorem abr{M p B w}(h:bA M p B w)(hG:bD B) a(fa:eu a) L T(hb:ah w L 90 #[.pointer (some ⟨p.g,0,none⟩)])(hn:ah w T 273 #[.func (.func 200) #[.pointer (some ⟨p.g,0,none⟩)] #[]]) :
 Calls prog 201 #[bU a,.pointer (some ⟨L,0,none⟩),.pointer (some ⟨T,0,none⟩)] w λe w'=>e=.returned (.tuple #[])/\dC M p (jd B a) w w':=by
 have S:Hid (jd B a=if bT B.st.prom a then (cY B (jj 5 a)).1 else B):=ae rfl
 have I:=λk hk=>h.low k (h.sub k hk)
 have y:=ah.new w 26 (df a)
 have j:=y.aS
 have F:=hb.av j
 have D:=hn.av j
 have H:=ae h
 have Z:=ae I
 have t:=ae λW (k:K w W)=>J5 B.st a (.agg (cE B.st p.vl p.vq p.va)) W ⟨_,_,_,rfl,(h.bI.at k).list,(h.bI.at k).prom,(h.bI.at k).ab⟩ Br
 have X:∀W,pk (jj 5 a) (.agg (eS (jj 5 a) (.slice none 0 0) (.slice none 0 0))) W:=λW=>⟨_,_,rfl,⟨none,0,rfl,Reads.nil _ _ _ _⟩,gh _ _⟩
 have u:=ae λW (k:K w W)=>Kc (h.st k) hG (jj 5 a) _ (X W) (UN pD fa) ⟨by simp[jj,dz],by simp[jj,dz],by simp[jj,dz]⟩
 have J:=aw h.bI.now.list
 have U:=aw h.bI.now.prom
 have Q:=aw h.bI.now.ab
 have q:=h.q
 generalize jd B a=R at *
 obtain⟨g,gl,gd,gr,gt,vd,vr,vp,vh,vl,vq,va,vt,vf,vw,kr⟩:=p
 simp only at q t u J U Q F D
 obtain⟨Al,cl,rfl⟩:=J
 obtain⟨Ap,cp,rfl⟩:=U
 obtain⟨Aa,ca,rfl⟩:=Q
 clear h hG hb hn I X
 go_enter func201,ntmps201
 go_upto_region 1 with (fail)
 generalize w.alloc _=w1 at *
 generalize w.heap.size=ga at y⊢
 have A:=y.cells
 have C:=F.cells
 have G:=λW (k:K w1 W)=>q W (j.tr k)
 clear q
 have qs:=And.intro G (And.intro A C)
 refine dD 6 [([],[]),([0],[(4,0)]),([1],[(5,1)]),([2],[(6,2)]),([],[]),([3,4],[(7,3),(8,4)])] 14 ?_
 iterate 5 refine au.i ?_
 refine au.is (.bool (bT B.st.prom a)) (λV W kW hp=>?_) ?_
 ·(try simp only[cd,aO,aQ,bW,bY,aJ]at hp)
  simp[bP,aE,List.lookup,hp,cN,execOp,aF,aJ,G,A,C,go_sem];refine (t.aa W (j.tr kW)).mono ?_;exact Bs
 clear qs
 intro V W kW hA
 simp only[aO,aQ,cz,aJ,Nat.reduceAdd]at hA
 refine aH.h ?_
 have E:=j.tr kW
 have Y:=A W kW
 have qn2:=D.cells W kW
 clear hA G A C y F D
 generalize W=w2 at *
 cases hp:bT B.st.prom a
 ·have HF:Hid (R=B):=ae (by rw[S.aa,hp];rfl);have HN:=ae (H.aa.n E);clear hp t u;go_wp2;go_end0;exact WC
 ·have HF:Hid (R=(cY B (jj 5 a)).1):=ae (by rw[S.aa,hp];rfl);have O:=ae (u.aa w2 E);clear hp t u;go_wp2_with fail
  refine O.aa.mono ?_;rintro e w3⟨rfl,N⟩;have HN:=ae (N.y4 E Z.aa);clear O N Y qn2;go_wp2;go_end0;exact WC
theorem UO{α}[DecidableEq α]{k}:∀ {ak:List (α×Value)} {i:Nat},(∀p∈ak,p.1≠k)->fR k ak i=none
 | [],_,_=>rfl
 | p :: r,i,h=>by unfold fR;have j:=h p aj;simp only[j,if_false];exact UO λq t=>h q (by simp[t])
theorem ar5{l a}(h:dG l a=false):rM (pL l) a (.int .i64 (l.length:Int))=pL (l++[a]):=by
 grind [pL,List.fst_mem_of_mem_zipIdx,dG,rM,UO]
theorem bA.tell{M p B w w'}(h:bA M p B w){a}(hm:ei lS w' p.gt (pL (B.told++[a])))(hg:w.grownBy w' (some p.gt)):bA M p { B with told:=B.told++[a] } w':=by
 obtain⟨E,A,D,F,y⟩:=h.apart;have u:ag (λk=>k=p.gt) w w':=ag.eM hg λk e=>aG
 have t:=u.more λk hk=>h.sub k (hk ▸ .inr (.inr (.inl rfl)))
 refine⟨h.blk.aX u A,h.lg.aX u λk hk e=>y (e▸hk),h.rep.aX u h.ne,hm,λW C=>?_,h.sub,λk hk=>bz (h.low k hk) u.size,h.ne⟩;have j:=h.bI W (t.tr C);exact⟨j.par,j.ai,j.list,j.prom,j.ab,j.aB,j.fe,j.waits,j.bQ⟩
theorem avF{M p B w}(h:bA M p B w){a}(y:dG B.told a=false) :
 ∃w',(Instr.mapUpdate 160 (.map (some p.gt)) (.agg (df a)) (.int .i64 (B.told.length:Int))).run prog w=.ok () w'/\bA M p { B with told:=B.told++[a] } w'/\ag (λk=>k=p.gt) w w':=by
 obtain⟨w',u,j,t⟩:=Fh QX underlying160 h.wm a (.int .i64 (B.told.length:Int))
 rw[ar5 y]at j
 exact⟨w',u,h.tell j t,ag.eM t λk e=>aG⟩
theorem ei.len{α enc P w b}{ak:List (α×Value)}(h:ei enc w b ak){t ty k e}(A:P.underlying t=some (.map k e)):(Builtin.len_ #[t] ty #[.map (some b)]).run P w=.ok (.int .i64 (ak.length:Int)) w:=by
 obtain⟨es,c,j,u,-⟩:=h;have y:P.underlying t=some (.map (P.mapKeyOf t) (P.mapElemOf t)):=by unfold Program.mapKeyOf Program.mapElemOf;rw[A]
 have:=congrArg List.length u;simp only[List.length_map,Array.length_toList]at this;rw[run_len_map w t ty b es c y j,this];rfl
theorem bA.awW{M p B w}(h:bA M p B w):∀W,K w W->∀ty,(Builtin.len_ #[160] ty #[.map (some p.gt)]).run prog W=.ok (.int .i64 (B.told.length:Int)) W:=λW k ty=>by have:=(h.wm.st k).len (ty:=ty) underlying160;rw[this];simp[pL]
