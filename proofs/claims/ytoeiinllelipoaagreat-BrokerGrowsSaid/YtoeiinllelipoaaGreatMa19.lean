/-
  The walk of broker's note (layer 20). Conditions: none.
-/
import Derived.Test.YtoeiinllelipoaaGreatMa18
import Derived.Test.YtoeiinllelipoaaGreatMz
set_option maxRecDepth 100000
set_option maxHeartbeats 16000000
set_option linter.unusedVariables false
set_option linter.unusedSimpArgs false
namespace Go.Proofs.YtoeiinllelipoaaGreat
open Go Go.RowKit Tryz
theorem aro{s:bA}{r:Rec}(i:gh r=true)(h:fh s r=none):pX s r=(s,160):=by simp[pX,i,h]
theorem ab2{s t:bA}{r:Rec}(i:gh r=true)(h:fh s r=some t):pX s r=(t,0):=by simp[pX,i,h]
theorem pw.kk{base:Nat}{s:bA}{vl vp va:Value}{c1 c2:List (List Value)}{W i:World}(h:pw base s vl vp va c1 c2 W)(k:K W i):pw base s vl vp va c1 c2 i:=h.low (ah.bg k _)
theorem pw.sl3{base:Nat}{s:bA}{vl vp va:Value}{c1 c2:List (List Value)}{W:World}(h:pw base s vl vp va c1 c2 W):(∃A c,vl=.slice A s.list.length c)/\(∃A c,vp=.slice A s.prom.length c)/\∃A c,va=.slice A s.ab.length c:=by obtain⟨x,y,z,e,h1,h2,h3⟩:=h.jr;exact VD
theorem atd{x:Rec}(h:gh x=true)(i:nX x):(bV x).length<=30000:=by
 have s:=cG (bf x.kind) (fI _);have B:=cG x.n i.2.1;have t:=cG (bf x.br) (fI _);have u:=cG x.life i.2.2.2.2.1;have A:=cG x.cI i.2.2.2.2.2;rcases AR h with ⟨hk,-⟩|⟨hk,j,-⟩|⟨hk,-⟩
 ·rw[Un hk];simp only[cT];omega
 ·have:=Ib j i.2.2.1;have y:=cG (eO x.e).length af;rw[TX af];simp only[cT,gZ];omega
 ·rw[TY hk];simp only[cT,eV];omega
def ax7(s:bA)(i:Int)(lo:Nat)(xs:Array Value)(c:Value)(W:World):Prop:=∃h vl vp va c1 c2,lo<=h/\xs=bS s vl vp va/\c=.int .i64 i/\pw h s vl vp va c1 c2 W
theorem JW{M:Nat->Prop}{p:cV}{B:aB}{w:World}(h:bC M p B w)(hG:bH B)(r:Rec)(u:Value)(hr:qh r u w)(hfit:nX r)(gY:eD r.e) :
 Calls prog 118 #[.pointer (some ⟨p.g,0,none⟩),u] w λe w'=>e=.returned (.bool (dt B r).2)/\cW M p (dt B r).1 w w':=by
 have HN:Hid (dt B r=if gh r&&vX B.dk r then (match fh B.st r with
  | none=>(B,false)
  | some t=>({ B with st:=t,dk:=⟨B.dk.gU++[r],B.dk.room⟩,aK:=if r.kind=2 then fc B.aK (ax r.e)else B.aK },true))
  else (B,false)):=ae rfl
 have H:=ae h
 have HX:=ae λk hk=>h.low k (h.sub k hk)
 have HM:=ae h.low
 have C1:=ae λW (k:K w W)=>adv r u W (P6 hr k) hfit
 have Yh:=hG.IH
 have jX:=hG.dk.len
 have C2:=ae λW (k:K w W)=>auA B.st r (.agg (bS B.st p.vl p.vq p.va)) u W ⟨_,_,_,rfl,(h.bL.at k).list,(h.bL.at k).prom,(h.bL.at k).ab⟩ (P6 hr k) hfit gY Yh.1 Yh.2.1 ⟨af,af,af⟩
 have q:=h.q
 have hs1:=az h.bL.now.list
 have dX:=az h.bL.now.prom
 have dF:=az h.bL.now.ab
 have hs4:=az h.bL.now.aK
 obtain⟨vf,ve,rfl,hf,he⟩:=hr
 obtain⟨Af,cf,rfl⟩:=cB hf
 obtain⟨Ae,ce,rfl⟩:=az he
 have k1:K w (w.alloc (.cells (eH r (.slice Af r.e.f.length cf) (.slice Ae r.e.es.length ce)) 190)):=(K.rf w).al _
 have hb:=ai.new w 190 (eH r (.slice Af r.e.f.length cf) (.slice Ae r.e.es.length ce))
 have HGO:=ae hG
 clear hf he Yh jX h hG
 generalize dt B r=R at *
 go_enter func118,ntmps118
 go_upto_region 1 with (fail)
 generalize w.alloc _=w1 at *
 generalize kL:w.heap.size=ga at hb⊢
 have lQ:=ae kL
 clear kL
 have qa:=hb.cell
 go_wp2_with fail
 refine (C1.aa w1 k1).mono ?_
 rintro e w2⟨v2,rfl,cX,k2⟩
 have bw:=k1.tr k2
 have hb2:=hb.below k2 hb.lt
 clear C1 qa
 have HC:Hid (rW r=if gh r then 0 else 110):=ae rfl
 have HE:Hid (tR r=if gh r then bV r else []):=ae rfl
 generalize rW r=cc at *
 generalize tR r=eb at *
 cases hok:gh r
 ·have HR:Hid (R=(B,false)):=ae (by rw[HN.aa,hok];rfl);obtain rfl:cc=110:=by rw[HC.aa,hok];rfl
  have HF:=ae (H.aa.n bw);obtain⟨A2,c2,rfl,-⟩:=cX.slice;clear q hb hb2 cX;exact Wb
 obtain rfl:cc=0:=by rw[HC.aa,hok];rfl
 obtain rfl:eb=bV r:=Vj
 obtain⟨A2,c2,rfl,-⟩:=cX.slice
 have uU:=ae cX
 have iZ:=ae hok
 clear cX HC HE hok
 go_upto_region 4 with (fail)
 have q2:=λW (k:K w2 W)=>q W (bw.tr k)
 have qb:=hb2.cells
 have C3:=ae λW (k:K w2 W)=>C2.aa W (bw.tr k)
 obtain⟨s,hs'⟩:∃s,s=(pX B.st r).1:=⟨_,rfl⟩
 obtain⟨code,FA⟩:∃c,c=(pX B.st r).2:=⟨_,rfl⟩
 simp only[<- hs',<- FA]at C3
 have HST:=ae hs'
 have HCD:=ae FA
 obtain⟨g,gl,gd,gr,gt,vd,vr,vp,vh,vl,vq,va,vt,S,vw,kr⟩:=p
 simp only at q2 hs1 dX dF hs4 C3
 obtain⟨O,cl,rfl⟩:=hs1
 obtain⟨Z,U,rfl⟩:=dX
 obtain⟨Y,T,rfl⟩:=dF
 obtain⟨Q,N,rfl⟩:=hs4
 have uZ:=ae hb2
 clear q hb hb2 C2 hs' FA
 refine aaY 52 jG (λi=>[Value.pointer (some ⟨g,0,none⟩),.pointer (some ⟨g,0,none⟩),.pointer (some ⟨g,4,none⟩),.agg (bS B.st (.slice O B.st.list.length cl) (.slice Z B.st.prom.length U) (.slice Y B.st.ab.length T)),.agg (eH r (.slice Af r.e.f.length cf) (.slice Ae r.e.es.length ce))].getD i undef) (ax7 s code)
  [([],[]),([0],[(16,0)]),([1],[(17,1)]),([2],[(18,2)]),([],[]),([3,4],[(19,3),(20,4)]),([5],[(21,5)]),([6],[(15,6)]),([6],[(15,6)]),([],[]),([7,9],[(7,9),(22,7)]),([8],[(23,8)])] 186 #[.agg (bS B.st (.slice O B.st.list.length cl) (.slice Z B.st.prom.length U) (.slice Y B.st.ab.length T)),.agg (eH r (.slice Af r.e.f.length cf) (.slice Ae r.e.es.length ce))] 52 rfl ak ak ak rfl rfl ?gd ?pre ?call ?cc ?h6 ?h7 ?h8 ?h9 ?nf ?uz ?hk ?hlow ?_
 case gd=>simp
 case pre => intro i hi V W kW hp;have:i=0∨i=1∨i=2∨i=3∨i=4:=af;rcases this with rfl|rfl|rfl|rfl|rfl <;> simp at hp <;> simp[lJ,aw,List.lookup,hp,execOp,ay,q2,qb,kW,go_sem]
 case call=>intro V W kW h3 h4;simp at h3 h4;simp[lJ,aw,List.lookup,h3,h4,execOp,ay,go_sem]
 case cc => intro W kW;refine (C3.aa W kW).mono ?_;rintro e w3⟨Bn,GK,GL,GM,c1,rJ,rfl,hB,A,k3⟩;exact⟨_,_,rfl,⟨Bn,GK,GL,GM,c1,rJ,hB,rfl,rfl,A⟩,k3⟩
 case h6=>intro V W v h5;simp[lJ,aw,List.lookup,h5,execOp,ay,go_sem]
 case h7=>intro V W xs c h5;simp[lJ,aw,List.lookup,h5,execOp,ay,go_sem]
 case h8=>intro V W xs c h5;simp[lJ,aw,List.lookup,h5,execOp,ay,go_sem]
 case h9=>intro V W;simp[lJ,execOp,ay,go_sem]
 case nf => rintro V W b lo xs c W0 e9 e7 hb⟨Bn,GK,GL,GM,c1,rJ,-,rfl,-,A⟩;obtain⟨⟨F,J,rfl⟩,⟨I,L,rfl⟩,C,D,rfl⟩:=A.sl3;have qz:=hb.cell;have zz:=hb.frozen;refine⟨World.setCell (World.setCell (World.setCell (World.setCell W ⟨b,0,none⟩ (.int .u64 (s.life:Int))) ⟨b,1,none⟩ (.slice F s.list.length J)) ⟨b,2,none⟩ (.slice I s.prom.length L)) ⟨b,3,none⟩ (.slice C s.ab.length D),by simp[lJ,aw,List.lookup,e9,e7,execOp,ay,qz,zz,go_sem],(((hb.aR 0 (.int .u64 (s.life:Int))).aR 1 (.slice F s.list.length J)).aR 2 (.slice I s.prom.length L)).aR 3 (.slice C s.ab.length D),?_⟩;have u:=(((ah.b6 (X:=λk=>k=b) (W:=W) rfl 0 (.int .u64 (s.life:Int))).tr (ah.b6 (X:=λk=>k=b) rfl 1 (.slice F s.list.length J))).tr (ah.b6 (X:=λk=>k=b) rfl 2 (.slice I s.prom.length L))).tr (ah.b6 (X:=λk=>k=b) rfl 3 (.slice C s.ab.length D));exact⟨u.os,u.tape,u.output,u.size,λk hk hne=>u.block k hk λe=>hne Dv⟩
 case uz=>intro V W c h5;simp[lJ,aw,List.lookup,h5,execOp,ay,go_sem]
 case hk=>rintro lo xs c W G⟨Bn,GK,GL,GM,c1,rJ,a1,a2,a3,A⟩ k;exact⟨Bn,GK,GL,GM,c1,rJ,a1,a2,a3,A.kk k⟩
 case hlow=>rintro lo xs c W G b⟨Bn,GK,GL,GM,c1,rJ,a1,a2,a3,A⟩ hb u;exact⟨Bn,GK,GL,GM,c1,rJ,a1,a2,a3,A.low (u.more λk e=>af)⟩
 intro V W b xs c lo kW hcs e5 e6 e7 e8 e9 rN bN hbk hlo Az
 obtain⟨Bn,GK,GL,GM,c1,rJ,hB,rfl,rfl,A⟩:=Az
 obtain⟨⟨F,J,rfl⟩,⟨I,L,rfl⟩,C,D,rfl⟩:=A.sl3
 simp only[bF,Act.put,cO,cM,cL,e5,e6,e7,e8,e9,rN]
 have tD:=bw.tr kW
 cases xh:fh B.st r with
 | none =>
  have HR:Hid (R=(B,false)):=ae (by rw[HN.aa,iZ.aa,xh];split <;> rfl);obtain rfl:code=160:=by rw[HCD.aa,aro iZ.aa xh]
  have HF:=ae (H.aa.n tD);clear hcs e5 e6 e7 e8 e9 rN hbk A q2 qb C3 xh;exact Wb
 | some t =>
  obtain rfl:code=0:=by rw[HCD.aa,ab2 iZ.aa xh]
  obtain rfl:s=t:=by rw[HST.aa,ab2 iZ.aa xh]
  have HR:Hid (R=if vX B.dk r then ({ B with st:=s,dk:=⟨B.dk.gU++[r],B.dk.room⟩,aK:=if r.kind=2 then fc B.aK (ax r.e)else B.aK },true)else (B,false)):=ae (by rw[HN.aa,iZ.aa,xh];rfl);have zQ:=H.aa.st tD;have E:K W (W.alloc (.cells #[.slice A2 (bV r).length c2] 42)):=(K.rf W).al _;have Yi:∀k,jg gl gd vd vr k->k<w.heap.size:=λk hk=>HX.aa k (.inr (.inr (.inr hk)))
  have lP:=tD.size;have hz1:=k1.size;have jH:Fx (jg gl gd vd vr) (λG=>ar i6 [bV r] (.slice (some ⟨W.heap.size,0,none⟩) 1 1) G) (W.alloc (.cells #[.slice A2 (bV r).length c2] 42)):=λG u=>by
   have hown:=eE (fZ uU.aa (kW.tr E)) u λk hk hx=>by have:=(uU.aa.lt k hk).1;have:=Yi k hx;omega
   have akI:=(ai.new W 42 #[.slice A2 (bV r).length c2]).bT u λhx=>Wc
   refine⟨some ⟨W.heap.size,0,none⟩,1,rfl,⟨[[.slice A2 (bV r).length c2]],Each.one ⟨_,rfl,eN hown⟩,rfl,λ_=>⟨W.heap.size,0,rfl,akI.lt,λj u hu=>?_⟩⟩,aj⟩;rw[fP,akI.cell j];simpa using hu
  have bN:∀b∈[bV r],b.length<=1000000000:=λb hb=>by simp at hb;subst hb;exact bq (atd iZ.aa hfit) af
  have C4:=ae (apb gl gd vd vr (.slice (some ⟨W.heap.size,0,none⟩) 1 1) (lA B.dk) B.dk.room [bV r] _ (zQ.lg.st E) jH aj bN);have qW:=q2 W kW;have lM:=hbk.below E hbk.lt;have Rn:=ae (H.aa.st (tD.tr E));have ZH:=ae (tD.tr E);have hne:Hid (vX B.dk r=false->(oA (lA B.dk) [bV r] B.dk.room).1=lA B.dk/\(oA (lA B.dk) [bV r] B.dk.room).2≠0):=ae auY;have hye:Hid (vX B.dk r=true->oA (lA B.dk) [bV r] B.dk.room=(lA ⟨B.dk.gU++[r],B.dk.room⟩,0)):=ae auX;generalize oA (lA B.dk) [bV r] B.dk.room=AP at *;obtain⟨al,ac⟩:=AP;have HSS:=ae A;clear zQ jH bN A q2 qb C3 hcs e5 e6 e7 e8 e9 rN xh hbk;go_upto_region 7 with (fail);go_wp2_with fail
  refine C4.aa.mono ?_;rintro e w6⟨ZI,ZJ,rfl,Cl,GN⟩;cases lf:vX B.dk r
  ·have eB:Hid (R=(B,false)):=ae ahn;obtain⟨e1,e2⟩:=hne.aa lf;subst e1;obtain⟨b1,b2,b3⟩:=Rn.aa.log (d:=B.dk) Cl GN;have HF:Hid (cW M ⟨g,gl,gd,gr,gt,vd,vr,vp,vh,.slice O B.st.list.length cl,.slice Z B.st.prom.length U,.slice Y B.st.ab.length T,.slice Q B.aK.length N,S,vw,kr⟩ B w w6):=ae (cW.xe ⟨_,b1,b2,rfl,b3⟩ ZH.aa HX.aa);have e3:(ac != 0)=true:=by simpa using e2
   clear b1 b2 b3 Cl GN C4 qW lM E lf e2;go_wp2;go_ret;exact⟨KY,by rw[eB.aa];exact HF.aa⟩
  have eB:Hid (R=({ B with st:=s,dk:=⟨B.dk.gU++[r],B.dk.room⟩,aK:=if r.kind=2 then fc B.aK (ax r.e)else B.aK },true)):=ae ahn;obtain⟨rfl,rfl⟩:=Prod.mk.inj (hye.aa lf);obtain⟨b1,b2,b3⟩:=Rn.aa.log (d:=⟨B.dk.gU++[r],B.dk.room⟩) Cl GN;have hz2:=bw.size;have kL:=lQ.aa;have Mx:uY (λk=>M k∨bn ⟨g,gl,gd,gr,gt,ZI,ZJ,vp,vh,.slice O B.st.list.length cl,.slice Z B.st.prom.length U,.slice Y B.st.ab.length T,.slice Q B.aK.length N,S,vw,kr⟩ k) s (.slice F s.list.length J) (.slice I s.prom.length L) (.slice C s.ab.length D) w6:=by
   have h0:uY (λk=>k<w2.heap.size) s (.slice F s.list.length J) (.slice I s.prom.length L) (.slice C s.ab.length D) W:=λG u=>by obtain⟨x,y,z,e,a1,a2,a3⟩:=(HSS.aa.low (u.more λk hk=>bB hk (bq hlo hB))).jr;simp at e;obtain⟨rfl,rfl,rfl⟩:=e;exact⟨a1,a2,a3⟩
   refine h0.to (X:=jg gl gd vd vr) ((ah.bg E _).tr GN.up) (λk hk=>by have:=Yi k hk;omega) λk hk hx=>?_
   rcases hx with hx|hx
   ·have:=HM.aa k hx;omega
   ·rcases b3 k hx with hx|hx
    ·have:=HX.aa k hx;omega
    ·have:=E.size;omega
  have akJ:=lM.bT GN.up λhx=>Wc
  have iy:=(uZ.aa.below (kW.tr E) uZ.aa.lt).bT GN.up λhx=>Wc
  have hP:=b1.aza Mx;simp only at hP;have HU6:Hid (ah (bn ⟨g,gl,gd,gr,gt,vd,vr,vp,vh,.slice O B.st.list.length cl,.slice Z B.st.prom.length U,.slice Y B.st.ab.length T,.slice Q B.aK.length N,S,vw,kr⟩) w w6):=ae ((ah.bg ZH.aa _).tr b2);have HN6:=ae b3;have q6:=b1.blk.cell;have z6:=b1.blk.frozen;have qs6:=akJ.cell;clear b2 b3 Mx b1 Cl GN C4 qW lM E hne hye lf;go_upto_region 10 with (fail);have u7:ah (λk=>k=g) w6 (World.setCell (World.setCell (World.setCell (World.setCell w6 ⟨g,4,none⟩ (.int .u64 (s.life:Int))) ⟨g,5,none⟩ (.slice F s.list.length J)) ⟨g,6,none⟩ (.slice I s.prom.length L)) ⟨g,7,none⟩ (.slice C s.ab.length D)):=(((ah.b6 (X:=λk=>k=g) (W:=w6) rfl 4 (.int .u64 (s.life:Int))).tr (ah.b6 (X:=λk=>k=g) rfl 5 (.slice F s.list.length J))).tr (ah.b6 (X:=λk=>k=g) rfl 6 (.slice I s.prom.length L))).tr (ah.b6 (X:=λk=>k=g) rfl 7 (.slice C s.ab.length D));have eC:g<w.heap.size:=HX.aa g (.inl rfl);have ix:=iy.bT u7 af;generalize World.setCell (World.setCell (World.setCell (World.setCell w6 _ _) _ _) _ _) _ _=w7 at *;have Jz:Hid (ah (bn ⟨g,gl,gd,gr,gt,vd,vr,vp,vh,.slice O B.st.list.length cl,.slice Z B.st.prom.length U,.slice Y B.st.ab.length T,.slice Q B.aK.length N,S,vw,kr⟩) w w7):=ae (HU6.aa.tr (u7.more λk hk=>.inl hk));have HX5:=ae ZH.aa.size;have q7:=ix.cells;clear q6 z6 qs6 akJ iy u7 ix;by_cases hk2:r.kind=2;rotate_left
  ·have ZK:Hid (R=({ B with st:=s,dk:=⟨B.dk.gU++[r],B.dk.room⟩ },true)):=ae (by rw[eB.aa,if_neg hk2]);have jA:(r.kind==2)=false:=by simpa using hk2
   have HF:Hid (cW M ⟨g,gl,gd,gr,gt,vd,vr,vp,vh,.slice O B.st.list.length cl,.slice Z B.st.prom.length U,.slice Y B.st.ab.length T,.slice Q B.aK.length N,S,vw,kr⟩ { B with st:=s,dk:=⟨B.dk.gU++[r],B.dk.room⟩ } w w7):=ae ⟨⟨g,gl,gd,gr,gt,ZI,ZJ,vp,vh,.slice F s.list.length J,.slice I s.prom.length L,.slice C s.ab.length D,.slice Q B.aK.length N,S,vw,kr⟩,hP,Jz.aa,rfl,λk hk=>(HN6.aa k hk).imp id λh=>by have:=HX5.aa;omega⟩;have qk:=q7 w7 (K.rf _);clear hP q7 hk2;exact aho
  have ZK:Hid (R=({ B with st:=s,dk:=⟨B.dk.gU++[r],B.dk.room⟩,aK:=fc B.aK (ax r.e) },true)):=ae (by rw[eB.aa,if_pos hk2]);have qk:=q7 w7 (K.rf _);have C5:=ae λG (k:K w7 G)=>Od B.aK (ax r.e) (.slice Q B.aK.length N) G (hP.bL.at k).aK HGO.aa.tx.small HGO.aa.tx.BL
  have qg:=hP.blk.cells;simp only at qg;have HP:=ae hP;clear hP;go_upto_region 11 with (fail);clear qk;refine eM 9 [([],[]),([],[]),([1],[(42,1)]),([2],[(43,2)]),([3],[(44,3)]),([],[]),([5],[(46,5)]),([6],[(47,6)]),([4,7],[(45,4),(48,7)]),([0,1,2,3,4,5,6,7,8],[(41,0)]),([0,1,2,3,4,5,6,7,8,9],[(50,9)]),([0,1,2,3,4,5,6,7,8,10],[(51,10),(49,8)])] 52 rfl ak ak ak ak au ?_;simp only[dR,dN,ew,dP];iterate 8 (apply aV.is;intro V W kW hp;(try simp only[aI,aJ,aM,aE,aF,ag]at hp);simp[aL,aw,List.lookup,hp,aS,execOp,ay,ag,aN,kW,q7,qg,go_sem];rfl)
  refine aV.op (λv G=>aX w7.heap.size w7.heap.size 106 cJ (fc B.aK (ax r.e)) v G) (λ_ _ _ h k=>h.st k) (λV W kW hp=>?_) ?_
  ·(try simp only[aI,aJ,aM,aE,aF,ag]at hp)
   simp[aL,aw,List.lookup,hp,aS,execOp,ay,q7,qg,go_sem];exact Wd
  intro V W kW hA;simp only[aJ,aM,eA,ag,Nat.reduceAdd]at hA;obtain⟨d0,d1,d2,d3,d4,d5,d6,d7,fX,-⟩:=hA;generalize Cx:V 8=v8 at *;have qH:=HP.aa.st kW;have gI:=fX.RA HP.aa.low;obtain⟨A8,c8,rfl⟩:=az fX.ar;have q8:=qH.blk.cell;have z8:=qH.blk.frozen;simp only at q8 z8;iterate 2 (apply bu.pure;rfl;(simp[aw,List.lookup,bj,d0,Cx,execOp,ay,go_sem];rfl))
  refine bu.skip (W.setCell ⟨g,8,none⟩ (.slice A8 (fc B.aK (ax r.e)).length c8)) rfl We ?_;refine bu.nil ?_;simp only[bF,Act.put,cO,cM,cL,Nat.reduceAdd,bj];have AA:=qH.LH gI;have M8:=Jz.aa.tr (((ah.bg kW _).tr (ah.b6 (X:=bn ⟨g,gl,gd,gr,gt,vd,vr,vp,vh,.slice O B.st.list.length cl,.slice Z B.st.prom.length U,.slice Y B.st.ab.length T,.slice Q B.aK.length N,S,vw,kr⟩) (.inl rfl) 8 (.slice A8 (fc B.aK (ax r.e)).length c8))));have HF:Hid (cW M ⟨g,gl,gd,gr,gt,vd,vr,vp,vh,.slice O B.st.list.length cl,.slice Z B.st.prom.length U,.slice Y B.st.ab.length T,.slice Q B.aK.length N,S,vw,kr⟩ { B with st:=s,dk:=⟨B.dk.gU++[r],B.dk.room⟩,aK:=fc B.aK (ax r.e) } w (W.setCell ⟨g,8,none⟩ (.slice A8 (fc B.aK (ax r.e)).length c8))):=ae ⟨⟨g,gl,gd,gr,gt,ZI,ZJ,vp,vh,.slice F s.list.length J,.slice I s.prom.length L,.slice C s.ab.length D,.slice A8 (fc B.aK (ax r.e)).length c8,S,vw,kr⟩,AA,M8,rfl,λk hk=>(HN6.aa k hk).imp id λh=>by have:=HX5.aa;omega⟩;clear AA M8 qH gI fX q8 z8 q7 qg C5 d0 d1 d2 d3 d4 d5 d6 d7 Cx;exact aho
theorem abt{M:Nat->Prop}{p:cV}{B:aB}{w:World}(h:bC M p B w)(j:bH B)(x:aq)(u:Value)(t:cR x u w)(hfit:cK x)(Z:eD x) :
 Calls prog 111 #[.pointer (some ⟨p.g,0,none⟩),u] w λe w'=>e=.returned (.bool (mG B x).2)/\cW M p (mG B x).1 w w':=by
 have HX:=ae λk hk=>h.low k (h.sub k hk)
 have X:=j.dk.len
 have I:=ae λW (k:K w W) v (hv:qh (lI B.st.list.length x) v W)=>JW (h.st k) j (lI B.st.list.length x) v hv ⟨Py,by simp only[lI];omega,hfit,Py,yX,yX⟩ Z
 have O:=ae λW (k:K w W)=>Lh t k
 have q:=h.q
 have S:=az h.bL.now.list
 obtain⟨vf,ve,rfl,Q,C⟩:=t
 obtain⟨F,G,rfl⟩:=cB Q
 obtain⟨E,N,rfl⟩:=az C
 have A:K w (w.alloc (.cells (aA x (.slice F x.f.length G) (.slice E x.es.length N)) 102)):=(K.rf w).al _
 have hb:=ai.new w 102 (aA x (.slice F x.f.length G) (.slice E x.es.length N))
 obtain⟨g,gl,gd,gr,gt,vd,vr,vp,vh,vl,vq,va,vt,iO,vw,kr⟩:=p
 simp only at q S
 obtain⟨Al,cl,rfl⟩:=S
 have U:IntKind.u64.wrap ((B.st.list.length:Int))=(B.st.list.length:Int):=by rw[IntWalk.u64_in _ (by omega)]
 unfold mG
 generalize dt B (lI B.st.list.length x)=R at *
 clear h j Q C X
 go_enter func111,ntmps111
 go_upto_region 1 with (fail)
 generalize w.alloc _=Y at *
 generalize w.heap.size=ga at hb⊢
 have J:=hb.cells
 have L:=λW (k:K Y W)=>q W (A.tr k)
 clear q hb
 refine eM 10 [([],[]),([],[]),([1],[(6,1)]),([2],[(7,2)]),([3],[(8,3)]),([4],[(9,4)]),([5],[(10,5)]),([6],[(11,6)]),([],[]),([7,8],[(12,7),(13,8)]),([0,9],[(5,0),(14,9)]),([0,1,2,3,4,5,6,7,8,9,10],[(15,10)])] 16 rfl ak ak ak ak au ?_
 simp only[dR,dN,ew,dP]
 iterate 10 (apply aV.is;intro V W s H;(try simp only[aI,aJ,aM,aE,aF,ag]at H);simp[aL,aw,List.lookup,H,aS,execOp,ay,ag,aN,s,L,J,U,go_sem];rfl)
 intro V W s D
 simp only[aJ,aM,eA,ag,Nat.reduceAdd]at D
 obtain⟨e0,e1,e2,e3,e4,e5,e6,e7,e8,e9,-⟩:=D
 have i:=A.tr s
 refine bu.call _ _ rfl ahc ?_
 refine (I.aa W i _ ?_).mono ?_
 ·obtain⟨qv,qA,e,h1,h2⟩:=O.aa W i;exact VF
 rintro e w5⟨rfl,y⟩
 refine⟨_,rfl,?_⟩
 have T:=ae (y.xe i HX.aa)
 apply bu.pure
 rfl
 simp[aw,List.lookup,bj,execOp,ay,go_sem]
 rfl
 refine bu.nil ?_
 simp only[bF,Act.put,cO,cM,cL,Nat.reduceAdd,bj]
 clear y I O L J
 go_wp2
 go_ret
 exact⟨Pu,T.aa⟩
theorem adA{B:aB}{r:Rec}(h:(dt B r).2=false):(dt B r).1=B:=by
 unfold dt at h⊢;split
 ·split
  ·rfl
  ·rename_i i _ _ j;rw[if_pos i]at h;simp only[j]at h;cases h
 ·rfl
theorem auZ{B:aB}{r:Rec}(h:r.kind≠2):(dt B r).1.aK=B.aK:=by
 unfold dt;split
 ·split
  ·rfl
  ·simp[h]
 ·rfl
theorem aoM{M:Nat->Prop}{p:cV}{B:aB}{w:World}(h:bC M p B w)(J:bH B)(a:av)(G:df a) :
 Calls prog 112 #[.pointer (some ⟨p.g,0,none⟩),cN a] w λe w'=>e=.returned (.bool (nB B a).2)/\cW M p (nB B a).1 w w':=by
 have S:Hid (nB B a=if (dt B (jy 4 a)).2 then ({ (dt B (jy 4 a)).1 with aK:=fc (dt B (jy 4 a)).1.aK a },true)else (B,false)):=ae rfl
 have HX:=ae λk hk=>h.low k (h.sub k hk)
 have nP:=ae (@adA B (jy 4 a))
 have HTX:Hid ((dt B (jy 4 a)).1.aK=B.aK):=ae (auZ yY)
 have O:∀W,qh (jy 4 a) (.agg (eH (jy 4 a) (.slice none 0 0) (.slice none 0 0))) W:=λW=>⟨_,_,rfl,⟨none,0,rfl,Reads.nil _ _ _ _⟩,iu _ _⟩
 have C:=ae λW (k:K w W)=>JW (h.st k) J (jy 4 a) _ (O W) ⟨by simp[jy,bU],yY,E2,G.1,G.2.1,G.2.2⟩ (by simp[jy,eD,eW])
 have Z:=ae J.tx
 have A:K w (w.alloc (.cells #[.int .i64 a.1,.int .u64 (a.2.1:Int),.int .u64 (a.2.2:Int)] 46)):=(K.rf w).al _
 have hb:=ai.new w 46 #[.int .i64 a.1,.int .u64 (a.2.1:Int),.int .u64 (a.2.2:Int)]
 generalize nB B a=R at *
 generalize dt B (jy 4 a)=NB at *
 obtain⟨i,ok⟩:=NB
 simp only[jy,eH,eW]at C
 clear h J O
 go_enter func112,ntmps112
 go_upto_region 1 with (fail)
 generalize w.alloc _=w1 at *
 generalize N:w.heap.size=ga at hb⊢
 have MQ:=ae N
 clear N
 have qa:=hb.cell
 go_wp2_with fail
 refine (C.aa w1 A).mono ?_
 rintro e L⟨rfl,t⟩
 cases ok
 ·have HR:Hid (R=(B,false)):=ae (by rw[S.aa];rfl);obtain rfl:i=B:=nP.aa rfl;have HF:=ae (t.xe A HX.aa);clear t C qa;exact Wb
 have HR:Hid (R=({ i with aK:=fc i.aK a },true)):=ae (by rw[S.aa];rfl)
 have N:=MQ.aa
 have hb2:=t.keeps hb λhx=>V8
 obtain⟨p1,j,hu,hg,hn⟩:=t
 have C5:=ae λW (k:K L W)=>Od i.aK a p1.vt W (j.bL.at k).aK (by rw[HTX.aa];exact Z.aa.small) (by rw[HTX.aa];exact Z.aa.BL)
 have hs4:=az j.bL.now.aK
 have D:=j.q
 have M9:=ae j
 have HU:=ae hu
 have Ew:=ae hn
 rw[<- yA hg]
 have T:=ae hg
 have F:=hb2.cells
 obtain⟨I,gl,gd,gr,gt,vd,vr,vp,vh,vl,vq,va,vt,iO,vw,kr⟩:=p1
 simp only at D C5 hs4
 obtain⟨At,ct,rfl⟩:=hs4
 clear j hu hn hg C qa hb hb2
 go_upto_region 3 with (fail)
 refine eM 7 [([],[]),([],[]),([1],[(11,1)]),([2],[(12,2)]),([3],[(13,3)]),([],[]),([4,5],[(14,4),(15,5)]),([0,1,2,3,4,5,6],[(10,0)]),([0,1,2,3,4,5,6,7],[(17,7)]),([0,1,2,3,4,5,6,8],[(18,8),(16,6)])] 19 rfl ak ak ak ak au ?_
 simp only[dR,dN,ew,dP]
 iterate 6 (apply aV.is;intro V W kW s;(try simp only[aI,aJ,aM,aE,aF,ag]at s);simp[aL,aw,List.lookup,s,aS,execOp,ay,ag,aN,kW,D,F,go_sem];rfl)
 refine aV.op (λv W'=>aX L.heap.size L.heap.size 106 cJ (fc i.aK a) v W') (λ_ _ _ h k=>h.st k) (λV W kW s=>?_) ?_
 ·(try simp only[aI,aJ,aM,aE,aF,ag]at s)
  simp[aL,aw,List.lookup,s,aS,execOp,ay,D,F,go_sem];exact Wd
 intro V W kW U
 simp only[aJ,aM,eA,ag,Nat.reduceAdd]at U
 obtain⟨d0,d1,d2,d3,d4,d5,H,-⟩:=U
 generalize Cx:V 6=v8 at *
 have E:=M9.aa.st kW
 have gI:=H.RA M9.aa.low
 obtain⟨y,u,rfl⟩:=az H.ar
 have q8:=E.blk.cell
 have z8:=E.blk.frozen
 simp only at q8 z8
 iterate 2 (apply bu.pure;rfl;(simp[aw,List.lookup,bj,d0,Cx,execOp,ay,go_sem];rfl))
 refine bu.skip (W.setCell ⟨I,8,none⟩ (.slice y (fc i.aK a).length u)) rfl We ?_
 refine bu.nil ?_
 simp only[bF,Act.put,cO,cM,cL,Nat.reduceAdd,bj]
 have Q:=E.LH gI
 have Y:=(ah.bg A _).tr (HU.aa.tr (((ah.bg kW _).tr (ah.b6 (X:=bn p) (.inl (by have:=yA T.aa;exact this)) 8 (.slice y (fc i.aK a).length u)))))
 have HF:Hid (cW M p { i with aK:=fc i.aK a } w (W.setCell ⟨I,8,none⟩ (.slice y (fc i.aK a).length u))):=ae ⟨⟨I,gl,gd,gr,gt,vd,vr,vp,vh,vl,vq,va,.slice y (fc i.aK a).length u,iO,vw,kr⟩,Q,Y,T.aa,λk hk=>(Ew.aa k hk).imp id λh=>bq A.size h⟩
 clear Q Y E gI H q8 z8 D F C5 d0 d1 d2 d3 d4 d5 Cx
 go_wp2
 go_ret
 exact⟨fo,by rw[HR.aa];exact HF.aa⟩
def vE:cF bK where
 size:=8
 rel m cs w:=∃A s t j y i,cs=(fH m A s t j y i).toList/\ar jW m.bM A w/\ar aQ m.asks s w/\ar aQ m.entries t w/\ar aQ m.cH j w/\ar bI m.bY y w/\ar bI m.ends i w
 len:=by rintro _ _ _⟨A,s,t,j,y,i,rfl,_⟩;rfl
 one:=by rintro x _ _⟨A,s,t,j,y,i,rfl,D,E,F,B,C,h6⟩ u hu;obtain⟨_,_,rfl⟩:=az D;obtain⟨_,_,rfl⟩:=az E;obtain⟨_,_,rfl⟩:=az F;obtain⟨_,_,rfl⟩:=az B;obtain⟨_,_,rfl⟩:=az C;obtain⟨_,_,rfl⟩:=az h6;exact aeL
 st:=by rintro _ _ _ _⟨A,s,t,j,y,i,rfl,D,E,F,B,C,h6⟩ k;exact⟨_,_,_,_,_,_,rfl,aW D k,aW E k,aW F k,aW B k,aW C k,aW h6 k⟩
abbrev AB:Array Value:=#[.int .i64 0,.int .u64 0,.slice none 0 0,.slice none 0 0,.slice none 0 0,.slice none 0 0,.slice none 0 0,.slice none 0 0]
theorem ax8(W:World):js xQ (.agg AB) W:=⟨_,_,_,_,_,_,rfl,iu _ _,iu _ _,iu _ _,iu _ _,iu _ _,iu _ _⟩
theorem BJ.look{l:List (Int×bK)}{s:List (Int×Value)}{W:World}(h:BJ l s W)(k:Int):js (((l.find? λp=>decide (p.1=k)).map (·.2)).getD xQ) ((qV s k).getD (.agg AB)) W:=by
 have key:∀(l:List (Int×bK)) (s:List (Int×Value)) (i:Nat),BJ l s W->js (((l.find? λp=>decide (p.1=k)).map (·.2)).getD xQ) (((jT k s i).map (·.2)).getD (.agg AB)) W:=by
  intro l
  induction l with
  | nil => intro s i h;have:s=[]:=List.eq_nil_of_length_eq_zero h.1;subst this;exact ax8 W
  | cons q l y =>
   intro s i h
   cases s with
   | nil=>have:=h.1;simp at this
   | cons p s =>
    have t:=h.2 0 aj aj;simp only[List.getElem_cons_zero]at t;have u:BJ l s W:=⟨by have:=h.1;simpa using this,λj h1 h2=>by
     have:=h.2 (j+1) Ip qN;simpa using this⟩
    unfold jT;by_cases e:q.1=k
    ·rw[List.find?_cons_of_pos Iq,if_pos (t.1.trans e)];exact t.2
    ·rw[List.find?_cons_of_neg Iq,if_neg (λA=>e (t.1.symm.trans A))];exact y s (i+1) u
 exact key l s 0 h
theorem ajG(W:World):(zeroValue 41).run prog W=.ok (.agg AB) W:=by kernel_rfl
theorem axm:(prog.info? 41).map (λi=>(i.zero,i.size,i.bytes))=some (some (.agg AB),8,160):=by kernel_rfl
theorem TMs:gJ prog 132 41 (.agg AB) 8 160:=⟨underlying132,axm,rfl,au⟩
section
variable {α β:Type} {S:cF α} {S2:cF β} {Y Y' X:Nat->Prop} {base lo:Nat} {e e2:TypeId} {l:List α} {l2:List β} {v v2:Value} {w w':World}
theorem aT.to(h:aT Y base e S l v w)(u:ah X w w')(y:∀k,X k->Y k)(hn:∀k,v.ownBlock=some k->¬X k)(C:∀k,k<w.heap.size->Y' k->Y k∨v.ownBlock=some k):aT Y' base e S l v w':=by obtain⟨css,t,B,E⟩:=h;exact⟨css,eE t u λb j s=>hn b j s,B,λD A=>E D ((u.more λk hk=>.inl (y k hk)).iA A λk hk i=>i.elim (λi=>C k hk i) .inr)⟩
structure lK(lo base:Nat)(e:TypeId)(S:cF α)(l:List α)(v:Value)(e2:TypeId)(S2:cF β)(l2:List β)(v2:Value)(w:World):Prop where
 a:aT (λk=>k<lo∨v2.ownBlock=some k) base e S l v w
 b:aT (λk=>k<lo∨v.ownBlock=some k) base e2 S2 l2 v2 w
 ne:∀k,v.ownBlock=some k->v2.ownBlock=some k->False
 lo:lo<=base
theorem lK.st(h:lK lo base e S l v e2 S2 l2 v2 w)(k:K w w'):lK lo base e S l v e2 S2 l2 v2 w':=⟨h.a.st k,h.b.st k,h.ne,h.lo⟩
theorem lK.low{base':Nat}(h:lK lo base e S l v e2 S2 l2 v2 w)(hb:base'<=base)(i:lo<=base'):lK lo base' e S l v e2 S2 l2 v2 w:=⟨h.a.low hb,h.b.low hb,h.ne,i⟩
theorem lK.swap(h:lK lo base e S l v e2 S2 l2 v2 w):lK lo base e2 S2 l2 v2 e S l v w:=⟨h.b,h.a,λk i j=>h.ne k j i,h.lo⟩
theorem lK.Yj(h:aT (λk=>k<lo) base e S l v w)(i:lo<=base):lK lo base e S l v e2 S2 ([]:List β) (.slice none 0 0) w :=
 ⟨h.less (Y':=λk=>k<lo∨(Value.slice none 0 0).ownBlock=some k) λk hk=>hk.elim id λh=>Dw,aT.nil _ _ _ _ _,λk _ h=>Dw,i⟩
theorem lK.push(h:lK lo base e S l v e2 S2 l2 v2 w){s:Value}{u:List α}(h9:aT (λk=>k<lo∨v2.ownBlock=some k) base e S u s w')(hg:w.grownBy w' v.ownBlock)(hb:s.ownBlock=v.ownBlock∨s.ownBlock=some w.heap.size):lK lo base e S u s e2 S2 l2 v2 w':=by
 have hz:=h.b.blk;refine⟨h9,h.b.to (X:=λk=>v.ownBlock=some k) (ah.fM hg λk e=>e) (λk hk=>.inr hk) (λk j t=>h.ne k t j) (λk hk i=>?_),λk j t=>?_,h.lo⟩
 ·rcases i with i|i
  ·exact .inl (.inl i)
  ·rcases hb with hb|hb
   ·exact .inl (.inr (hb▸i))
   ·rw[hb]at i;injection i with i;omega
 ·rcases hb with hb|hb
  ·exact h.ne k (hb▸j) t
  ·rw[hb]at j;injection j with j;have:=hz k t;omega
end
section
variable {α:Type} {S:cF α} {M N X Y:Nat->Prop} {base:Nat} {e:TypeId} {l:List α} {v:Value} {w w':World}
def i7(M:Nat->Prop)(S:cF α)(l:List α)(v:Value)(w:World):Prop :=
 ∃A c css,v=.slice A l.length c/\l.length<=c/\Reads w w.heap.size S.size A l.length css.flatten/\css.length=l.length/\(l≠[]->0<S.size->∀b h,A=some ⟨b,h,none⟩->¬M b)/\∀W,ah M w W->Each S l css W
theorem i7.ar(h:i7 M S l v w):Go.Proofs.YtoeiinllelipoaaGreat.ar S l v w:=by obtain⟨A,c,css,rfl,j,i,t,-,s⟩:=h;exact⟨A,c,rfl,⟨css,s w (ah.rf _ _),i⟩,j⟩
theorem i7.slice(h:i7 M S l v w):∃A c,v=.slice A l.length c:=az h.ar
theorem i7.st(h:i7 M S l v w)(k:K w w'):i7 M S l v w':=by obtain⟨A,c,css,rfl,s,i,j,hn,t⟩:=h;exact⟨A,c,css,rfl,s,(i.below k (aG _)).more k.size,j,hn,λW u=>t W ((ah.bg k _).tr u)⟩
theorem i7.to(h:i7 M S l v w)(u:ah X w w')(G:∀k,X k->M k)(D:∀k,k<w.heap.size->N k->M k)(T:0<S.size):i7 N S l v w':=by
 obtain⟨A,c,css,rfl,P,i,O,hn,I⟩:=h;have L:Reads w' w'.heap.size S.size A l.length css.flatten:=by
  refine⟨i.1,λC=>?_⟩;obtain⟨b,t,e,hb,R⟩:=i.2 C;refine⟨b,t,e,bB hb u.size,λj x B=>?_⟩;have H:l≠[]:=by intro e;have:=i.1;rw[e]at this;simp only[List.length_nil,Nat.zero_mul]at this;omega
  have y:=hn H T b t e;rw[<- R j x B];exact World.cell?_of_block (u.block b hb λB=>y (G b B))
 exact⟨A,c,css,rfl,P,L,O,λy E b t F J=>by
  have C:0<css.flatten.length:=by rw[i.1];exact Nat.mul_pos (List.length_pos_iff.2 y) E
  obtain⟨V,U,s,hb,-⟩:=i.2 C;rw[F]at s;injection s with s;injection s with e1 e2;subst e1;exact hn y E b t F (D b hb J),λW Q=>I W ((u.more G).iA Q D)⟩
theorem i7.fx(h:i7 M S l v w)(i:0<S.size):Fx M (λW=>Go.Proofs.YtoeiinllelipoaaGreat.ar S l v W) w:=λ_ u=>(h.to u (λ_ h=>h) (λ_ _ h=>h) i).ar
theorem i7.nil(M:Nat->Prop)(S:cF α)(w:World):i7 M S [] (.slice none 0 0) w:=⟨none,0,[],rfl,aG _,Reads.nil _ _ _ _,rfl,λh=>absurd rfl h,λ_ _=>Each.nil _ _⟩
theorem i7.at(h:i7 M S l v w)(i:Nat)(y:i<l.length)(E:0<S.size):∃b s c cs,v=.slice (some ⟨b,s,none⟩) l.length c/\¬M b/\cs.length=S.size/\Fx M (λW=>S.rel l[i] cs W) w/\∀W,ah M w W->∀j,j<S.size->W.cell? ⟨b,s+i*S.size+j,none⟩=cs[j]?:=by
 obtain⟨A,c,css,rfl,V,D,U,hn,C⟩:=h;obtain⟨cs,L,G,O,I⟩:=(C w (ah.rf _ _)).get i y;have H:0<css.flatten.length:=by rw[D.1];exact Nat.mul_pos af E
 obtain⟨b,s,rfl,hb,J⟩:=D.2 H;have B:=hn (by rintro rfl;simp at y) E b s rfl;refine⟨b,s,c,cs,rfl,B,G,λW u=>?_,λW u j N=>?_⟩
 ·obtain⟨Q,t,T,F,R⟩:=(C W u).get i y;rw[L]at t;injection t with t;subst t;exact F
 ·have:=I j N;rw[List.getElem?_eq_getElem (show j<cs.length by omega)]at this⊢;rw[Nat.add_assoc,<- J _ _ this];exact World.cell?_of_block (u.block b hb B)
theorem aT.GQ(h:aT Y base e S l v w)(s:∀k,N k->Y k∨v.ownBlock=some k)(hb:∀k,v.ownBlock=some k->¬N k):i7 N S l v w:=by
 obtain⟨css,i,t,y⟩:=h;have A:=i;rcases i.2 with ⟨rfl,j⟩|⟨g,cap,C,rfl,_,_,hn,_⟩
 ·obtain rfl:l=[]:=List.eq_nil_of_length_eq_zero j;exact i7.nil _ _ _
 ·refine⟨_,_,css,rfl,hn,Reads.xz A,t,λ_ _ b B e=>?_,λW u=>y W (u.more s)⟩;injection e with e;injection e with e1 e2;subst e1;exact hb g rfl
theorem aoN{b i:Nat}{u x:Value}(h:w.cell? ⟨b,i,none⟩=some u):(w.setCell ⟨b,i,none⟩ x).cell? ⟨b,i,none⟩=some x:=by
 unfold World.cell? at h⊢
 revert h
 cases hb:w.heap[b]? with
 | none=>simp
 | some o =>
  cases o <;> simp[World.setCell,Array.getElem?_modify,hb]
  intro h;have j:=(Array.getElem?_eq_some_iff.1 h).1;rw[Array.getElem?_setIfInBounds_self,if_pos j]
theorem Fx.fix(h:Fx M (λW=>ar S l v W) w)(hs:0<S.size)(hS:∀x cs W,S.rel x cs W->cs[0]?≠some (.bool true)):i7 M S l v w:=by
 obtain⟨A,c,rfl,⟨css,hE,hR⟩,hc⟩:=h.now;have R:l≠[]->0<S.size->∀b C,A=some ⟨b,C,none⟩->¬M b:=by rintro y-b C rfl hM;have hp:=List.length_pos_iff.2 y;obtain⟨cs,T,N,g3,g4⟩:=hE.get 0 hp;have E:0<css.flatten.length:=ahp;obtain⟨b',V,e,hb,O⟩:=hR.2 E;injection e with e;injection e with e1 e2;subst e1 e2;have U:=O 0 _ (List.getElem?_eq_getElem E);obtain⟨A',c',s,⟨D,t,hR'⟩,-⟩:=h (w.setCell ⟨b,C+0,none⟩ (.bool true)) (ah.b6 hM _ _);injection s with s _ _;subst s;have B:0<D.flatten.length:=ahq;obtain⟨b'',aC3,J,-,L⟩:=hR'.2 B;injection J with J;injection J with e1 e2;subst e1 e2;have Q:=L 0 _ (List.getElem?_eq_getElem B);rw[aoN U]at Q;obtain⟨Z,f1,f2,f3,f4⟩:=t.get 0 hp;refine hS _ _ _ f3 ?_;have:=f4 0 hs;simp only[Nat.zero_mul,fP]at this;rw[<- this,List.getElem?_eq_getElem B,<- Q]
 refine⟨A,c,css,rfl,hc,hR,hE.1,R,λW u=>?_⟩;obtain⟨A',c',s,⟨D,t,hR'⟩,-⟩:=h W u;injection s with s _ _;subst s;by_cases y:l=[]
 ·subst y;have:=hE.1;simp at this;subst this;exact Each.nil _ _
 have hp:=List.length_pos_iff.2 y;have E:0<css.flatten.length:=ahp;have B:0<D.flatten.length:=ahq;obtain⟨b,C,rfl,hb,O⟩:=hR.2 E;obtain⟨b',V,e,hb',L⟩:=hR'.2 B;injection e with e;injection e with e1 e2;subst e1 e2;have heq:css.flatten=D.flatten:=by
  refine List.ext_getElem (by rw[hR.1,hR'.1]) λj h1 I=>?_
  have T:=O j _ (List.getElem?_eq_getElem h1);have N:=L j _ (List.getElem?_eq_getElem I);rw[World.cell?_of_block (u.block b hb (R y hs b C rfl)),T]at N;injection N
 have:css=D:=by
  refine List.ext_getElem (by rw[hE.1,t.1]) λi h1 I=>?_
  obtain⟨cs,F,a2,a3,a4⟩:=hE.get i ahr;obtain⟨Z,H,b2,b3,Y⟩:=t.get i ahr;rw[List.getElem?_eq_getElem h1]at F;rw[List.getElem?_eq_getElem I]at H;injection F with F;injection H with H;rw[F,H];refine List.ext_getElem af λj X h4=>?_
  have G:=a4 j af;have q2:=Y j af;rw[heq,q2,List.getElem?_eq_getElem X,List.getElem?_eq_getElem h4]at G;injection G with G;exact G.symm
 rw[this];exact t
end
abbrev Yk(x:dZ)(vf:Value):List Value:=[.int .i64 x.cl,.int .u64 (x.sub:Int),vf]
abbrev jU(x:dZ)(vf:Value):Array Value:=#[.int .i64 x.cl,.int .u64 (x.sub:Int),vf]
def gQ:cF dZ where
 size:=3
 rel x cs w:=∃vf,cs=Yk x vf/\eJ x.f vf w
 len:=by rintro _ _ _⟨vf,rfl,_⟩;rfl
 one:=by rintro x _ _⟨vf,rfl,A,c,rfl,_⟩ u i;simp at i;rcases i with rfl|rfl|rfl <;> rfl
 st:=by rintro _ _ _ _⟨vf,rfl,h⟩ k;exact⟨vf,rfl,dB _ _ _ _ h k⟩
def sub(x:dZ)(v:Value)(w:World):Prop:=∃vf,v=.agg (jU x vf)/\eJ x.f vf w
theorem ajH{x:dZ}{v:Value}{w w':World}(h:sub x v w)(k:K w w'):sub x v w':=by obtain⟨vf,rfl,h⟩:=h;exact⟨vf,rfl,dB _ _ _ _ h k⟩
theorem axn:(prog.info? 206).map (λi=>(i.zero,i.size,i.bytes))=some (some (.agg #[.int .i64 0,.int .u64 0,.slice none 0 0]),3,40):=by kernel_rfl
theorem RO:gJ prog 137 206 (.agg #[.int .i64 0,.int .u64 0,.slice none 0 0]) 3 40:=⟨underlying137,axn,rfl,au⟩
theorem JX{α:Type}(q:α->Bool)(l:List α)(j:Nat)(h:j<l.length):(l.take (j+1)).filter q=(l.take j).filter q++(if q l[j]then [l[j]]else []):=by rw[gE h,List.filter_append];by_cases i:q l[j] <;> simp[i]
theorem ER(M:Nat->Prop)(l:List dZ)(v:Value)(q:dZ->Bool)(f:Nat)(cs:Array Value)(w:World)(h:i7 M gQ l v w)(hlen:l.length<=1000000)(hf:∀N W,(callFunc f N).run prog W=.ok (.enter f N) W)
 (T:∀W,K w W->∀x∈l,∀u,sub x u W->Calls prog f (#[u]++cs) W λe W'=>e=.returned (.bool (q x))/\K W W') :
 Calls prog 137 #[v,.func (.func f) #[] cs] w λe w'=>∃v',e=.returned v'/\aT M w.heap.size 206 gQ (l.filter q) v' w'/\K w w':=by
 have H:=ae h
 have HC:=ae T
 have kk:=K.rf w
 have hO:=aT.nil M w.heap.size 206 gQ w
 obtain⟨A,c,rfl⟩:=h.slice
 clear h T
 go_enter func137,ntmps137
 go_wp2_with fail
 go_loopw [5,7,10] (fun o _ i W=>∃j:Nat,j<=l.length/\i=.int .i64 (j:Int)/\aT M w.heap.size 206 gQ ((l.take j).filter q) o W/\K w W) (fun _ _ i _=>l.length-(intOf i).toNat)
 case atStart=>exact⟨0,af,rfl,Dz,kk⟩
 case round =>
  clear hO kk;obtain⟨j,hj,rfl,hO,kr⟩:=hrel;by_cases F:j<l.length
  ·have ba:(j:Int)<(l.length:Int):=af;obtain⟨b,V,c',cs1,E,wJ,hcl,G,d⟩:=H.aa.at j F au;injection E with E _ e2;subst E e2;have HT:=ae (JX q l j F);have hm:=bW F;generalize l[j]=x at *;obtain⟨vf,rfl,D⟩:=G.now;have R:Fx (λk=>M k∨w.heap.size<=k) (λW=>gQ.rel x (Value.agg (jU x vf)).cells.toList W) wr:=G.to (X:=λ_=>False) (ah.bg kr _) (λ_ h=>h.elim) λk hk s=>s.resolve_right af
   have dd:∀i,i<3->wr.cell? ⟨b,V+j*3+i,none⟩=(jU x vf)[i]?:=λi hi=>(d wr (ah.bg kr _) i hi).trans Array.getElem?_toList
   have d0:wr.cell? ⟨b,V+j*3,none⟩=some (.int .i64 x.cl):=dd 0 au;have s:=ai.new wr 206 (jU x vf);have t:K wr (wr.alloc (.cells (jU x vf) 206)):=(K.rf wr).al _;obtain⟨y,B,rfl⟩:=cB D;have I:=kr.tr t;have O:=hO.st t;have Q:=R.k t;have Z:=ae (HC.aa _ I x hm (.agg (jU x (.slice y x.f.length B))) ⟨_,rfl,dB _ _ _ _ D (kr.tr t)⟩);clear hcl D G R d hm hO;go_upto_region 5 with (fail);generalize wr.alloc _=w1 at *;clear dd d0;have q7:=s.cell;go_wp2_with fail
   refine Z.aa.mono ?_;rintro e Y⟨rfl,C⟩;have pK:=I.tr C;have cD:=O.st C;have EB:=Q.k C;have q72:=(s.below C s.lt).cell;clear Z q7 O Q s t;cases hq:q x
   ·exact ahs
   have kJ:Hid ((l.take (j+1)).filter q=(l.take j).filter q++[x]):=ae Wf;have bN:=cD.blk;have L:=fE.new (S:=gQ) (e:=206) (v:=.agg (jU x (.slice y x.f.length B))) EB 0 (fw _);have J:=cD.st ((K.rf Y).al (.cells (jU x (.slice y x.f.length B)) 206));have U:=pK.tr ((K.rf Y).al (.cells (jU x (.slice y x.f.length B)) 206));have D:=lV q (l.take j);have yF:(l.take j).length<=1000000:=aU;clear cD EB;go_wp2_with (at_builtin;refine jK rfl _ _ 137 rfl _ 3 40 RO rfl rfl J _ rfl x ?p1 ?p2 ?p3 ?_)
   case p1=>exact L.less λk hk=>aht
   case p2=>omega
   case p3=>exact U.size
   intro v9 w9 bG bJ _ bo;rw[<- kJ.aa]at bG;have il:=U.trans bo;clear L J q72;exact Pz
  ·exact Pv
theorem abu(M:Nat->Prop)(l:List (List bh))(v:Value)(q:List bh->Bool)(f:Nat)(cs:Array Value)(w:World)(h:i7 M dJ l v w)(hlen:l.length<=1000000)(hf:∀I W,(callFunc f I).run prog W=.ok (.enter f I) W)
 (L:∀W,K w W->∀x∈l,∀u,ik x u W->Calls prog f (#[u]++cs) W λe W'=>e=.returned (.bool (q x))/\K W W') :
 Calls prog 140 #[v,.func (.func f) #[] cs] w λe w'=>∃U,e=.returned U/\aT M w.heap.size 34 dJ (l.filter q) U w'/\K w w':=by
 have H:=ae h
 have Z:=ae L
 have kk:=K.rf w
 have hO:=aT.nil M w.heap.size 34 dJ w
 obtain⟨A,c,rfl⟩:=h.slice
 clear h L
 go_enter func140,ntmps140
 go_wp2_with fail
 go_loopw [5,7,10] (fun o _ i W=>∃j:Nat,j<=l.length/\i=.int .i64 (j:Int)/\aT M w.heap.size 34 dJ ((l.take j).filter q) o W/\K w W) (fun _ _ i _=>l.length-(intOf i).toNat)
 case atStart=>exact⟨0,af,rfl,Dz,kk⟩
 case round =>
  clear hO kk;obtain⟨j,hj,rfl,hO,kr⟩:=hrel;by_cases t:j<l.length
  ·have ba:(j:Int)<(l.length:Int):=af;obtain⟨b,off,c',cs1,s,wJ,Y,C,d⟩:=H.aa.at j t au;injection s with s _ e2;subst s e2;have HT:=ae (JX q l j t);have hm:=bW t;generalize l[j]=x at *;obtain⟨O,rfl,B⟩:=C.now;have J:Fx (λk=>M k∨w.heap.size<=k) (λW=>dJ.rel x [O] W) wr:=C.to (X:=λ_=>False) (ah.bg kr _) (λ_ h=>h.elim) λk hk V=>V.resolve_right af
   have d0:wr.cell? ⟨b,off+j,none⟩=some O:=by simpa [dJ]using d wr (ah.bg kr _) 0 (by decide)
   obtain⟨y,D,rfl⟩:=vN B;have R:=ae (Z.aa _ kr x hm _ (mR _ _ _ _ B kr));clear Y B C d hm;go_wp2_with fail
   refine R.aa.mono ?_;rintro e Q⟨rfl,E⟩;have pK:=kr.tr E;have cD:=hO.st E;have T:=J.k E;clear R hO J d0;cases hq:q x
   ·exact ahs
   have kJ:Hid ((l.take (j+1)).filter q=(l.take j).filter q++[x]):=ae Wf;have bN:=cD.blk;have G:=fE.new (S:=dJ) (e:=34) (v:=.slice y x.length D) T 0 (fw _);have F:=cD.st ((K.rf Q).al (.cells #[.slice y x.length D] 34));have N:=pK.tr ((K.rf Q).al (.cells #[.slice y x.length D] 34));have cC:=lV q (l.take j);have yF:(l.take j).length<=1000000:=aU;clear cD T;go_wp2_with (at_builtin;refine jK rfl _ _ 69 rfl _ 1 24 Ml rfl rfl F _ rfl x ?p1 ?p2 ?p3 ?_)
   case p1=>exact G.less λk hk=>aht
   case p2=>omega
   case p3=>exact N.size
   intro v9 w9 bG bJ _ bo;rw[<- kJ.aa]at bG;have il:=N.trans bo;clear G F;exact Pz
  ·exact Pv
theorem Tw(f:List bc)(v:Value)(w:World)(h:eJ f v w)(C:f.length<=1000000) :
 Calls prog 197 #[v] w λe w'=>∃j,e=.returned j/\fC w' w.heap.size j f/\K w w':=by
 obtain⟨A,c,rfl,u⟩:=h
 go_enter func197,ntmps197
 go_wp2_with (at_builtin;refine iC rfl _ _ 36 rfl w.heap.size 81 _ 5 56 TF _ 0 [] rfl (iF _ _ _ _) _ A f.length c (f.flatMap dY) rfl u (Ic f) ?p1 (aG _) ?_)
 case p1=>omega
 intro s t i _ _ y
 have B:=ae (show fC t w.heap.size s f from i)
 obtain⟨D,c1,rfl,-⟩:=(show fC t w.heap.size s f from i).slice
 clear i
 go_wp2
 go_ret
 exact⟨_,rfl,B.aa,y⟩
structure IZ(base lo:Nat)(l:List dZ)(v:Value)(css:List (List Value))(j:Nat)(W:World):Prop where
 row:W.ownsRow base 206 3 v l.length css.flatten
 len:css.length=l.length
 a:∀i (h:i<l.length) (h':i<css.length),i<j->∀W',ah (λk=>k<lo∨v.ownBlock=some k) W W'->gQ.rel l[i] css[i] W'
 b:∀i (h:i<l.length) (h':i<css.length),j<=i->∀W',ah (λk=>v.ownBlock=some k) W W'->gQ.rel l[i] css[i] W'
theorem IZ.st{base lo:Nat}{l:List dZ}{v:Value}{css:List (List Value)}{j:Nat}{W B:World}(h:IZ base lo l v css j W)(k:K W B):IZ base lo l v css j B :=
 ⟨fZ h.row k,h.len,λi s t y A u=>h.a i s t y A ((ah.bg k _).tr u),λi s t y A u=>h.b i s t y A ((ah.bg k _).tr u)⟩
theorem ab3(Y:Nat->Prop)(base:Nat)(l:List dZ)(v:Value)(w:World)(h:aT Y base 206 gQ l v w)(hlen:l.length<=1000000)(hs:∀x∈l,x.f.length<=1000000) :
 Calls prog 145 #[v] w λe w'=>e=.returned v/\aT (λk=>k<w.heap.size) base 206 gQ l v w'/\ah (λk=>v.ownBlock=some k) w w':=by
 have hblk:=h.blk
 obtain⟨css,I,T,V⟩:=h
 have J:IZ base w.heap.size l v css 0 w:=⟨I,T,λi h y B=>absurd B af,λi h y _ t u=>(V t (u.more λk hk=>.inr hk)).2 i h y⟩
 have HS:=ae hs
 have U:ah (λk=>v.ownBlock=some k) w w:=ah.rf _ _
 obtain⟨A,c,hv⟩:∃A c,v=.slice A l.length c:=by
  rcases I.2 with ⟨rfl,Z⟩|⟨g,cap,cur,rfl,_⟩
  ·exact⟨none,0,by rw[Z]⟩
  ·exact⟨_,_,rfl⟩
 clear I T V hs
 subst hv
 go_enter func145,ntmps145
 go_wp2_with fail
 go_loopw [3,6] (fun _ i W=>∃j:Nat,j<=l.length/\i=.int .i64 (j:Int)/\(∃css,IZ base w.heap.size l (.slice A l.length c) css j W)/\ah (fun k=>(Value.slice A l.length c).ownBlock=some k) w W) (fun _ i _=>l.length-(intOf i).toNat)
 case atStart=>exact⟨0,af,rfl,⟨_,J⟩,U⟩
 case round =>
  clear J U;obtain⟨j,hj,rfl,⟨cs,s⟩,u⟩:=hrel;by_cases hlt:j<l.length
  ·have ba:(j:Int)<(l.length:Int):=af;have hcl:=s.len;have hrel:=s.b j hlt af (aG _) wr (ah.rf _ _);have hxl:=HS.aa _ (bW hlt);obtain⟨vf,ecs,S⟩:=hrel;obtain⟨g,hA⟩:∃g,A=some ⟨g,0,none⟩:=by
    rcases s.row.2 with ⟨_,Z⟩|⟨g,cap,cur,e,_⟩
    ·omega
    ·injection e with e;exact⟨g,e⟩
   subst hA;have hgb:=(hblk g rfl).2;have hz:=u.size;obtain⟨q,z⟩:=EW s.row;have O:∀c∈cs,c.length=3:=by
    intro c hc;obtain⟨i,B,rfl⟩:=List.mem_iff_getElem.1 hc;by_cases hij:i<j
    ·exact gQ.len (s.a i af B hij wr (ah.rf _ _))
    ·exact gQ.len (s.b i af B af wr (ah.rf _ _))
   have Q:=s.row.1;have L:cs[j]=Yk l[j] vf:=ecs;have q2:wr.cell? ⟨g,j*3+2,none⟩=some vf:=by rw[q _ (by rw[Q];omega),vK 3 cs O j 2 af au,List.getElem?_eq_getElem (show j<cs.length by omega),L];rfl
   have J:=ae s;have HCJ:=ae L;have HL:=ae O;have Mk:=ae Q;have HEL:Hid (∀t,eJ l[j].f vf t->gQ.rel l[j] (Yk l[j] vf) t):=ae λt h=>⟨vf,rfl,h⟩
   have zU:=S;obtain⟨Af,cf,rfl⟩:=cB zU;have C1:=ae (Tw l[j].f _ wr S hxl);clear zU S s O Q L q ecs hxl;go_wp2_with fail
   refine C1.aa.mono ?_;rintro e C⟨v2,rfl,N,R⟩;have E:=J.aa.st R;have hz2:=(EW E.row).2;have q3:C.cell? ⟨g,j*3+2,none⟩=some (.slice Af l[j].f.length cf):=by rw[R.cell (by simp;omega)];exact q2
   have uU:=ae N.rel;obtain⟨H,c2,rfl,-⟩:=N.slice;clear C1 q2 z N;go_upto_region 5 with (fail);have M:=Vg E.row (q:=j*3+2) (by rw[Mk.aa];omega) (.slice H l[j].f.length c2);rw[N5 3 _ cs HL.aa j 2 af au]at M;have F:ah (λk=>(Value.slice (some ⟨g,0,none⟩) l.length c).ownBlock=some k) C (C.setCell ⟨g,j*3+2,none⟩ (.slice H l[j].f.length c2)):=ah.b6 (X:=λk=>(Value.slice (some ⟨g,0,none⟩) l.length c).ownBlock=some k) rfl _ _;have u9:=(u.tr (ah.bg R _)).tr F;have hJ9:IZ base w.heap.size l (.slice (some ⟨g,0,none⟩) l.length c) (cs.set j ((cs[j]).set 2 (.slice H l[j].f.length c2))) (j+1) (C.setCell ⟨g,j*3+2,none⟩ (.slice H l[j].f.length c2)):=by
    refine⟨M,by simp[hcl],λi h y B t D=>?_,λi h y B t D=>?_⟩
    ·by_cases e:i=j
     ·subst e;rw[List.getElem_set_self,HCJ.aa];refine⟨_,rfl,uU.aa t ?_⟩;have u4:ah (λk=>k<w.heap.size∨(Value.slice (some ⟨g,0,none⟩) l.length c).ownBlock=some k) C t:=(F.more λk hk=>.inr hk).tr D;exact u4.iK λk I _ _ G=>by
       rcases G with G|G
       ·omega
       ·have:g=k:=by injection G
        omega
     ·rw[List.getElem_set_ne af];exact E.a i h af af t ((F.more λk hk=>.inr hk).tr D)
    ·rw[List.getElem_set_ne af];exact E.b i h (by simpa using y) af t (F.tr D)
   clear E hz2 q3 M F;generalize C.setCell _ _=w3 at *;go_wp2;go_roundw
   case rel=>exact⟨j+1,af,bO,⟨_,hJ9⟩,u9⟩
   case measure=>simp[intOf];omega
  ·have ba:¬(j:Int)<(l.length:Int):=af;obtain rfl:j=l.length:=af;have HF:Hid (aT (λk=>k<w.heap.size) base 206 gQ l (.slice A l.length c) wr):=ae ⟨cs,s.row,s.len,λt D=>⟨s.len,λi h y=>s.a i h y h t D⟩⟩;clear s;go_wp2;go_ret;exact⟨rfl,HF.aa,u⟩
theorem Tp(es:List (List bh))(v:Value)(w:World)(h:ar dJ es v w)(hlen:es.length<=1000000)(L:∀e∈es,e.length<=1000000) :
 Calls prog 139 #[v] w λe w'=>∃J,e=.returned J/\aX w.heap.size w.heap.size 34 dJ es J w'/\K w w':=by
 obtain⟨D,d,rfl,Q,hd⟩:=h
 have yi:=ae L
 have M:=K.rf w
 clear L
 go_enter func139,ntmps139
 go_wp2_with fail
 go_loopw [3,5,8] (fun o _ i W=>∃j:Nat,j<=es.length/\i=.int .i64 (j:Int)/\aX w.heap.size w.heap.size 34 dJ (es.take j) o W/\K w W) (fun _ _ i _=>es.length-(intOf i).toNat)
 case atStart=>exact⟨0,af,rfl,Fa,M⟩
 case round =>
  clear M;obtain⟨j,hj,rfl,y,kr⟩:=hrel;by_cases hlt:j<es.length
  ·have ba:(j:Int)<(es.length:Int):=af;obtain⟨b1,T,cs,rfl,aO,hcl,⟨V,rfl,H⟩,hcell⟩:=DF Q j hlt au;have d0:wr.cell? ⟨b1,T+j,none⟩=some V:=by exact OZ
   have HT:Hid (es.take (j+1)=es.take j++[es[j]]):=ae Fe;have hej:=yi.aa _ (bW hlt);have zh:=mR _ _ _ _ H kr;generalize es[j]=s at *;obtain⟨S,Y,rfl,N⟩:=zh;have gA:(es.take j).length<=1000000:=aU;have ZO:=kr.size;clear hcell H;go_wp2_with (at_builtin;refine iC rfl _ _ 34 rfl wr.heap.size 84 _ 4 48 TE _ 0 [] rfl (iF _ _ _ _) _ S s.length Y (s.flatMap jQ) rfl N (Um s) ?p1 (aG _) ?_)
   case p1=>omega
   intro F t C _ _ B;have Q7:=ae (po.rel (show po t wr.heap.size F s from C));obtain⟨A,c2,rfl,-⟩:=(show po t wr.heap.size F s from C).slice;have ll:=y.blk;have Z:=y.st B;have U:=kr.tr B;obtain⟨css,E,hcl,ln⟩:=Z;have iX:=B.size;clear y B C;have kA:K t (t.alloc (.cells #[.slice A s.length c2] 34)):=(K.rf t).al _;have O:w.heap.size<=(t.alloc (.cells #[.slice A s.length c2] 34)).heap.size:=K5;go_wp2_with (at_builtin;refine iC rfl _ _ 69 rfl w.heap.size 34 _ 1 24 Ml _ _ _ rfl (pg E _) (t.heap.size+1) _ 1 1 [.slice A s.length c2] rfl ?c1 ?c2 ?c3 O ?_)
   case c1=>exact Reads.new t [.slice A s.length c2] 34 1 1 rfl
   case c2=>intro u I;simp at I;subst I;rfl
   case c3=>omega
   intro R w9 eU bJ dc G;have k9:=(U.tr kA).trans G;have bG:aX w.heap.size w.heap.size 34 dJ (es.take (j+1)) R w9:=by exact ahu
   clear eU bJ dc G E ln;exact VS
  ·have ba:¬(j:Int)<(es.length:Int):=af;rw[eT af]at y;have X:=ae y;obtain⟨Ao,co,rfl,-⟩:=y.slice;clear y;go_wp2;go_ret;exact⟨_,rfl,X.aa,kr⟩
theorem arp(a:Int)(w:World):Calls prog 204 #[.int .i64 a] w λe w'=>e=.returned (.bool false)/\K w w':=by have kk:=K.rf w;go_enter func204,ntmps204;go_wp2;go_ret;exact⟨aj,kk⟩
theorem arq(a b:Int)(w:World):Calls prog 149 #[.int .i64 a,.int .i64 b] w λe w'=>e=.returned (.int .i64 (gM a b))/\K w w':=by
 have C1:=ae λa W=>arp a W
 have HR:Hid (gM a b=if a<b then -1 else if b<a then 1 else 0):=ae rfl;generalize gM a b=R at *;go_enter func149,ntmps149;exact ahv
theorem ars(a:Int)(w:World):Calls prog 205 #[.int .u64 a] w λe w'=>e=.returned (.bool false)/\K w w':=by have kk:=K.rf w;go_enter func205,ntmps205;go_wp2;go_ret;exact⟨aj,kk⟩
theorem art(a b:Int)(w:World):Calls prog 150 #[.int .u64 a,.int .u64 b] w λe w'=>e=.returned (.int .i64 (gM a b))/\K w w':=by
 have C1:=ae λa W=>ars a W
 have HR:Hid (gM a b=if a<b then -1 else if b<a then 1 else 0):=ae rfl;generalize gM a b=R at *;go_enter func150,ntmps150;exact ahv
def GR(l:List Int):Int:=(l.find? λn=>decide (n≠0)).getD 0
theorem ax9(a b:Int):GR [a,b]=if a != 0 then a else b:=by unfold GR;by_cases h:a=0 <;> by_cases hb:b=0 <;> simp[h,hb]
theorem aom{α:Type}(p:α->Bool)(l:List α)(j:Nat)(s:j<l.length)(h:(l.take j).find? p=none):(l.take (j+1)).find? p=if p l[j]then some l[j]else none:=by rw[gE s,List.find?_append,h];by_cases i:p l[j] <;> simp[i]
theorem apj{α:Type}(p:α->Bool)(l:List α)(j:Nat)(x:α)(h:(l.take j).find? p=some x):l.find? p=some x:=by rw[<- List.take_append_drop j l,List.find?_append,h];rfl
theorem ate(l:List Int)(v:Value)(w:World)(h:ar eS l v w)(L:l.length<=1000000):Calls prog 148 #[v] w λe w'=>e=.returned (.int .i64 (GR l))/\K w w':=by
 obtain⟨A,c,rfl,y,-⟩:=h;have kk:=K.rf w;have B:Hid (GR l=(l.find? λn=>decide (n≠0)).getD 0):=ae rfl;generalize GR l=R at *;go_enter func148,ntmps148;go_wp2_with fail
 go_loopw [5,8] (fun _ i W=>∃j:Nat,j<=l.length/\i=.int .i64 (j:Int)/\Hid ((l.take j).find? (fun n=>decide (n≠0))=none)/\K w W) (fun _ i _=>l.length-(intOf i).toNat)
 case atStart=>exact⟨0,af,rfl,ae aj,kk⟩
 case round =>
  clear kk;obtain⟨j,J,rfl,u,kr⟩:=hrel;by_cases t:j<l.length
  ·have E:(j:Int)<(l.length:Int):=af;obtain⟨b,H,rfl,D⟩:=Go.Proofs.YtoeiinllelipoaaGreat.ints_at y af;have I:=D wr kr j t;have C:=ae (aom (λn=>decide (n≠0)) l j t u.aa);have F:=ae (apj (λn=>decide (n≠0)) l (j+1));generalize l[j]=x at *;clear D y;by_cases s:x=0
   ·have kJ:Hid ((l.take (j+1)).find? (λn=>decide (n≠0))=none):=ae (by rw[C.aa,s];simp);subst s;exact aff
   ·have HE:Hid (R=x):=ae (by rw[B.aa,F.aa x (by rw[C.aa];simp[s])];rfl);have G:(x != 0)=true:=by simpa using s
    exact K0
  ·have E:¬(j:Int)<(l.length:Int):=af;have HE:Hid (R=0):=ae (by
    have:=u.aa;rw[eT af]at this;rw[B.aa,this];rfl)
   exact K0
theorem ab4(s:dZ)(x:aq)(v vf O:Value)(g:Nat)(w:World)(h:sub s v w)(hg:ai w g 102 (aA x vf O)) :
 Calls prog 147 #[v,.pointer (some ⟨g,0,none⟩)] w λe w'=>e=.returned (.int .i64 (jk s x))/\K w w':=by
 have HR:Hid (jk s x=GR [gM s.cl x.cl,gM (s.sub:Int) (x.sub:Int)]):=ae (by rw[ax9];rfl)
 obtain⟨Q,rfl,J⟩:=h
 obtain⟨A,c,rfl⟩:=cB J
 have F:K w (w.alloc (.cells (jU s (.slice A s.f.length c)) 206)):=(K.rf w).al _
 have hb:=ai.new w 206 (jU s (.slice A s.f.length c))
 have E:=hg.cells
 generalize jk s x=R at *
 clear J hg
 go_enter func147,ntmps147
 go_upto_region 1 with (fail)
 generalize w.alloc _=M at *
 generalize w.heap.size=T at hb⊢
 have u:=hb.cells
 have t:=λW (k:K M W)=>E W (F.tr k)
 have I:=ae λW=>arq s.cl x.cl W
 have H:=ae λW=>art (s.sub:Int) (x.sub:Int) W
 have G:=ae λv W (h:ar eS [gM s.cl x.cl,gM (s.sub:Int) (x.sub:Int)] v W)=>ate _ v W h aj
 generalize gM s.cl x.cl=y at *
 generalize gM (s.sub:Int) (x.sub:Int)=B at *
 generalize GR [y,B]=L at *
 clear E hb
 refine eM 13 [([],[]),([0],[(4,0)]),([],[]),([2],[(6,2)]),([1,3],[(5,1),(7,3)]),([],[]),([5],[(9,5)]),([],[]),([7],[(11,7)]),([6,8],[(10,6),(12,8)]),([4,9],[(8,4),(13,9)]),([10],[(14,10)]),([11],[(15,11)])] 16 rfl ak ak ak ak au ?_
 simp only[dR,dN,ew,dP]
 iterate 4 (apply aV.is;intro V W j i;(try simp only[aI,aJ,aM,aE,aF,ag]at i);simp[aL,aw,List.lookup,i,aS,execOp,ay,ag,aN,j,u,t,go_sem];rfl)
 refine aV.is (.int .i64 y) (λV W j i=>?_) ?_
 ·(try simp only[aI,aJ,aM,aE,aF,ag]at i)
  simp[aL,aw,List.lookup,i,aS,execOp,ay,ag,u,t,go_sem];refine (I.aa W).mono ?_;exact sW
 iterate 4 (apply aV.is;intro V W j i;(try simp only[aI,aJ,aM,aE,aF,ag]at i);simp[aL,aw,List.lookup,i,aS,execOp,ay,ag,aN,j,u,t,go_sem];rfl)
 refine aV.is (.int .i64 B) (λV W j i=>?_) ?_
 ·(try simp only[aI,aJ,aM,aE,aF,ag]at i)
  simp[aL,aw,List.lookup,i,aS,execOp,ay,ag,u,t,go_sem];refine (H.aa W).mono ?_;exact sW
 refine aV.op (λv W=>ar eS [y,B] v W) (λ_ _ _ h k=>aW h k) (λV W j i=>?_) ?_
 ·simp only[aI,aJ,aM,aE,aF,ag]at i;simp[aL,aw,List.lookup,i,aS,execOp,ay,go_sem];exact⟨⟨_,_,rfl,⟨[y,B].map zo,J8 _ _,(Reads.new W [.int .i64 y,.int .i64 B] 3 1 2 rfl).more aj⟩,aj⟩,(K.rf W).al _⟩
 refine aV.is (.int .i64 L) (λV W j i=>?_) ?_
 ·simp only[aI,aJ,aM,aE,aF,ag]at i;obtain⟨C,-⟩:=i;obtain⟨S,X,U⟩:=az C;simp[aL,aw,List.lookup,C,aS,execOp,ay,ag,go_sem];refine (G.aa _ W C).mono ?_;exact sW
 (apply aV.is;intro V W j i;(try simp only[aI,aJ,aM,aE,aF,ag]at i);simp[aL,aw,List.lookup,i,aS,execOp,ay,ag,aN,j,u,t,go_sem];rfl)
 intro V W j D
 simp only[aJ,aM,eA,ag,Nat.reduceAdd]at D
 refine bu.nil ?_
 simp only[bF,Act.put,cO,cM,cL,Nat.reduceAdd,D]
 have N:=F.tr j
 clear D u t I H G
 go_wp2
 go_ret
 exact⟨fo,N⟩
