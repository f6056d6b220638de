/-
  The walks of broker.whole, order.whole, vote.whole: an entry in memory of its own. Conditions: lists of at most a million.
-/
import Derived.Test.YtoeiinllelipoaaGreatMa17
import Derived.Test.YtoeiinllelipoaaGreatMz
set_option maxRecDepth 100000
set_option maxHeartbeats 16000000
set_option linter.unusedVariables false
set_option linter.unusedSimpArgs false
namespace Go.Proofs.YtoeiinllelipoaaGreat
open Go Go.RowKit Tryz
theorem Fi{B:Nat}{x:aq}{v:Value}{w:World}(h:um B x v w):∃vf s,v=.agg (aA x vf s)/\Fx (λk=>k<B) (λW=>aQ.rel x (aA x vf s).toList W) w:=by have j:=h;obtain⟨vf,s,e,-,-⟩:=h;refine⟨vf,s,e,λW u=>?_⟩;obtain⟨y,A,i,t,j⟩:=auu (avP j W (u.iK λk t _ _ j=>af));rw[e]at i;injection i with i;exact⟨y,A,congrArg Array.toList i,t,j⟩
theorem apf(x:aq)(v:Value)(w:World)(h:cR x v w)(X:eD x) :
 Calls prog 75 #[v] w λe w'=>∃M,e=.returned M/\um w.heap.size x M w'/\K w w':=by
 have U:=ae func75
 have O:=ae ntmps75
 have zR:=ae results75
 obtain⟨vf,ve,rfl,V,he⟩:=h
 obtain⟨A,c,J,H⟩:=V
 obtain rfl:=J
 obtain⟨D,d,J,he,S⟩:=he
 obtain rfl:=J
 obtain⟨Y,R,I⟩:=X
 obtain⟨k,b,l,s,cl,u,f,es⟩:=x
 simp only at H he S Y R I⊢
 have B:=(ai.new w 102 (aA ⟨k,b,l,s,cl,u,f,es⟩ (.slice A f.length c) (.slice D es.length d))).alloc (.cells ez 102)
 have C:=ai.new (w.alloc (.cells (aA ⟨k,b,l,s,cl,u,f,es⟩ (.slice A f.length c) (.slice D es.length d)) 102)) 102 ez
 have G:K w ((w.alloc (.cells (aA ⟨k,b,l,s,cl,u,f,es⟩ (.slice A f.length c) (.slice D es.length d)) 102)).alloc (.cells ez 102)):=((K.rf w).al _).al _
 have hz:(w.alloc (.cells (aA ⟨k,b,l,s,cl,u,f,es⟩ (.slice A f.length c) (.slice D es.length d)) 102)).heap.size=w.heap.size+1:=aj
 rw[hz]at C
 clear hz
 have yi:=ae I
 clear I
 go_enter U.aa,O.aa
 go_upto_region 1 with (fail)
 generalize World.alloc (World.alloc w _) _=w1 at *
 have T:=(H.below G (aG _)).more G.size
 have hr1:=C.lt
 clear H
 have q:=B.cell
 have z:=B.frozen
 go_wp2_with (at_builtin;refine iC rfl _ _ 36 rfl w1.heap.size 81 _ 5 56 TF _ 0 [] rfl (iF _ _ _ _) _ A f.length c (f.flatMap dY) rfl T (Ic f) ?p1 (aG _) ?_)
 case p1=>omega
 intro Q t F _ _ aO
 have E:=B.below aO B.lt
 have L:=C.below aO C.lt
 have N:=G.tr aO
 obtain⟨A1,c1,rfl,-⟩:=(show fC t w1.heap.size Q f from F).slice
 clear q z B C
 have q:=E.cell
 have z:=E.frozen
 have Z:=aO.size
 clear aO
 go_upto_region 3 with (fail)
 have eI:ai (t.setCell ⟨w.heap.size,6,none⟩ (.slice A1 f.length c1)) w.heap.size 102 #[.int .i64 k,.int .i64 b,.int .u64 (l:Int),.int .u64 (s:Int),.int .i64 cl,.int .u64 (u:Int),.slice A1 f.length c1,.slice D es.length d]:=E.aR 6 (.slice A1 f.length c1)
 have dz:=L.far (p:=⟨w.heap.size,6,none⟩) aj (.slice A1 f.length c1)
 have k3:K w (t.setCell ⟨w.heap.size,6,none⟩ (.slice A1 f.length c1)):=K.set N (aG _) 6 _
 have eY:fC (t.setCell ⟨w.heap.size,6,none⟩ (.slice A1 f.length c1)) w1.heap.size (.slice A1 f.length c1) f:=fC.up F (aH.set af 6 _)
 have rA:w.heap.size+1<(t.setCell ⟨w.heap.size,6,none⟩ (.slice A1 f.length c1)).heap.size:=KJ
 clear E L N F q z
 generalize t.setCell _ _=w3 at *
 have uI:=K.rf w3
 have q:=eI.cell
 go_wp2_with fail
 clear q
 go_loopw [3,5,13] (fun o _ i W=>∃j:Nat,j<=es.length/\i=.int .i64 (j:Int)/\aX w3.heap.size w3.heap.size 34 dJ (es.take j) o W/\K w3 W) (fun _ _ i _=>es.length-(intOf i).toNat)
 case atStart=>exact⟨0,af,rfl,Fa,uI⟩
 case round => exact KK
theorem NY(x:aq)(v:Value)(w:World)(h:cR x v w)(X:eD x) :
 Calls prog 180 #[v] w λe w'=>∃M,e=.returned M/\um w.heap.size x M w'/\K w w':=by
 have U:=ae func180
 have O:=ae ntmps180
 have zR:=ae results180
 obtain⟨vf,ve,rfl,V,he⟩:=h
 obtain⟨A,c,J,H⟩:=V
 obtain rfl:=J
 obtain⟨D,d,J,he,S⟩:=he
 obtain rfl:=J
 obtain⟨Y,R,I⟩:=X
 obtain⟨k,b,l,s,cl,u,f,es⟩:=x
 simp only at H he S Y R I⊢
 have B:=(ai.new w 102 (aA ⟨k,b,l,s,cl,u,f,es⟩ (.slice A f.length c) (.slice D es.length d))).alloc (.cells ez 102)
 have C:=ai.new (w.alloc (.cells (aA ⟨k,b,l,s,cl,u,f,es⟩ (.slice A f.length c) (.slice D es.length d)) 102)) 102 ez
 have G:K w ((w.alloc (.cells (aA ⟨k,b,l,s,cl,u,f,es⟩ (.slice A f.length c) (.slice D es.length d)) 102)).alloc (.cells ez 102)):=((K.rf w).al _).al _
 have hz:(w.alloc (.cells (aA ⟨k,b,l,s,cl,u,f,es⟩ (.slice A f.length c) (.slice D es.length d)) 102)).heap.size=w.heap.size+1:=aj
 rw[hz]at C
 clear hz
 have yi:=ae I
 clear I
 go_enter U.aa,O.aa
 go_upto_region 1 with (fail)
 generalize World.alloc (World.alloc w _) _=w1 at *
 have T:=(H.below G (aG _)).more G.size
 have hr1:=C.lt
 clear H
 have q:=B.cell
 have z:=B.frozen
 go_wp2_with (at_builtin;refine iC rfl _ _ 36 rfl w1.heap.size 81 _ 5 56 TF _ 0 [] rfl (iF _ _ _ _) _ A f.length c (f.flatMap dY) rfl T (Ic f) ?p1 (aG _) ?_)
 case p1=>omega
 intro Q t F _ _ aO
 have E:=B.below aO B.lt
 have L:=C.below aO C.lt
 have N:=G.tr aO
 obtain⟨A1,c1,rfl,-⟩:=(show fC t w1.heap.size Q f from F).slice
 clear q z B C
 have q:=E.cell
 have z:=E.frozen
 have Z:=aO.size
 clear aO
 go_upto_region 3 with (fail)
 have eI:ai (t.setCell ⟨w.heap.size,6,none⟩ (.slice A1 f.length c1)) w.heap.size 102 #[.int .i64 k,.int .i64 b,.int .u64 (l:Int),.int .u64 (s:Int),.int .i64 cl,.int .u64 (u:Int),.slice A1 f.length c1,.slice D es.length d]:=E.aR 6 (.slice A1 f.length c1)
 have dz:=L.far (p:=⟨w.heap.size,6,none⟩) aj (.slice A1 f.length c1)
 have k3:K w (t.setCell ⟨w.heap.size,6,none⟩ (.slice A1 f.length c1)):=K.set N (aG _) 6 _
 have eY:fC (t.setCell ⟨w.heap.size,6,none⟩ (.slice A1 f.length c1)) w1.heap.size (.slice A1 f.length c1) f:=fC.up F (aH.set af 6 _)
 have rA:w.heap.size+1<(t.setCell ⟨w.heap.size,6,none⟩ (.slice A1 f.length c1)).heap.size:=KJ
 clear E L N F q z
 generalize t.setCell _ _=w3 at *
 have uI:=K.rf w3
 have q:=eI.cell
 go_wp2_with fail
 clear q
 go_loopw [3,5,13] (fun o _ i W=>∃j:Nat,j<=es.length/\i=.int .i64 (j:Int)/\aX w3.heap.size w3.heap.size 34 dJ (es.take j) o W/\K w3 W) (fun _ _ i _=>es.length-(intOf i).toNat)
 case atStart=>exact⟨0,af,rfl,Fa,uI⟩
 case round => exact KK
theorem apg(x:aq)(v:Value)(w:World)(h:cR x v w)(X:eD x) :
 Calls prog 234 #[v] w λe w'=>∃M,e=.returned M/\um w.heap.size x M w'/\K w w':=by
 have U:=ae func234
 have O:=ae ntmps234
 have zR:=ae results234
 obtain⟨vf,ve,rfl,V,he⟩:=h
 obtain⟨A,c,J,H⟩:=V
 obtain rfl:=J
 obtain⟨D,d,J,he,S⟩:=he
 obtain rfl:=J
 obtain⟨Y,R,I⟩:=X
 obtain⟨k,b,l,s,cl,u,f,es⟩:=x
 simp only at H he S Y R I⊢
 have B:=(ai.new w 102 (aA ⟨k,b,l,s,cl,u,f,es⟩ (.slice A f.length c) (.slice D es.length d))).alloc (.cells ez 102)
 have C:=ai.new (w.alloc (.cells (aA ⟨k,b,l,s,cl,u,f,es⟩ (.slice A f.length c) (.slice D es.length d)) 102)) 102 ez
 have G:K w ((w.alloc (.cells (aA ⟨k,b,l,s,cl,u,f,es⟩ (.slice A f.length c) (.slice D es.length d)) 102)).alloc (.cells ez 102)):=((K.rf w).al _).al _
 have hz:(w.alloc (.cells (aA ⟨k,b,l,s,cl,u,f,es⟩ (.slice A f.length c) (.slice D es.length d)) 102)).heap.size=w.heap.size+1:=aj
 rw[hz]at C
 clear hz
 have yi:=ae I
 clear I
 go_enter U.aa,O.aa
 go_upto_region 1 with (fail)
 generalize World.alloc (World.alloc w _) _=w1 at *
 have T:=(H.below G (aG _)).more G.size
 have hr1:=C.lt
 clear H
 have q:=B.cell
 have z:=B.frozen
 go_wp2_with (at_builtin;refine iC rfl _ _ 36 rfl w1.heap.size 81 _ 5 56 TF _ 0 [] rfl (iF _ _ _ _) _ A f.length c (f.flatMap dY) rfl T (Ic f) ?p1 (aG _) ?_)
 case p1=>omega
 intro Q t F _ _ aO
 have E:=B.below aO B.lt
 have L:=C.below aO C.lt
 have N:=G.tr aO
 obtain⟨A1,c1,rfl,-⟩:=(show fC t w1.heap.size Q f from F).slice
 clear q z B C
 have q:=E.cell
 have z:=E.frozen
 have Z:=aO.size
 clear aO
 go_upto_region 3 with (fail)
 have eI:ai (t.setCell ⟨w.heap.size,6,none⟩ (.slice A1 f.length c1)) w.heap.size 102 #[.int .i64 k,.int .i64 b,.int .u64 (l:Int),.int .u64 (s:Int),.int .i64 cl,.int .u64 (u:Int),.slice A1 f.length c1,.slice D es.length d]:=E.aR 6 (.slice A1 f.length c1)
 have dz:=L.far (p:=⟨w.heap.size,6,none⟩) aj (.slice A1 f.length c1)
 have k3:K w (t.setCell ⟨w.heap.size,6,none⟩ (.slice A1 f.length c1)):=K.set N (aG _) 6 _
 have eY:fC (t.setCell ⟨w.heap.size,6,none⟩ (.slice A1 f.length c1)) w1.heap.size (.slice A1 f.length c1) f:=fC.up F (aH.set af 6 _)
 have rA:w.heap.size+1<(t.setCell ⟨w.heap.size,6,none⟩ (.slice A1 f.length c1)).heap.size:=KJ
 clear E L N F q z
 generalize t.setCell _ _=w3 at *
 have uI:=K.rf w3
 have q:=eI.cell
 go_wp2_with fail
 clear q
 go_loopw [3,5,13] (fun o _ i W=>∃j:Nat,j<=es.length/\i=.int .i64 (j:Int)/\aX w3.heap.size w3.heap.size 34 dJ (es.take j) o W/\K w3 W) (fun _ _ i _=>es.length-(intOf i).toNat)
 case atStart=>exact⟨0,af,rfl,Fa,uI⟩
 case round => exact KK
theorem aaW(l:List aq)(v:Value)(w:World)(h:ar aQ l v w)(F:∀x∈l,eD x)(hn:l.length<=1000000) :
 Calls prog 38 #[v] w λe w'=>∃D,e=.returned D/\aT (λk=>k<w.heap.size) w.heap.size 102 aQ l D w'/\K w w':=by
 obtain⟨A,c,rfl,R,U⟩:=h
 have Q:=ae F
 have kk:=K.rf w
 have hO:=aT.nil (λk=>k<w.heap.size) w.heap.size 102 aQ w
 clear F
 go_enter func38,ntmps38
 go_wp2_with fail
 go_loopw [3,5,8] (fun o _ i W=>∃j:Nat,j<=l.length/\i=.int .i64 (j:Int)/\aT (fun k=>k<w.heap.size) w.heap.size 102 aQ (l.take j) o W/\K w W) (fun _ _ i _=>l.length-(intOf i).toNat)
 case atStart=>exact⟨0,af,rfl,Dz,kk⟩
 case round =>
  clear hO kk;obtain⟨j,Z,rfl,hO,kr⟩:=hrel;by_cases hlt:j<l.length
  ·have ba:(j:Int)<(l.length:Int):=af;obtain⟨G,C,cs,rfl,L,y,E,d⟩:=dM R j hlt au;have HT:Hid (l.take (j+1)=l.take j++[l[j]]):=ae Fe;have I:=Q.aa _ (bW hlt);generalize l[j]=x at *;obtain⟨vf,s,rfl,u,t⟩:=y w (K.rf w);have N:Hid (∀W,K w W->cR x (.agg (aA x vf s)) W):=ae λW k=>⟨_,_,rfl,dB _ _ _ _ u k,aW t k⟩
   have q:∀i,i<8->wr.cell? ⟨G,C+j*8+i,none⟩=(aA x vf s)[i]?:=λi O=>(d wr kr i O).trans Array.getElem?_toList
   have J:wr.cell? ⟨G,C+j*8,none⟩=some (.int .i64 x.kind):=E wr kr;have H:=ai.new wr 102 (aA x vf s);have B:K wr (wr.alloc (.cells (aA x vf s) 102)):=(K.rf wr).al _;obtain⟨V,X,rfl⟩:=cB u;obtain⟨T,Y,rfl⟩:=az t;clear d E u t y L;go_upto_region 5 with (fail);generalize wr.alloc _=M at *;replace hO:=hO.st B;have j0:=kr.tr B;clear q J;have q:=H.cell;go_wp2_with fail
   refine (apf x _ M (N.aa _ j0) I).mono ?_;exact ahe
  ·exact Pv
theorem aaX(l:List aq)(v:Value)(w:World)(h:ar aQ l v w)(F:∀x∈l,eD x)(hn:l.length<=1000000) :
 Calls prog 178 #[v] w λe w'=>∃D,e=.returned D/\aT (λk=>k<w.heap.size) w.heap.size 102 aQ l D w'/\K w w':=by
 obtain⟨A,c,rfl,R,U⟩:=h
 have Q:=ae F
 have kk:=K.rf w
 have hO:=aT.nil (λk=>k<w.heap.size) w.heap.size 102 aQ w
 clear F
 go_enter func178,ntmps178
 go_wp2_with fail
 go_loopw [3,5,8] (fun o _ i W=>∃j:Nat,j<=l.length/\i=.int .i64 (j:Int)/\aT (fun k=>k<w.heap.size) w.heap.size 102 aQ (l.take j) o W/\K w W) (fun _ _ i _=>l.length-(intOf i).toNat)
 case atStart=>exact⟨0,af,rfl,Dz,kk⟩
 case round =>
  clear hO kk;obtain⟨j,Z,rfl,hO,kr⟩:=hrel;by_cases hlt:j<l.length
  ·have ba:(j:Int)<(l.length:Int):=af;obtain⟨G,C,cs,rfl,L,y,E,d⟩:=dM R j hlt au;have HT:Hid (l.take (j+1)=l.take j++[l[j]]):=ae Fe;have I:=Q.aa _ (bW hlt);generalize l[j]=x at *;obtain⟨vf,s,rfl,u,t⟩:=y w (K.rf w);have N:Hid (∀W,K w W->cR x (.agg (aA x vf s)) W):=ae λW k=>⟨_,_,rfl,dB _ _ _ _ u k,aW t k⟩
   have q:∀i,i<8->wr.cell? ⟨G,C+j*8+i,none⟩=(aA x vf s)[i]?:=λi O=>(d wr kr i O).trans Array.getElem?_toList
   have J:wr.cell? ⟨G,C+j*8,none⟩=some (.int .i64 x.kind):=E wr kr;have H:=ai.new wr 102 (aA x vf s);have B:K wr (wr.alloc (.cells (aA x vf s) 102)):=(K.rf wr).al _;obtain⟨V,X,rfl⟩:=cB u;obtain⟨T,Y,rfl⟩:=az t;clear d E u t y L;go_upto_region 5 with (fail);generalize wr.alloc _=M at *;replace hO:=hO.st B;have j0:=kr.tr B;clear q J;have q:=H.cell;go_wp2_with fail
   refine (NY x _ M (N.aa _ j0) I).mono ?_;exact ahe
  ·exact Pv
theorem aph(l:List av)(v:Value)(w:World)(h:ar bI l v w)(hn:l.length<=1000000000) :
 Calls prog 39 #[v] w λe w'=>∃i,e=.returned i/\aT (λk=>k<w.heap.size) w.heap.size 46 bI l i w'/\K w w':=by
 obtain⟨A,c,rfl,s,-⟩:=h
 refine (aa9 A l.length c _ w (acF s) (Pb l) hn).mono ?_
 rintro e w'⟨i,rfl,j,k⟩
 exact⟨i,rfl,⟨l.map dL,by rw[Uq];exact j,aj,λW _=>OB l W⟩,k⟩
theorem bH.IH{B:aB}(i:bH B):(∀x∈B.st.list,eD x)/\(∀x∈B.st.prom,eD x)/\(∀x∈B.waits,eD x) :=
 ⟨λx h=>tK (i.dk.inv.wV x h).1,λx h=>tK (i.dk.inv.yq x h).1,λx h=>tK (i.waits x h).1⟩
theorem api{M:Nat->Prop}{p:cV}{B:aB}{w:World}(h:bC M p B w)(Z:bH B) :
 Calls prog 12 #[.pointer (some ⟨p.g,0,none⟩)] w λe w'=>∃vl vp va,e=.returned (.agg (bS B.st vl vp va))/\uY (λk=>k<w.heap.size) B.st vl vp va w'/\K w w':=by
 have T:=Z.IH
 have jX:=Z.dk.len
 have C1:=ae λW (k:K w W)=>aaW B.st.list p.vl W (h.bL.at k).list T.1 af
 have U:=ae λW (k:K w W)=>aaW B.st.prom p.vq W (h.bL.at k).prom T.2.1 af
 have S:=ae λW (k:K w W)=>aph B.st.ab p.va W (h.bL.at k).ab af
 have q:=h.q
 have hs1:=az h.bL.now.list
 have dX:=az h.bL.now.prom
 have dF:=az h.bL.now.ab
 have F:=ai.new w 52 jG
 have G:K w (w.alloc (.cells jG 52)):=(K.rf w).al _
 obtain⟨g,gl,gd,gr,gt,vd,vr,vp,vh,vl,vq,va,vt,vf,vw,kr⟩:=p
 simp only at q C1 U S hs1 dX dF
 obtain⟨Al,cl,rfl⟩:=hs1
 obtain⟨Aq,cq,rfl⟩:=dX
 obtain⟨Aa,ca,rfl⟩:=dF
 generalize hS:B.st=s at *
 have HS:=ae hS
 clear h Z T jX hS
 go_enter func12,ntmps12
 go_upto_region 1 with (fail)
 generalize w.alloc _=t at *
 generalize cQ:w.heap.size=j at F⊢
 have HG2:=ae cQ
 clear cQ
 have y:=λW (k:K t W)=>q W (G.tr k)
 simp only[Gu,HS.aa]at y
 clear q
 go_upto_region 3 with (fail)
 refine eM 23 [([],[]),([0],[(6,0)]),([1],[(7,1)]),([2],[(8,2)]),([3],[(9,3)]),([],[]),([5],[(11,5)]),([6],[(12,6)]),([7],[(13,7)]),([8],[(14,8)]),([9],[(15,9)]),([],[]),([11],[(17,11)]),([12],[(18,12)]),([13],[(19,13)]),([14],[(20,14)]),([15],[(21,15)]),([],[]),([17],[(23,17)]),([18],[(24,18)]),([19],[(25,19)]),([20],[(26,20)]),([21],[(27,21)]),([4,10,16,22],[(10,4),(16,10),(22,16),(28,22)]),([0,1,2,3,4,5,6,7,8,9,10,11,12,13,14,15,16,17,18,19,20,21,22,23],[(29,23)])] 30 rfl ak ak ak ak au ?_
 simp only[dR,dN,ew,dP]
 iterate 10 (apply aV.is;intro V W kW i;(try simp only[aI,aJ,aM,aE,aF,ag]at i);simp[aL,aw,List.lookup,i,aS,execOp,ay,ag,aN,kW,y,go_sem];rfl)
 refine aV.op (λv W=>aT (λk=>k<t.heap.size) t.heap.size 102 aQ s.list v W) (λ_ _ _ h k=>h.st k) (λV W kW i=>?_) ?_
 ·(try simp only[aI,aJ,aM,aE,aF,ag]at i)
  simp[aL,aw,List.lookup,i,aS,execOp,ay,y,go_sem];refine (C1.aa W (G.tr kW)).mono ?_;exact Pt
 iterate 5 (apply aV.is;intro V W kW i;(try simp only[aI,aJ,aM,aE,aF,ag]at i);simp[aL,aw,List.lookup,i,aS,execOp,ay,ag,aN,kW,y,go_sem];rfl)
 refine aV.op (λv W=>aT (λk=>k<t.heap.size) t.heap.size 102 aQ s.prom v W) (λ_ _ _ h k=>h.st k) (λV W kW i=>?_) ?_
 ·(try simp only[aI,aJ,aM,aE,aF,ag]at i)
  simp[aL,aw,List.lookup,i,aS,execOp,ay,y,go_sem];refine (U.aa W (G.tr kW)).mono ?_;exact Pt
 iterate 5 (apply aV.is;intro V W kW i;(try simp only[aI,aJ,aM,aE,aF,ag]at i);simp[aL,aw,List.lookup,i,aS,execOp,ay,ag,aN,kW,y,go_sem];rfl)
 refine aV.op (λv W=>aT (λk=>k<t.heap.size) t.heap.size 46 bI s.ab v W) (λ_ _ _ h k=>h.st k) (λV W kW i=>?_) ?_
 ·(try simp only[aI,aJ,aM,aE,aF,ag]at i)
  simp[aL,aw,List.lookup,i,aS,execOp,ay,y,go_sem];refine (S.aa W (G.tr kW)).mono ?_;exact Pt
 intro V W kW
 conv=>lhs;simp only[aJ,aM,eA,ag,Nat.reduceAdd]
 intro hA
 obtain⟨e0,e1,e2,e3,e4,e5,e6,e7,e8,Y,J,rN,Gy,Cr,MW,Gz,L,e17,e18,e19,e20,e21,I,-⟩:=hA
 obtain⟨E,c1,gX⟩:=J.slice
 obtain⟨C,c2,R⟩:=L.slice
 obtain⟨D,c3,ZF⟩:=I.slice
 rw[gX]at J
 rw[R]at L
 rw[ZF]at I
 apply bu.pure
 rfl
 simp[aw,List.lookup,bj,e4,gX,R,ZF,execOp,ay,go_sem]
 try rfl
 have O:=F.below kW F.lt
 have q9:=O.cell
 have z9:=O.frozen
 obtain⟨A,H⟩:∃A,A=World.setCell (World.setCell (World.setCell (World.setCell W ⟨j,0,none⟩ (.int .u64 (s.life:Int))) ⟨j,1,none⟩ (.slice E s.list.length c1)) ⟨j,2,none⟩ (.slice C s.prom.length c2)) ⟨j,3,none⟩ (.slice D s.ab.length c3):=⟨_,rfl⟩
 refine bu.skip A rfl (by rw[H];simp[aw,List.lookup,bj,execOp,ay,q9,z9,go_sem]) ?_
 refine bu.nil ?_
 simp only[bF,Act.put,cO,cM,cL,Nat.reduceAdd,bj]
 have nG:ai A j 52 (bS s (.slice E s.list.length c1) (.slice C s.prom.length c2) (.slice D s.ab.length c3)):=by rw[H];exact (((O.aR 0 (.int .u64 (s.life:Int))).aR 1 (.slice E s.list.length c1)).aR 2 (.slice C s.prom.length c2)).aR 3 (.slice D s.ab.length c3)
 have u9:ah (λk=>k=j) W A:=by rw[H];exact (((ah.b6 (X:=λk=>k=j) rfl 0 (.int .u64 (s.life:Int))).tr (ah.b6 (X:=λk=>k=j) rfl 1 (.slice E s.list.length c1))).tr (ah.b6 (X:=λk=>k=j) rfl 2 (.slice C s.prom.length c2))).tr (ah.b6 (X:=λk=>k=j) rfl 3 (.slice D s.ab.length c3))
 have hg1:=F.lt
 have eC:=HG2.aa
 have hlt:∀k,k<w.heap.size->k<t.heap.size:=λk hk=>af
 have HF:Hid (uY (λk=>k<w.heap.size) s (.slice E s.list.length c1) (.slice C s.prom.length c2) (.slice D s.ab.length c3) A):=ae λN u =>
  have Q:ah (λk=>k<t.heap.size) W N:=(u9.more λk hk=>af).tr (u.more hlt)
  ⟨J.fx (λ_ h=>h) N Q,L.fx (λ_ h=>h) N Q,I.fx (λ_ h=>h) N Q⟩
 have hK:K w A:=u9.k (G.tr kW) λk hk=>af
 clear J L I O F y q9 z9 H u9 e0 e1 e2 e3 e4 e5 e6 e7 e8 Y gX rN Gy Cr MW Gz R e17 e18 e19 e20 e21 ZF C1 U S
 have Y:=nG.cell
 go_wp2
 try rw[gS]
 refine bodyPost_ret (v:=.agg (bS s (.slice E s.list.length c1) (.slice C s.prom.length c2) (.slice D s.ab.length c3))) (by simp[results,results12,go_sem,Y]) rfl ?_
 exact⟨_,_,_,rfl,HF.aa,hK⟩
def Qx(lo:Nat)(x:aq)(v:Value)(W:World):Prop:=∃vf h,v=.agg (aA x vf h)/\Fx (λk=>k<lo) (λW=>aQ.rel x (aA x vf h).toList W) W
theorem ahf(lo:Nat)(x:aq):∀v w w',Qx lo x v w->Below w.heap.size w w'->Qx lo x v w':=by rintro v w w'⟨vf,i,e,h⟩ k;exact⟨vf,i,e,h.k k⟩
structure rh(w:World)(T:TypeId)(z:Array Value)(cs:Nat->Value)(Φ:Nat->Array Value->Value->World->Prop)(L:Nat->Bool)(V:Nat->Value)(W:World):Prop where
 k:K w W
 pre:∀j,j<5->L j=true->V j=cs j
 al:L 9=true->∃b,V 9=.pointer (some ⟨b,0,none⟩)/\w.heap.size<=b/\(L 5=false->ai W b T z)
 got:L 5=true->∃xs c lo W1,V 5=.tuple #[.agg xs,c]/\w.heap.size<=lo/\W1.heap.size<=W.heap.size/\Φ lo xs c W/\(L 10=false->K W1 W/\Φ lo xs c W1) /\
  (L 6=true->V 6=.tuple #[.agg xs,c])/\(L 7=true->V 7=.agg xs)/\(L 8=true->V 8=c)/\(L 11=true->V 11=c) /\
  (L 9=true->∃b,V 9=.pointer (some ⟨b,0,none⟩)/\w.heap.size<=b/\(b<lo∨W1.heap.size<=b)/\ai W b T (cond (L 10) xs z))
section
variable {P:Program} {Q:Exit->Act->World->Prop}
theorem lD{L:Nat->Bool}{i j:Nat}(h:j≠i):dw L i j=L j:=by unfold dw;rw[if_neg h]
theorem mA{V:Nat->Value}{i j:Nat}{v:Value}(h:j≠i):bj V i v j=V j:=by unfold bj;rw[if_neg h]
theorem ajF{L:Nat->Bool}{i:Nat}:dw L i i=true:=by unfold dw;rw[if_pos rfl]
theorem DB{V:Nat->Value}{i:Nat}{v:Value}:bj V i v i=v:=by unfold bj;rw[if_pos rfl]
variable {w:World} {T:TypeId} {z:Array Value} {cs:Nat->Value} {Φ:Nat->Array Value->Value->World->Prop} {L:Nat->Bool} {V:Nat->Value} {W:World}
theorem rh.early(h:rh w T z cs Φ L V W)(i:Nat)(u:i<5):rh w T z cs Φ (dw L i) (bj V i (cs i)) W:=by
 refine⟨h.k,λj s hL=>?_,λhL=>?_,λhL=>?_⟩
 ·by_cases e:j=i
  ·subst e;exact DB
  ·rw[mA e];exact h.pre j s (by rwa [lD e]at hL)
 ·exact ahg
 ·rw[lD af]at hL;obtain⟨xs,c,lo,t,a⟩:=h.got hL;refine⟨xs,c,lo,t,?_⟩;simp only[lD (show 10≠i by omega),lD (show 6≠i by omega),lD (show 7≠i by omega),lD (show 8≠i by omega),lD (show 11≠i by omega),lD (show 9≠i by omega),mA (show 5≠i by omega),mA (show 6≠i by omega),mA (show 7≠i by omega),mA (show 8≠i by omega),mA (show 11≠i by omega),mA (show 9≠i by omega)];exact a
theorem rh.call(h:rh w T z cs Φ L V W){i:World}{xs:Array Value}{c:Value}(k:K W i)(t:Φ W.heap.size xs c i)(y:L 5=false)(h6:L 6=false)(h7:L 7=false)(h8:L 8=false)(nf:L 10=false)(uz:L 11=false):rh w T z cs Φ (dw L 5) (bj V 5 (.tuple #[.agg xs,c])) i:=by
 refine⟨h.k.tr k,λj hj hL=>?_,λhL=>?_,λ_=>⟨xs,c,W.heap.size,i,DB,h.k.size,aG _,t,λ_=>⟨K.rf _,t⟩,λhL=>?_,λhL=>?_,λhL=>?_,λhL=>?_,λhL=>?_⟩⟩
 ·exact Pw
 ·rw[lD af]at hL;obtain⟨b,e,s,u⟩:=h.al hL;rw[mA af];exact⟨b,e,s,λhx=>ahh⟩
 ·rw[lD af,h6]at hL;cases hL
 ·rw[lD af,h7]at hL;cases hL
 ·rw[lD af,h8]at hL;cases hL
 ·rw[lD af,uz]at hL;cases hL
 ·rw[lD af]at hL;obtain⟨b,e,s,u⟩:=h.al hL;rw[mA af];have hb:=u y;refine⟨b,e,s,.inl hb.lt,?_⟩;rw[lD af,nf];exact hb.below k hb.lt
theorem rh.late(h:rh w T z cs Φ L V W)(i:Nat)(v:Value)(J:i=6∨i=7∨i=8∨i=11)(u:L 5=true)(B:∀xs c,V 5=.tuple #[.agg xs,c]->v=if i=6 then .tuple #[.agg xs,c]else if i=7 then .agg xs else c):rh w T z cs Φ (dw L i) (bj V i v) W:=by
 refine⟨h.k,λj hj hL=>?_,λhL=>?_,λhL=>?_⟩
 ·exact Pw
 ·exact ahg
 ·obtain⟨xs,c,lo,y,e5,t,I,A,D,E,C,G,F,H⟩:=h.got u;have s:=B xs c e5;refine⟨xs,c,lo,y,V9,t,I,A,λhx=>D K4,λhx=>?_,λhx=>?_,λhx=>?_,λhx=>?_,λhx=>?_⟩
  ·by_cases e:i=6
   ·subst e;rw[DB,s];rfl
   ·rw[mA (Ne.symm e)];exact E Px
  ·by_cases e:i=7
   ·subst e;rw[DB,s];rfl
   ·rw[mA (Ne.symm e)];exact C Px
  ·by_cases e:i=8
   ·subst e;rw[DB,s];rfl
   ·rw[mA (Ne.symm e)];exact G Px
  ·by_cases e:i=11
   ·subst e;rw[DB,s];rfl
   ·rw[mA (Ne.symm e)];exact F Px
  ·rw[lD af]at hx;rw[mA af,lD af];exact H hx
theorem rh.made(h:rh w T z cs Φ L V W)(B:∀lo xs c W s,Φ lo xs c W->K W s->Φ lo xs c s)(nf:L 10=false):rh w T z cs Φ (dw L 9) (bj V 9 (.pointer (some ⟨W.heap.size,0,none⟩))) (W.alloc (.cells z T)):=by
 have k:K W (W.alloc (.cells z T)):=(K.rf W).al _;have hb:=ai.new W T z;refine⟨h.k.tr k,λj hj hL=>?_,λ_=>⟨_,DB,h.k.size,λ_=>hb⟩,λhL=>?_⟩
 ·exact Pw
 ·rw[lD af]at hL;obtain⟨xs,c,lo,y,e5,u,t,A,i,a6,a7,a8,GJ,C⟩:=h.got hL;refine⟨xs,c,lo,y,V9,u,bq t k.size,B _ _ _ _ _ A k,λhx=>⟨(i nf).1.tr k,(i nf).2⟩,λhx=>?_,λhx=>?_,λhx=>?_,λhx=>?_,λ_=>⟨_,DB,h.k.size,.inr t,?_⟩⟩
  ·exact ahi
  ·exact ahj
  ·exact ahk
  ·exact ahl
  ·rw[lD af,nf];exact hb
theorem rh.kept(h:rh w T z cs Φ L V W)(D:∀lo xs c W i,Φ lo xs c W->K W i->Φ lo xs c i)(hlow:∀lo xs c W i b,Φ lo xs c W->b<lo->ah (λk=>k=b) W i->Φ lo xs c i)(B:L 5=true)(h9:L 9=true)(nf:L 10=false){i:World}{b:Nat}{xs:Array Value}{c:Value}(e5:V 5=.tuple #[.agg xs,c])(A:V 9=.pointer (some ⟨b,0,none⟩))(hb:ai i b T xs)(hg:W.grownBy i (some b)):rh w T z cs Φ (dw L 10) (bj V 10 undef) i:=by
 have u:ah (λk=>k=b) W i:=ah.fM hg λk e=>KV
 obtain⟨O,Q,lo,J,y,I,F,M,H,a6,a7,a8,GJ,N⟩:=h.got B;rw[e5]at y;injection y with y;simp at y;obtain⟨rfl,rfl⟩:=y;obtain⟨R,s,C,t,-⟩:=N h9;rw[A]at s;injection s with s;injection s with s;injection s with s _;subst s;obtain⟨E,p1⟩:=H nf;have G:Φ lo xs c i:=by
  rcases t with t|t
  ·exact hlow _ _ _ _ _ b M t u
  ·exact D _ _ _ _ _ p1 (u.k E λk e=>af)
 refine⟨u.k h.k λk e=>af,λj hj hL=>?_,λhL=>?_,λhL=>?_⟩
 ·exact Pw
 ·rw[mA af];exact⟨b,A,C,λhx=>by rw[lD (by omega),B]at hx;cases hx⟩
 ·refine⟨xs,c,lo,J,V9,I,bq F u.size,G,λhx=>ahh,λhx=>?_,λhx=>?_,λhx=>?_,λhx=>?_,λ_=>⟨b,by rw[mA (by omega)];exact A,C,t,?_⟩⟩
  ·exact ahi
  ·exact ahj
  ·exact ahk
  ·exact ahl
  ·rw[ajF];exact hb
def za:List (List Nat):=[[],[0],[1],[2],[],[3,4],[5],[6],[6],[],[7,9],[8]]
def lJ(P:Program)(h:Act)(ops:Array Oper)(j:List (List Nat×List (Nat×Nat)))(i:Nat)(V:Nat->Value)(W:World):Result Next :=
 match ops[i]?,j[i]? with
 | some o,some x=>(execOp (aw x.2 h V) (ay o.op o.type)).run P W
 | _,_=>.halt (.stuck "") W
theorem aaY{id:Nat}{ops:Array Oper}{u:Act}{w:World}(T:TypeId)(z:Array Value)(cs:Nat->Value)(Φ:Nat->Array Value->Value->World->Prop)(pl:List (List Nat×List (Nat×Nat)))(f:FuncId)(args:Array Value)
 (n:Nat) (hn:u.tmps.size=n) (hm:P.follows .mixedOrders=true) (hok:o8 ops n=true) (hpl:qP ops pl=true) (I:ops.size=12) (im:pl.map (·.1)=za) (hgd:∀o∈ops.toList,o.guard=none)
 (IW:∀i,i<5->∀V W,K w W->(∀j∈(pl.getD i ([],[])).1,V j=cs j)->lJ P u ops pl i V W=.ok (.value (cs i)) W)
 (hcall:∀V W,K w W->V 3=cs 3->V 4=cs 4->lJ P u ops pl 5 V W=.ok (.enter f args) W)
 (hC:∀W,K w W->Calls P f args W λe A=>∃xs c,e=.returned (.tuple #[.agg xs,c])/\Φ W.heap.size xs c A/\K W A)
 (h6:∀V W v,V 5=v->lJ P u ops pl 6 V W=.ok (.value v) W)
 (h7:∀V W xs c,V 6=.tuple #[.agg xs,c]->lJ P u ops pl 7 V W=.ok (.value (.agg xs)) W)
 (h8:∀V W xs c,V 6=.tuple #[.agg xs,c]->lJ P u ops pl 8 V W=.ok (.value c) W)
 (h9:∀V W,lJ P u ops pl 9 V W=.ok (.value (.pointer (some ⟨W.heap.size,0,none⟩))) (W.alloc (.cells z T)))
 (nf:∀V W b lo xs c W0,V 9=.pointer (some ⟨b,0,none⟩)->V 7=.agg xs->ai W b T z->Φ lo xs c W0->∃A,lJ P u ops pl 10 V W=.ok .skip A/\ai A b T xs/\W.grownBy A (some b))
 (uz:∀V W c,V 8=c->lJ P u ops pl 11 V W=.ok (.value c) W)
 (hK:∀lo xs c W A,Φ lo xs c W->K W A->Φ lo xs c A) (hlow:∀lo xs c W A b,Φ lo xs c W->b<lo->ah (λk=>k=b) W A->Φ lo xs c A)
 (fin:∀V W b xs c lo,K w W->(∀j,j<5->V j=cs j)->V 5=.tuple #[.agg xs,c]->V 6=.tuple #[.agg xs,c]->V 7=.agg xs->V 8=c->V 9=.pointer (some ⟨b,0,none⟩)->V 11=c->w.heap.size<=b->ai W b T xs->w.heap.size<=lo->Φ lo xs c W->Q .normal (bF V ops.toList 0 u) W) :
 (Code.region id ops true).wp P Q u w:=by
 have D4:∀(i:Nat) (o:Oper),ops[i]?=some o->∃x:List Nat×List (Nat×Nat),pl[i]?=some x/\∀j∈x.1,j∈ahead o:=by exact VM
 refine EO (rh w T z cs Φ) n hn hm hok ⟨(K.rf w).drew,λ_ _ hj=>Ff,λhj=>Ff,λhj=>Ff⟩ ?_ ?_
 ·intro i o ho L V W O hcl hal s;have hlt:i<12:=by have:=(Array.getElem?_eq_some_iff.1 ho).1;omega
  obtain⟨x,hx,Gm⟩:=D4 i o ho;have hgo:o.guard=none:=hgd o (by have:=(Array.getElem?_eq_some_iff.1 ho).2;rw[<- this];simp);have hex:execOp (tj ops u V o) o=execOp (aw x.2 u V) (ay o.op o.type):=by
   have h1:=List.all_eq_true.1 hpl (o,i) (List.mem_zipIdx_iff_getElem?.2 (by rw[Array.getElem?_toList];exact ho));simp only[hx,cz]at h1;rw[<- Ts];refine execOp_congr o (λcs b e=>ahm) λy hy=>?_
   have h4:=List.all_eq_true.1 h1.2 y Kr;exact aeg
  have RL:(execOp (tj ops u V o) o).run P W=lJ P u ops pl i V W:=by rw[hex];unfold lJ;rw[ho,hx]
  have hw:wants V o=true:=by unfold wants;rw[hgo]
  rw[if_pos hw,RL];have hx1:x.1=za.getD i []:=by have:=congrArg (λl=>l.getD i []) im;simp only[List.getD_eq_getElem?_getD,List.getElem?_map,hx,Option.map_some,Option.getD_some]at this;exact VL
  have B:∀j∈za.getD i [],L j=true:=λj hj=>hal j (Gm j (by rw[hx1];exact hj))
  have X:∀k o',ops[k]?=some o'->L k=true->∀j∈za.getD k [],L j=true:=λk o' qF hk j hj=>by
   obtain⟨y,hy,hya⟩:=D4 k o' qF;have zA:y.1=za.getD k []:=by have:=congrArg (λl=>l.getD k []) im;simp only[List.getD_eq_getElem?_getD,List.getElem?_map,hy,Option.map_some,Option.getD_some]at this;exact VL
   exact hcl.1 k o' qF hk j (hya j (by rw[zA];exact hj))
  have hb:∀k,k<12->∀j∈za.getD k [],L j=false->L k=false:=λk hk j hj hjL=>by
   cases ni:L k with
   | false=>rfl
   | true => have:=X k _ (show ops[k]?=some ops[k] by simp[I,hk]) ni j hj;rw[hjL]at this;cases this
  have R:∀k,k=6∨k=7∨k=8∨k=11∨k=10->(∀j∈za.getD k [],L j=true)->L 5=true:=λk hk hj=>by
   have D:L 6=true->L 5=true:=λh=>X 6 _ (show ops[6]?=some ops[6] by simp[I]) h 5 mQ
   have G:L 7=true->L 6=true:=λh=>X 7 _ (show ops[7]?=some ops[7] by simp[I]) h 6 mQ
   have H:L 8=true->L 6=true:=λh=>X 8 _ (show ops[8]?=some ops[8] by simp[I]) h 6 mQ
   rcases hk with rfl|rfl|rfl|rfl|rfl
   ·exact hj 5 mQ
   ·exact D (hj 6 mQ)
   ·exact D (hj 6 mQ)
   ·exact D (H (hj 8 mQ))
   ·exact D (G (hj 7 mQ))
  have Yg:∀ {xs J:Array Value} {c M:Value},V 5=.tuple #[.agg xs,c]->V 5=.tuple #[.agg J,M]->xs=J/\c=M:=λe S=>by rw[e]at S;injection S with S;simpa using S
  by_cases hi5:i<5
  ·have hpx:(pl.getD i ([],[])).1=za.getD i []:=by rw[List.getD_eq_getElem?_getD,hx];exact hx1
   rw[IW i hi5 V W s.k λj hj=>by
    rw[hpx]at hj;refine s.pre j ?_ (B j hj);have:i=0∨i=1∨i=2∨i=3∨i=4:=af;rcases this with rfl|rfl|rfl|rfl|rfl <;> simp[za]at hj <;> omega]
   exact s.early i hi5
  have hi:i=5∨i=6∨i=7∨i=8∨i=9∨i=10∨i=11:=af;rcases hi with rfl|rfl|rfl|rfl|rfl|rfl|rfl
  ·have Z:=hb 6 af 5 mQ O;have l7:=hb 7 af 6 mQ Z;have l8:=hb 8 af 6 mQ Z;have ZG:=hb 10 af 7 mQ l7;have l11:=hb 11 af 8 mQ l8;rw[hcall V W s.k (s.pre 3 af (B 3 mQ)) (s.pre 4 af (B 4 mQ))];refine (hC W s.k).mono ?_;rintro e A⟨xs,c,rfl,Az,k⟩;exact⟨_,rfl,s.call k Az O Z l7 l8 ZG l11⟩
  ·have C:=R 6 aj B;rw[h6 V W _ rfl];exact s.late 6 _ aj C λxs c e=>by rw[e];rfl
  ·have C:=R 7 aj B;obtain⟨xs,c,lo,Y,E,-,-,-,-,D,-⟩:=s.got C;rw[h7 V W xs c (D (B 6 mQ))];exact s.late 7 _ aj C λJ M e=>by rw[(Yg E e).1];rfl
  ·have C:=R 8 aj B;obtain⟨xs,c,lo,Y,E,-,-,-,-,D,-⟩:=s.got C;rw[h8 V W xs c (D (B 6 mQ))];exact s.late 8 _ aj C λJ M e=>by rw[(Yg E e).2];rfl
  ·have ZG:=hb 10 af 9 mQ O;rw[h9 V W];exact s.made hK ZG
  ·have C:=R 10 aj B;obtain⟨xs,c,lo,Y,E,a1,a2,a3,a4,D,G,H,GJ,a9⟩:=s.got C;obtain⟨b,U,aO,hb2,N⟩:=a9 (B 9 mQ);rw[O]at N;obtain⟨A,hrun,hb',hg'⟩:=nf V W b lo xs c W U (G (B 7 mQ)) N a3;rw[hrun];exact s.kept hK hlow C (B 9 mQ) O E U hb' hg'
  ·have C:=R 11 aj B;obtain⟨xs,c,lo,Y,E,-,-,-,-,D,G,H,-⟩:=s.got C;rw[uz V W c (H (B 8 mQ))];exact s.late 11 _ aj C λJ M e=>by rw[(Yg E e).2];rfl
 ·intro V W s;have F:∀j,j<12->decide (j<ops.size)=true:=λj hj=>by rw[I];simpa using hj
  obtain⟨xs,c,lo,Y,E,a1,a2,a3,a4,D,G,H,GJ,a9⟩:=s.got (F 5 af);obtain⟨b,U,aO,hb2,N⟩:=a9 (F 9 af);rw[F 10 af]at N;exact fin V W b xs c lo s.k (λj hj=>s.pre j hj (F j af)) E (D (F 6 af)) (G (F 7 af)) (H (F 8 af)) U (GJ (F 11 af)) aO N a1 a3
end
section
variable {M:Nat->Prop} {p:cV} {B:aB} {w w':World}
theorem bC.log(h:bC M p B w){vd vr:Value}{d:lq}(j:Ro p.gl p.gd vd vr d w')(u:nN p.gl p.gd p.vd p.vr vd vr w w') :
 bC (λk=>M k∨bn { p with vd:=vd,vr:=vr } k) { p with vd:=vd,vr:=vr } { B with dk:=d } w'/\ah (bn p) w w'/\∀k,bn { p with vd:=vd,vr:=vr } k->bn p k∨w.heap.size<=k:=by
 obtain⟨C,D,t,y,A⟩:=h.apart
 have hn:∀k,bn { p with vd:=vd,vr:=vr } k->bn p k∨w.heap.size<=k:=λk hk=>by
  rcases hk with hk|hk|hk|hk
  ·exact .inl (.inl hk)
  ·exact .inl (.inr (.inl hk))
  ·exact .inl (.inr (.inr (.inl hk)))
  ·exact (u.new k hk).imp (λh=>.inr (.inr (.inr h))) id
 have hz:=u.up.size
 refine⟨⟨h.blk.bT u.up t,j,h.rep.bT u.up y,h.vA.bT u.up A,?_,λk hk=>.inr hk,λk hk=>?_,h.ne⟩,u.up.more λk hk=>.inr (.inr (.inr hk)),hn⟩
 ·have s:=h.bL.to (N:=λk=>M k∨bn { p with vd:=vd,vr:=vr } k) u.up (λk hk=>h.sub k (.inr (.inr (.inr hk)))) λk hk i=>i.elim id λi=>h.sub k ((hn k i).resolve_right af)
  exact s.mono λW d=>⟨d.par,d.aZ,d.list,d.prom,d.ab,d.aK,d.eX,d.waits,d.bR⟩
 ·rcases hk with hk|hk
  ·exact bB (h.low k hk) hz
  ·rcases hk with hk|hk|hk|hk
   ·exact bB (h.low k (h.sub k (.inl hk))) hz
   ·exact bB (h.low k (h.sub k (.inr (.inl hk)))) hz
   ·exact bB (h.low k (h.sub k (.inr (.inr (.inl hk))))) hz
   ·exact j.lt k hk
theorem bC.aza(h:bC M p B w){s:bA}{vl vq va:Value}(D:uY M s vl vq va w) :
 bC M { p with vl:=vl,vq:=vq,va:=va } { B with st:=s } (World.setCell (World.setCell (World.setCell (World.setCell w ⟨p.g,4,none⟩ (.int .u64 (s.life:Int))) ⟨p.g,5,none⟩ vl) ⟨p.g,6,none⟩ vq) ⟨p.g,7,none⟩ va):=by
 have g:=h.sub p.g (.inl rfl)
 have i:=h.cell (p':=p) (B':={ B with st:=⟨s.life,B.st.list,B.st.prom,B.st.ab⟩ }) 4 (.int .u64 (s.life:Int)) (h.blk.aR 4 _) ⟨rfl,rfl,rfl,rfl,rfl,rfl,rfl,rfl⟩ ⟨rfl,rfl⟩ λW u d=>⟨d.par,d.aZ,d.list,d.prom,d.ab,d.aK,d.eX,d.waits,d.bR⟩
 have t:uY M s vl vq va _:=D.up (ah.b6 (X:=M) g 4 (.int .u64 (s.life:Int))) λ_ h=>h
 have j:=i.cell (p':={ p with vl:=vl }) (B':={ B with st:=⟨s.life,s.list,B.st.prom,B.st.ab⟩ }) 5 vl (i.blk.aR 5 _) ⟨rfl,rfl,rfl,rfl,rfl,rfl,rfl,rfl⟩ ⟨rfl,rfl⟩ λW u d=>⟨d.par,d.aZ,(t W u).1,d.prom,d.ab,d.aK,d.eX,d.waits,d.bR⟩
 have A:uY M s vl vq va _:=t.up (ah.b6 (X:=M) g 5 vl) λ_ h=>h
 have y:=j.cell (p':={ p with vl:=vl,vq:=vq }) (B':={ B with st:=⟨s.life,s.list,s.prom,B.st.ab⟩ }) 6 vq (j.blk.aR 6 _) ⟨rfl,rfl,rfl,rfl,rfl,rfl,rfl,rfl⟩ ⟨rfl,rfl⟩ λW u d=>⟨d.par,d.aZ,d.list,(A W u).2.1,d.ab,d.aK,d.eX,d.waits,d.bR⟩
 have C:uY M s vl vq va _:=A.up (ah.b6 (X:=M) g 6 vq) λ_ h=>h
 exact y.cell (p':={ p with vl:=vl,vq:=vq,va:=va }) (B':={ B with st:=s }) 7 va (y.blk.aR 7 _) ⟨rfl,rfl,rfl,rfl,rfl,rfl,rfl,rfl⟩ ⟨rfl,rfl⟩ λW u d=>⟨d.par,d.aZ,d.list,d.prom,(C W u).2.2,d.aK,d.eX,d.waits,d.bR⟩
end
theorem auX{d:lq}{r:Rec}(h:vX d r=true):oA (lA d) [bV r] d.room=(lA ⟨d.gU++[r],d.room⟩,0):=by
 simp only[vX,cz,decide_eq_true_eq]at h;have j:gV (bV r)=true:=Uv h.1;have i:(lA d).length+(frames [bV r]).length<=d.room:=by unfold lA;rw[Tu];simpa [frames,AX]using h.2
 unfold oA uQ;rw[if_pos (by simp[j]),if_pos i];simp[lA,frames]
theorem auY{d:lq}{r:Rec}(u:vX d r=false):(oA (lA d) [bV r] d.room).1=lA d/\(oA (lA d) [bV r] d.room).2≠0:=by
 have s:¬((bV r).length<=4000/\jw d.gU+wW (bV r)<=d.room):=by simpa [vX]using u
 unfold oA;split
 ·rename_i j;have t:(bV r).length<=4000:=by simp[gV]at j;exact j.2
  unfold uQ;rw[if_neg]
  ·exact⟨rfl,aj⟩
  ·intro i;refine s ⟨t,?_⟩;unfold lA at i;rw[Tu]at i;simpa [frames,AX]using i
 ·exact⟨rfl,aj⟩
