/-
  The walk of wire.Encode (layer 13). Conditions: lists of which a message may have that many.
-/
import Derived.Test.YtfndfpdhlbmboaaGreatMa24
import Derived.Test.YtfndfpdhlbmboaaGreatMz
set_option maxRecDepth 100000
set_option linter.constructorNameAsVariable false
set_option maxHeartbeats 16000000
set_option linter.unusedVariables false
set_option linter.unusedSimpArgs false
namespace Go.Proofs.YtfndfpdhlbmboaaGreat
open Go Go.RowKit _root_.Go.Proofs.Tryz
theorem Hw{a}(h:eu a):(fy a).length<=30000:=aid
theorem ash{a}(h:eu a):(fy a).length<=27:=aid
theorem Us{v}(h:eu v.id):(lO v).length<=30000:=by have j:=ash h;have t:=cI (if v.yes then 1 else 0) (by split <;> omega);unfold lO;simp only[cF];omega
theorem acR{x}(h:cD x):(pF x).length<=20000:=by
 unfold pF;cases hok:bK x
 ·simp
 ·exact Ks hok h
theorem Fe{x}(h:cD x):(gY x).length<=30000:=by have j:=acR h;have t:=cI (pF x).length af;unfold gY im;simp only[cF];omega
theorem KD{α:Type}(enc:α->List UInt8) B:∀(l:List α),(∀x∈l,(enc x).length<=B)->(l.flatMap enc).length<=B*l.length
 | [],_=>aj
 | x :: l,h=>by have j:=h x aj;have t:=KD enc B l (λy hy=>h y Fw);simp only[rI,cF,eQ,Nat.mul_succ];omega
theorem acj l v a w(h:sl l v w)(hl:l.length<=900000000)(X:eu a) :
 Calls prog 152 #[v,.agg (df a)] w λe w'=>∃v',e=.returned v'/\Own w' w.heap.size 5 v' (l++fy a)/\K w w':=by
 obtain⟨A,c,rfl,Q⟩:=h
 obtain⟨b,j,u⟩:=a
 obtain⟨O,B,I⟩:=X
 simp only at O B I
 have p0:=cI (bf b) (fW b)
 have p1:=cI j B
 have D:=ah.new w 26 #[.int .i64 b,.int .u64 j,.int .u64 u]
 have y:=D.aS
 have Y:=(Q.below y (aC _)).more y.size
 go_enter func152,ntmps152
 go_upto_region 1 with (fail)
 generalize w.alloc _=L at *
 have qx:=D.cells
 have J:=K.rf L
 go_wp2_with fail
 rw[Dj b]
 refine (wJ A _ c l (bf b) (fW b) L _ Y (aC _) af).mono ?_
 rintro e Z⟨v2,rfl,E,t⟩
 obtain⟨A2,c2,rfl,U⟩:=(eK E)
 have eE:(l++az (bf b)).length<=900000009:=aY
 generalize hm2:(l++az (bf b)).length=W at *
 clear hm2
 go_wp2_with fail
 refine (wJ A2 W c2 _ j B Z _ U (aC _) af).mono ?_
 rintro e w3⟨v3,rfl,G,T⟩
 replace t:=t.tr T
 obtain⟨R,c3,rfl,M⟩:=(eK G)
 have p6:(l++az (bf b)++az j).length<=900000018:=aY
 generalize V:(l++az (bf b)++az j).length=m3 at *
 clear V
 go_wp2_with fail
 refine (wJ R m3 c3 _ u I w3 _ M (aC _) af).mono ?_
 rintro e w4⟨v4,rfl,F,N⟩
 have C:=mg (y.tr t).size F
 have H:l++az (bf b)++az j++az u=l++fy (b,j,u):=by simp[fy]
 rw[H]at C
 have S:=ae C
 have J:=y.tr (t.tr N)
 clear C F G E H qx
 go_wp2
 go_ret
 exact⟨_,rfl,S.aa,J⟩
theorem ao7 l v x w(h:sl l v w)(O:l.length<=800000000)(E:eu x.id) :
 Calls prog 148 #[v,.agg (gJ x)] w λe w'=>∃v',e=.returned v'/\Own w' w.heap.size 5 v' (l++lO x)/\K w w':=by
 have u:=ah.new w 225 (gJ x)
 have k1:=u.aS
 have B:=nC _ _ _ _ h k1
 have C:=ae (acj l v x.id _ B af E)
 have D:=Hw E
 obtain⟨A,c,rfl,-⟩:=h
 obtain⟨a,y⟩:=x
 have D:(fy a).length<=30000:=D
 clear B
 go_enter func148,ntmps148
 go_upto_region 1 with (fail)
 generalize w.alloc _=I at *
 generalize w.heap.size=g at u⊢
 have qx:=u.cells
 have N:=K.rf I
 cases y
 ·go_wp2_with fail
  refine C.aa.mono ?_;rintro e M⟨G,rfl,hs,k2⟩;have j:=uB 0 (eK hs) af aie;rw[show ((0:Nat):Int)=0 from rfl]at j;replace j:=ae j;obtain⟨F,c2,rfl,-⟩:=eK hs;generalize t:(l++fy a).length=J at *;clear t;go_wp2_with fail
  refine j.aa.mono ?_;rintro e H⟨L,rfl,ho,k3⟩;have hs:=mg (k1.tr k2).size ho;rw[show l++fy a++az 0=l++lO ⟨a,false⟩from by simp[lO]]at hs;exact aif
 ·go_wp2_with fail
  refine C.aa.mono ?_;rintro e M⟨G,rfl,hs,k2⟩;have j:=uB 1 (eK hs) af aie;rw[show ((1:Nat):Int)=1 from rfl]at j;replace j:=ae j;obtain⟨F,c2,rfl,-⟩:=eK hs;generalize t:(l++fy a).length=J at *;clear t;go_wp2_with fail
  refine j.aa.mono ?_;rintro e H⟨L,rfl,ho,k3⟩;have hs:=mg (k1.tr k2).size ho;rw[show l++fy a++az 1=l++lO ⟨a,true⟩from by simp[lO]]at hs;exact aif
theorem aoD l v x u w(h:sl l v w)(G:cV x u w)(T:l.length<=800000000)(D:cD x) :
 Calls prog 150 #[v,u] w λe w'=>∃v',e=.returned v'/\Own w' w.heap.size 5 v' (l++gY x)/\K w w':=by
 obtain⟨vf,U,rfl,B,C⟩:=G
 obtain⟨M,N,rfl⟩:=b6 B
 obtain⟨Q,I,rfl⟩:=aw C
 have t:=K.new w (.cells (aD x (.slice M x.f.length N) (.slice Q x.es.length I)) 126)
 have E:=ae (TA x _ _ ⟨_,_,rfl,eH _ _ _ _ B t,bo C t⟩ D)
 have H:=ae λW (kW:K w W)=>nC _ _ _ _ h kW
 have S:=acR D
 obtain⟨A,c,rfl,-⟩:=h
 clear B C
 go_enter func150,ntmps150
 go_wp2_with fail
 generalize w.alloc _=Y at *
 refine E.aa.mono ?_
 rintro e O⟨R,rfl,j,y⟩
 have F:=ae (O8 (H.aa O (t.tr y)) (eK j) af af)
 obtain⟨V,c2,rfl,-⟩:=eK j
 clear j
 go_wp2_with fail
 refine F.aa.mono ?_
 rintro e X⟨Z,rfl,j,L⟩
 have J:=ae (mg (t.tr y).size j)
 clear j
 go_wp2
 go_ret
 exact⟨_,rfl,J.aa,t.tr (y.tr L)⟩
theorem apM b l v u w(hb:sl b v w)(h:aq nL l u w)(Z:b.length<=500000000)(T:l.length<=16)(hfit:∀s∈l,eu s.id) :
 Calls prog 147 #[v,u,.func (Fn.func 148) #[] #[]] w λe w'=>∃v',e=.returned v'/\Own w' w.heap.size 5 v' (b++gH lO l)/\K w w':=by
 obtain⟨A,c,rfl,R,Y⟩:=h
 have D:=ae hfit
 clear hfit
 have I:=ae (uB l.length hb af af)
 obtain⟨S,U,rfl,-⟩:=hb
 have hpl:=cI l.length af
 have hu:IntKind.u64.wrap (l.length:Int)=l.length:=WQ
 go_enter func147,ntmps147
 go_wp2_with fail
 refine I.aa.mono ?_
 rintro e w1⟨X,rfl,L,y⟩
 have xA:=ae L
 clear L I
 go_wp2_with fail
 go_loopw [0,8,16] (fun o _ i wr=>∃j:Nat,j<=l.length/\i=.int .i64 j/\Hid (Own wr w.heap.size 5 o (b++az l.length++(l.take j).flatMap lO))/\K w wr) (fun _ _ i _=>l.length-(intOf i).toNat)
 case atStart=>exact⟨0,af,rfl,ae WR,y⟩
 case round =>
  clear y;obtain⟨j,hj,rfl,HB,kr⟩:=hrel;by_cases hlt:j<l.length
  ·have M:(j:Int)<l.length:=af;obtain⟨E,J,cs,rfl,N,H,C,d⟩:=ed R j hlt ay;have HS:Hid (b++az l.length++(l.take (j+1)).flatMap lO=b++az l.length++(l.take j).flatMap lO++lO l[j]):=ae WS;have B:=D.aa _ (bS hlt);have V:(b++az l.length++(l.take j).flatMap lO).length<=600000000:=by have:=KD lO 30000 (l.take j) (λx t=>by have B:=D.aa x (lM t);exact Us B);exact WT
   generalize l[j]=x at *;obtain rfl:=H w (K.rf w);have C:∀W,K wr W->W.cell? ⟨E,J+j*4,none⟩=some (.int .i64 x.id.1):=λW kW=>C W (kr.tr kW)
   have d:∀W,K wr W->∀i,i<4->W.cell? ⟨E,J+j*4+i,none⟩=(gJ x)[i]?:=λW kW i O=>(d W (kr.tr kW) i O).trans Array.getElem?_toList
   have y:=K.rf wr;have Q:=K.rf wr;have t:=ah.new wr 225 (gJ x);have F:=t.aS;clear N H;go_upto_region 5 with (fail);have tW:=kr.tr F;generalize wr.alloc _=G at *;generalize wr.heap.size=gx at *;have q:=t.cells;have y:=K.rf G;clear C d t;go_wp2_with fail
   refine (ao7 _ _ x G (nC _ _ _ _ (eK HB.aa) (Q.tr F)) af B).mono ?_;exact WU
  ·have M:¬(j:Int)<l.length:=af;have hs:=HB.aa;rw[fM af,dY]at hs;have HS:=ae (show Own wr w.heap.size 5 u0 (b++gH lO l)from hs);exact WV
theorem TI b l v u w(hb:sl b v w)(h:aq aU l u w)(bR:b.length<=500000000)(akv:l.length<=16)(hfit:∀s∈l,cD s) :
 Calls prog 149 #[v,u,.func (Fn.func 150) #[] #[]] w λe w'=>∃v',e=.returned v'/\Own w' w.heap.size 5 v' (b++gH gY l)/\K w w':=by
 obtain⟨A,c,rfl,Y,hc⟩:=h
 have D:=ae hfit
 clear hfit
 have L:=ae (uB l.length hb af af)
 obtain⟨Z,cb,rfl,-⟩:=hb
 have hpl:=cI l.length af
 have hu:IntKind.u64.wrap (l.length:Int)=l.length:=WQ
 go_enter func149,ntmps149
 go_wp2_with fail
 refine L.aa.mono ?_
 rintro e w1⟨v1,rfl,S,y⟩
 have xA:=ae S
 clear S L
 go_wp2_with fail
 go_loopw [0,8,16] (fun o _ i wr=>∃j:Nat,j<=l.length/\i=.int .i64 j/\Hid (Own wr w.heap.size 5 o (b++az l.length++(l.take j).flatMap gY))/\K w wr) (fun _ _ i _=>l.length-(intOf i).toNat)
 case atStart=>exact⟨0,af,rfl,ae WR,y⟩
 case round =>
  clear y;obtain⟨j,hj,rfl,HB,kr⟩:=hrel;by_cases hlt:j<l.length
  ·have T:(j:Int)<l.length:=af;obtain⟨E,R,cs,rfl,U,J,C,d⟩:=ed Y j hlt ay;have HS:Hid (b++az l.length++(l.take (j+1)).flatMap gY=b++az l.length++(l.take j).flatMap gY++gY l[j]):=ae WS;have B:=D.aa _ (bS hlt);have hbj:(b++az l.length++(l.take j).flatMap gY).length<=600000000:=by have:=KD gY 30000 (l.take j) (λx t=>by have B:=D.aa x (lM t);exact Fe B);exact WT
   generalize l[j]=x at *;obtain⟨vf,ve,rfl,N,O⟩:=J w (K.rf w);obtain⟨I,M,rfl⟩:=b6 N;obtain⟨Q,F,rfl⟩:=aw O;have C:∀W,K wr W->W.cell? ⟨E,R+j*8,none⟩=some (.int .i64 x.kind):=λW kW=>C W (kr.tr kW)
   have d:∀W,K wr W->∀i,i<8->W.cell? ⟨E,R+j*8+i,none⟩=(aD x (.slice I x.f.length M) (.slice Q x.es.length F))[i]?:=λW kW i X=>(d W (kr.tr kW) i X).trans Array.getElem?_toList
   have y:=K.rf wr;have V:=K.rf wr;have t:=ah.new wr 126 (aD x (.slice I x.f.length M) (.slice Q x.es.length F));have G:=t.aS;clear U J;go_upto_region 5 with (fail);have tW:=kr.tr G;generalize wr.alloc _=H at *;generalize wr.heap.size=gx at *;have q:=t.cells;have y:=K.rf H;clear C d t;go_wp2_with fail
   refine (aoD _ _ x _ H (nC _ _ _ _ (eK HB.aa) (V.tr G)) ⟨_,_,rfl,eH _ _ _ _ N tW,bo O tW⟩ af B).mono ?_;exact WU
  ·have T:¬(j:Int)<l.length:=af;have hs:=HB.aa;rw[fM af,dY]at hs;have HS:=ae (show Own wr w.heap.size 5 u0 (b++gH gY l)from hs);exact WV
theorem acS b l v u w(hb:sl b v w)(h:aq b5 l u w)(Z:b.length<=500000000)(T:l.length<=16)(hfit:∀s∈l,eu s) :
 Calls prog 151 #[v,u,.func (Fn.func 152) #[] #[]] w λe w'=>∃v',e=.returned v'/\Own w' w.heap.size 5 v' (b++gH fy l)/\K w w':=by
 obtain⟨A,c,rfl,R,Y⟩:=h
 have D:=ae hfit
 clear hfit
 have I:=ae (uB l.length hb af af)
 obtain⟨S,U,rfl,-⟩:=hb
 have hpl:=cI l.length af
 have hu:IntKind.u64.wrap (l.length:Int)=l.length:=WQ
 go_enter func151,ntmps151
 go_wp2_with fail
 refine I.aa.mono ?_
 rintro e w1⟨X,rfl,L,y⟩
 have xA:=ae L
 clear L I
 go_wp2_with fail
 go_loopw [0,8,16] (fun o _ i wr=>∃j:Nat,j<=l.length/\i=.int .i64 j/\Hid (Own wr w.heap.size 5 o (b++az l.length++(l.take j).flatMap fy))/\K w wr) (fun _ _ i _=>l.length-(intOf i).toNat)
 case atStart=>exact⟨0,af,rfl,ae WR,y⟩
 case round =>
  clear y;obtain⟨j,hj,rfl,HB,kr⟩:=hrel;by_cases hlt:j<l.length
  ·have M:(j:Int)<l.length:=af;obtain⟨E,J,cs,rfl,N,H,C,d⟩:=ed R j hlt ay;have HS:Hid (b++az l.length++(l.take (j+1)).flatMap fy=b++az l.length++(l.take j).flatMap fy++fy l[j]):=ae WS;have B:=D.aa _ (bS hlt);have V:(b++az l.length++(l.take j).flatMap fy).length<=600000000:=by have:=KD fy 30000 (l.take j) (λx t=>by have B:=D.aa x (lM t);exact Hw B);exact WT
   generalize l[j]=x at *;obtain rfl:=H w (K.rf w);have C:∀W,K wr W->W.cell? ⟨E,J+j*3,none⟩=some (.int .i64 x.1):=λW kW=>C W (kr.tr kW)
   have d:∀W,K wr W->∀i,i<3->W.cell? ⟨E,J+j*3+i,none⟩=(df x)[i]?:=λW kW i O=>(d W (kr.tr kW) i O).trans Array.getElem?_toList
   have y:=K.rf wr;have Q:=K.rf wr;have t:=ah.new wr 26 (df x);have F:=t.aS;clear N H;go_upto_region 5 with (fail);have tW:=kr.tr F;generalize wr.alloc _=G at *;generalize wr.heap.size=gx at *;have q:=t.cells;have y:=K.rf G;clear C d t;go_wp2_with fail
   refine (acj _ _ x G (nC _ _ _ _ (eK HB.aa) (Q.tr F)) af B).mono ?_;exact WU
  ·have M:¬(j:Int)<l.length:=af;have hs:=HB.aa;rw[fM af,dY]at hs;have HS:=ae (show Own wr w.heap.size 5 u0 (b++gH fy l)from hs);exact WV
theorem wN{α} enc(l:List α)(h:∀x∈l,(enc x).length<=30000)(u:l.length<=16):(gH enc l).length<=480009:=by have j:=KD enc 30000 l h;have t:=cI l.length af;unfold gH;simp only[cF];omega
theorem avL{m}(h:dZ m=true)(G:pT m):(ly m).length<=2000000:=by
 obtain⟨-,F,B,L,H,y,D⟩:=Un h
 obtain⟨-,I,C,E,u,J,t,A⟩:=G
 have P:=wN lO m.cK (λx j=>Us (C x j)) F.1
 have M:=wN gY m.asks (λx j=>Fe (E x j)) B.1
 have T:=wN gY m.entries (λx j=>Fe (u x j)) L.1
 have Q:=wN gY m.fc (λx j=>Fe (J x j)) H.1
 have R:=wN fy m.dN (λx j=>Hw (t x j)) y.1
 have S:=wN fy m.ends (λx j=>Hw (A x j)) D.1
 have O:=cI (bf m.kind) (fW _)
 have N:=cI m.got I
 unfold ly
 grind
theorem aoE m v w(h:lF m v w)(hf:pT m) :
 Calls prog 89 #[v] w λe w'=>∃v',e=.returned (.tuple #[v',.int .i64 (iE m)])/\Own w' w.heap.size 5 v' (Lx m)/\K w w':=by
 have C0:=ae λW (kW:K w W)=>abC m v W (XA h kW)
 obtain⟨v1,v2,v3,v4,v5,v6,rfl,R,T,h3,Y,Z,h6⟩:=h
 have L1:=ae λW (kW:K w W)=>bo R kW
 have L2:=ae λW (kW:K w W)=>bo T kW
 have L3:=ae λW (kW:K w W)=>bo h3 kW
 have L4:=ae λW (kW:K w W)=>bo Y kW
 have L5:=ae λW (kW:K w W)=>bo Z kW
 have L6:=ae λW (kW:K w W)=>bo h6 kW
 obtain⟨A1,c1,rfl⟩:=aw R
 obtain⟨A2,c2,rfl⟩:=aw T
 obtain⟨A3,c3,rfl⟩:=aw h3
 obtain⟨A4,c4,rfl⟩:=aw Y
 obtain⟨A5,c5,rfl⟩:=aw Z
 obtain⟨A6,c6,rfl⟩:=aw h6
 clear R T h3 Y Z h6
 have j:=ah.new w 156 (km m (.slice A1 m.cK.length c1) (.slice A2 m.asks.length c2) (.slice A3 m.entries.length c3) (.slice A4 m.fc.length c4) (.slice A5 m.dN.length c5) (.slice A6 m.ends.length c6))
 have k1:=j.aS
 have t:=ae hf
 clear hf
 have J:Hid (iE m=if dZ m then 0 else 130):=ae rfl
 have N:Hid (Lx m=if dZ m then ly m else []):=ae rfl
 generalize iE m=CK at *
 generalize Lx m=O at *
 go_enter func89,ntmps89
 go_upto_region 1 with (fail)
 generalize w.alloc _=w1 at *
 have qx:=j.cells
 have y:=K.rf w1
 generalize w.heap.size=g at *
 clear j
 go_wp2_with fail
 apply oX (C0.aa w1 k1) k1
 intro w2 k2 kX
 cases hok:dZ m
 ·obtain rfl:CK=130:=by rw[J.aa,hok];rfl
  obtain rfl:O=[]:=by rw[N.aa,hok];rfl
  clear J N;go_wp2;go_ret2;exact⟨_,rfl,jV _ _ _ _,kX⟩
 obtain rfl:CK=0:=by rw[J.aa,hok];rfl
 have HR:Hid (O=ly m):=ae (by rw[N.aa,hok];rfl)
 clear J N
 have u:=ae (Un hok)
 clear hok C0
 have Q:=λW (kW:K w2 W)=>qx W (k2.tr kW)
 have y:=K.rf w2
 have pg:=cI (bf m.kind) (fW _)
 have gA:=cI m.got t.aa.2.1
 clear qx
 go_upto_region 4 with (fail)
 have qs:=And.intro Q Dj
 refine dD 7 [([],[]),([0],[(11,0)]),([1],[(12,1)]),([2],[(13,2)]),([],[]),([4],[(15,4)]),([3,5],[(14,3),(16,5)]),([6],[(17,6)])] 47 ?_
 iterate 3 refine au.i ?_
 refine au.c (sl (az (bf m.kind))) (nC _) (λW _=>(uB (bf m.kind) (Xz _) (fW _) aj).mono λe w9 ⟨v9,E,ho,S⟩=>⟨v9,E,eK (aO (az _)▸ho),S⟩) ?_
 iterate 2 refine au.i ?_
 refine au.op (sl (az (bf m.kind)++az m.got)) (nC _) (λV W kW hp=>?_) ?_
 ·simp only[cd,aO,aQ,bW,bY,aJ]at hp;simp[bP,aE,List.lookup,hp,cN,execOp,aF,go_sem];exact (uB m.got hp.1 t.aa.2.1 af).mono λe w9 ⟨v9,E,ho,S⟩=>⟨v9,E,eK ho,S⟩
 intro V W kW hA
 simp only[aO,aQ,cz,aJ,Nat.reduceAdd]at hA
 refine aH.p (aH.h ?_)
 have h7:=hA.2.2.2.2.2.2.1
 clear hA qs
 generalize V 6=v7 at *
 have I:=h7
 have L:=kX.tr kW
 have kv0:=kW
 generalize W=B at *
 have b0:(az (bf m.kind)++az m.got).length<=18:=aG
 clear h7 pg gA
 by_cases fZ:m.kind=1
 ·have y:=K.rf B;have F:=ae (apM _ m.cK _ _ B I (L1.aa _ L) af u.aa.2.1.1 t.aa.2.2.1);have kO:=wN lO m.cK (λx j=>Us (t.aa.2.2.1 x j)) u.aa.2.1.1;have b1:(az (bf m.kind)++az m.got++gH lO m.cK).length<=480027:=aG;obtain⟨B0,e0,rfl,-⟩:=I;generalize (az (bf m.kind)++az m.got).length=n0 at *;have y:=K.rf B;go_wp2_with fail
  apply DW F.aa L;intro v19 W1 G j1 A;have kv1:=kv0.tr j1;clear F;have D:=ae (TI _ m.asks _ _ W1 (eK G) (L2.aa _ A) af u.aa.2.2.1.1 t.aa.2.2.2.1);have eE:=wN gY m.asks (λx j=>Fe (t.aa.2.2.2.1 x j)) u.aa.2.2.1.1;have b2:(az (bf m.kind)++az m.got++gH lO m.cK++gH gY m.asks).length<=960036:=aG;obtain⟨B1,E,rfl,-⟩:=eK G;generalize (az (bf m.kind)++az m.got++gH lO m.cK).length=n1 at *;have y:=K.rf W1;go_wp2_with fail
  apply DW D.aa A;intro v29 C H j2 M;have U:=kv1.tr j2;clear D;have X:=ae (show Own C w.heap.size 5 v29 O from by rw[HR.aa];have h:=mg A.size H;simp only[ly,dY,ite_true,fZ]at h⊢;exact h);clear H;go_wp2;go_ret2;exact⟨_,rfl,X.aa,M⟩
 ·have y:=K.rf B;have F:=ae (TI _ m.entries _ _ B I (L3.aa _ L) af u.aa.2.2.2.1.1 t.aa.2.2.2.2.1);have kO:=wN gY m.entries (λx j=>Fe (t.aa.2.2.2.2.1 x j)) u.aa.2.2.2.1.1;have b1:(az (bf m.kind)++az m.got++gH gY m.entries).length<=480027:=aG;obtain⟨B0,e0,rfl,-⟩:=I;generalize (az (bf m.kind)++az m.got).length=n0 at *;have y:=K.rf B;go_wp2_with fail
  apply DW F.aa L;intro v19 W1 G j1 A;have kv1:=kv0.tr j1;clear F;have D:=ae (TI _ m.fc _ _ W1 (eK G) (L4.aa _ A) af u.aa.2.2.2.2.1.1 t.aa.2.2.2.2.2.1);have eE:=wN gY m.fc (λx j=>Fe (t.aa.2.2.2.2.2.1 x j)) u.aa.2.2.2.2.1.1;have b2:(az (bf m.kind)++az m.got++gH gY m.entries++gH gY m.fc).length<=960036:=aG;obtain⟨B1,E,rfl,-⟩:=eK G;generalize (az (bf m.kind)++az m.got++gH gY m.entries).length=n1 at *;have y:=K.rf W1;go_wp2_with fail
  apply DW D.aa A;intro v29 C H j2 M;have U:=kv1.tr j2;clear D;have C3:=ae (acS _ m.dN _ _ C (eK H) (L5.aa _ M) af u.aa.2.2.2.2.2.1.1 t.aa.2.2.2.2.2.2.1);have p6:=wN fy m.dN (λx j=>Hw (t.aa.2.2.2.2.2.2.1 x j)) u.aa.2.2.2.2.2.1.1;have b3:(az (bf m.kind)++az m.got++gH gY m.entries++gH gY m.fc++gH fy m.dN).length<=1440045:=aG;obtain⟨B2,e2,rfl,-⟩:=eK H;generalize (az (bf m.kind)++az m.got++gH gY m.entries++gH gY m.fc).length=n2 at *;have Q:=λW (kW:K C W)=>Q W (U.tr kW)
  have y:=K.rf C;go_wp2_with fail
  apply DW C3.aa M;intro v39 W3 eU j3 kw3;have kv3:=U.tr j3;clear C3 Q;have C4:=ae (acS _ m.ends _ _ W3 (eK eU) (L6.aa _ kw3) af u.aa.2.2.2.2.2.2.1 t.aa.2.2.2.2.2.2.2);have kP:=wN fy m.ends (λx j=>Hw (t.aa.2.2.2.2.2.2.2 x j)) u.aa.2.2.2.2.2.2.1;obtain⟨B3,e3,rfl,-⟩:=eK eU;generalize (az (bf m.kind)++az m.got++gH gY m.entries++gH gY m.fc++gH fy m.dN).length=n3 at *;have y:=K.rf W3;go_wp2_with fail
  apply DW C4.aa kw3;intro v49 W4 hs4 j4 kw4;clear C4;have X:=ae (show Own W4 w.heap.size 5 v49 O from by rw[HR.aa];have h:=mg kw3.size hs4;simp only[ly,dY,ite_false,fZ]at h⊢;exact h);clear hs4;go_wp2;go_ret2;exact⟨_,rfl,X.aa,kw4⟩
def zY:dW (Int×List UInt8) where
 size:=2
 rel x cs w:=∃v,cs=[.int .i64 x.1,v]/\sl x.2 v w
 len:=by rintro _ _ _⟨v,rfl,_⟩;rfl
 one:=by rintro x _ _⟨v,rfl,A,c,rfl,_⟩ u j;simp at j;rcases j with rfl|rfl <;> rfl
 st:=by rintro _ _ _ _⟨v,rfl,h⟩ k;exact⟨v,rfl,nC _ _ _ _ h k⟩
theorem axb:(prog.info? 96).map (λi=>(i.zero,i.size,i.bytes))=some (some (.agg #[.int .i64 0,.slice none 0 0]),2,32):=by rfl
theorem aAl:fK prog 92 96 (.agg #[.int .i64 0,.slice none 0 0]) 2 32:=⟨underlying92,axb,rfl,ay⟩
def wV(j:Int)(m:fw):List (Int×List UInt8):=if dZ m then [(j,ly m)]else []
theorem ack{base gb t o w} j m U(hb:ah w gb 92 #[o])(G:aA (λk=>k<base) base 96 zY t o w)(hm:lF m U w)(hfit:pT m)(hgb:gb<base)(hz:base<=w.heap.size)(hn:t.length<=1000) :
 Calls prog 88 #[.int .i64 j,U,.pointer (some ⟨gb,0,none⟩)] w λe w'=>e=.returned (.tuple #[])/\∃o',ah w' gb 92 #[o']/\aA (λk=>k<base) base 96 zY (t++wV j m) o' w'/\ag (λk=>k=gb∨o.ownBlock=some k) w w'/\∀k,o'.ownBlock=some k->o.ownBlock=some k∨w.heap.size<=k:=by
 have D:Hid (wV j m=if dZ m then [(j,ly m)]else []):=ae rfl
 have E:Hid (iE m=if dZ m then 0 else 130):=ae rfl
 have HM:Hid (Lx m=if dZ m then ly m else []):=ae rfl
 have C1:=ae λW (k:K w W)=>aoE m U W (XA hm k) hfit
 obtain⟨v1,v2,v3,v4,v5,v6,rfl,h1,h2,h3,h4,h5,h6⟩:=hm
 obtain⟨A1,c1,rfl⟩:=aw h1
 obtain⟨A2,c2,rfl⟩:=aw h2
 obtain⟨A3,c3,rfl⟩:=aw h3
 obtain⟨A4,c4,rfl⟩:=aw h4
 obtain⟨A5,c5,rfl⟩:=aw h5
 obtain⟨A6,c6,rfl⟩:=aw h6
 have y:=ah.new w 156 (km m (.slice A1 m.cK.length c1) (.slice A2 m.asks.length c2) (.slice A3 m.entries.length c3) (.slice A4 m.fc.length c4) (.slice A5 m.dN.length c5) (.slice A6 m.ends.length c6))
 have k1:=y.aS
 obtain⟨A,B,rfl⟩:=G.slice
 generalize wV j m=SM at *
 generalize iE m=CK at *
 generalize Lx m=EM at *
 clear h1 h2 h3 h4 h5 h6
 go_enter func88,ntmps88
 go_upto_region 1 with (fail)
 generalize w.alloc _=w1 at *
 have qx:=y.cell
 have V:=ae (C1.aa w1 k1)
 clear C1
 go_wp2_with fail
 refine V.aa.mono ?_
 rintro e Q⟨v7,rfl,I,k2⟩
 have C:=k1.tr k2
 have L:=G.st C
 have Z:=hb.av C
 have hz1:=k1.size
 have hz2:=C.size
 have bR:=G.blk
 cases hk:dZ m
 ·obtain rfl:CK=130:=by rw[E.aa,hk];rfl
  have O:Hid (SM=[]):=ae (by rw[D.aa,hk];rfl);clear V qx hk E HM D;go_wp2;go_end0;exact⟨rfl,_,Z,by rw[O.aa,List.append_nil];exact L,ag.aT C _,λ_ h=>.inl h⟩
 obtain rfl:CK=0:=by rw[E.aa,hk];rfl
 obtain rfl:EM=ly m:=by rw[HM.aa,hk];rfl
 have O:Hid (SM=[(j,ly m)]):=ae (by rw[D.aa,hk];rfl)
 have q2:=Z.cell
 have jD:Fx (λk=>k<base∨(Value.slice A t.length B).ownBlock=some k) (λW=>zY.rel (j,ly m) (Value.agg #[.int .i64 j,v7]).cells.toList W) Q:=λW u=>⟨v7,rfl,eK (iK I u λk hk y=>by
  have:=(I.lt k hk).1;rcases y with y|y
  ·omega
  ·have:=(bR k y).2;omega)⟩
 obtain⟨M,R,rfl,-⟩:=eK I
 have hr:=ew.new (S:=zY) (e:=96) (v:=.agg #[.int .i64 j,.slice M (ly m).length R]) jD 0 (eV _)
 have Y:=K.new Q (.cells #[.int .i64 j,.slice M (ly m).length R] 96)
 have bE:=L.st Y
 have bG:=Z.av Y
 have ni:=C.tr Y
 have jl:=ni.size
 clear V qx hk E HM D jD I L G
 go_wp2_with (at_builtin;refine jt rfl _ _ 92 rfl _ 2 32 aAl rfl rfl bE _ rfl (j,ly m) ?p1 ?p2 ?p3 ?_)
 case p1=>exact hr
 case p2=>omega
 case p3=>exact bn hz jl
 intro v9 w9 F bB cQ aZ
 have u9:ag (λk=>k=gb∨(Value.slice A t.length B).ownBlock=some k) (Q.alloc (.cells #[.int .i64 j,.slice M (ly m).length R] 96)) w9:=ag.eM bB λk hk=>.inr hk
 have hat:∀k,v9.ownBlock=some k->(Value.slice A t.length B).ownBlock=some k∨w.heap.size<=k:=λk hk=>by
  rcases cQ with e|e
  ·exact .inl (e▸hk)
  ·rw[e]at hk;injection hk with hk;exact .inr af
 have pq:=ae hat
 have hgo:=λk hk=>(F.blk k hk).1
 have H:=bG.aX (ag.eM (X:=λk=>(Value.slice A t.length B).ownBlock=some k) bB λk hk=>hk) λhk=>by have:=(bR gb hk).1;omega
 obtain⟨N,J,rfl⟩:=F.slice
 generalize (t++[(j,ly m)]).length=T at *
 have q9:=H.cell
 have z9:=H.frozen
 have hbF:=H.aM 0 (.slice N T J)
 have uF:=((ag.aT ni (λk=>k=gb∨(Value.slice A t.length B).ownBlock=some k)).tr u9).tr (ag.bL (X:=λk=>k=gb∨(Value.slice A t.length B).ownBlock=some k) (.inl rfl) 0 (.slice N T J))
 have hOF:=ae (F.up (Y':=λk=>k=gb) (ag.bL (X:=λk=>k=gb) rfl 0 (.slice N T J)) (λk e=>by subst e;exact hgb) λk e=>by subst e;exact hgb)
 have UF:=ae uF
 have BF:=ae hbF
 clear F bB cQ aZ bE hr hat u9 uF hbF q2 H
 go_wp2
 go_end0
 exact⟨rfl,_,BF.aa,by rw[O.aa];exact hOF.aa,UF.aa,pq.aa⟩
structure ajF(B B':bj):Prop where
 me:B'.me=B.me
 par:B'.par=B.par
 ai:B'.ai=B.ai
 calls:B'.calls=B.calls
 bQ:B'.bQ=B.bQ
 refused:B'.refused=B.refused
 told:B'.told=B.told
 life:B'.st.life=B.st.life
theorem mT.w{B B'}(h:mT B B'):ajF B B':=⟨h.me,h.par,h.ai,h.calls,h.bQ,h.refused,h.told,h.life⟩
theorem Kn{B}(y:bD B):ajF B (gZ B):=by
 have A:=y.open';unfold gZ;split
 ·have u:=Hr y λx t=>(A.2.1 x t).2
  have C:=Kl (kids:=dy B) (p:=(zK B,[])) u.1 λx t=>(A.1 x t).2
  have j:=u.2.tr C.2.1;exact⟨j.me,j.par,j.ai,j.calls,j.bQ,j.refused,j.told,j.life⟩
 ·exact (mT.rf B).w
def tH(B:bj):List (Int×List UInt8):=if mQ B then []else wV (xb B) (Dq B)
def tI(B:bj)(l:List Int):List (Int×List UInt8):=l.flatMap λk=>wV k (wL B k)
def ye(B:bj):List (Int×List UInt8):=tH B++tI B (oU B)
theorem adE k m:(wV k m).length<=1:=by unfold wV;split <;> simp
theorem Ut B:∀l:List Int,(tI B l).length<=l.length
 | []=>by simp[tI]
 | k :: l=>by have:=adE k (wL B k);have:=Ut B l;simp only[tI,rI,cF,eQ]at *;omega
theorem adF B:(tH B).length<=1:=by unfold tH;split;simp;exact adE _ _
theorem axc{B}{m:Nat}(h1:B.me=(m:Int))(h2:m<B.par.length):xb B=B.par[m]:=aih
theorem aqP{M p B w}(h:bA M p B w)(Q:bD B)(hF:kN B)(gV:B.told.length<=800000) :
 Calls prog 46 #[.pointer (some ⟨p.g,0,none⟩)] w λe w'=>∃v' p',e=.returned v'/\bA (λk=>M k∨bw p' k) p' (gZ B) w'/\ag (bw p) w w'/\p'.key=p.key/\(∀k,bw p' k->bw p k∨w.heap.size<=k)/\Fx (λk=>M k∨bw p' k) (λW=>aq zY (ye (gZ B)) v' W) w':=by
 have C1:=ae (acd h Q)
 have hS:=Kn Q
 have C:=Km Q
 have NH:=O3 Q hF
 have htW:(gZ B).told.length<=800000:=by rw[hS.told];exact gV
 generalize gZ B=t at *
 obtain⟨g,hg⟩:∃g,g=p.g:=⟨_,rfl⟩
 rw[<- hg]at C1⊢
 have HG:=ae hg
 clear h Q hF gV hS hg
 go_enter func46,ntmps46
 go_wp2_with fail
 refine C1.aa.mono ?_
 rintro e F⟨rfl,hN⟩
 obtain⟨p',Z,J,jr,wF⟩:=hN
 have dB:=ah.new F 92 #[.slice none 0 0]
 have kA:=dB.aS
 have FU:(F.alloc (.cells #[.slice none 0 0] 92)).heap.size=F.heap.size+1:=aj
 have tY:bA (λk=>(M k∨bw p' k)∨k=F.heap.size) p' t (F.alloc (.cells #[.slice none 0 0] 92)) :=
  Z.far (X:=λ_=>False) (ag.aT kA _) (λ_ h=>h.elim) (λ_ h=>h.elim) (λk hk E=>E.resolve_right af) (λk hk=>.inl (.inr hk)) λk hk=>by
   rcases hk with hk|hk
   ·have:=Z.low k hk;omega
   ·omega
 have SC:=ae kA
 have G:=Z.low
 have u1s:=J.size
 clear C1 Z
 go_upto_region 5 with (fail)
 generalize F.alloc _=R at *
 generalize Rl:F.heap.size=gb at *
 have Y:=(AW jr).trans HG.aa.symm
 obtain⟨base,hbase⟩:∃base,base=R.heap.size:=⟨_,rfl⟩
 have hgb:gb<base:=af
 have Ta:Hid (∀W,ag (λk=>k=gb∨base<=k) R W->bA (λk=>(M k∨bw p' k)∨k=gb) p' t W):=ae λW u =>
  have u':ag (λk=>k=gb) R W:=⟨u.os,u.tape,u.output,u.size,λk h1 h2=>u.block k h1 λh=>h.elim h2 λh=>af⟩
  tY.far u' (λk hk=>.inr hk) (λk hk E=>by have:=G k (.inr E);omega) (λ_ _ h=>h) (λk hk=>.inl (.inr hk)) λk hk=>bz (tY.low k hk) u.size
 have HV2:=ae tY
 have HX:=ae (And.intro J (And.intro jr (And.intro wF (And.intro G Rl))))
 clear tY J jr wF G Rl
 go_wp2_with fail
 have CR:=ae (OG HV2.aa)
 rw[Y]at CR
 refine CR.aa.mono ?_
 rintro e H⟨rfl,k3⟩
 have u3:ag (λk=>k=gb∨base<=k) R H:=ag.aT k3 _
 have I0:=dB.av k3
 have Bd:=ae u3
 have js:=aA.nil (λk=>k<base) base 96 zY H
 have jl:=k3.size
 clear CR dB
 go_upto_if 14 with (fail)
 go_cut [13,14]from 15 to 48 (fun _ _ W=>∃o,ah W gb 92 #[o]/\aA (fun k=>k<base) base 96 zY (tH t) o W/\ag (fun k=>k=gb∨base<=k) R W)
 case first =>
  have HR:Hid (tH t=if mQ t then []else wV (xb t) (Dq t)):=ae rfl;generalize tH t=OU at *;cases hr:mQ t
  ·have HO:Hid (OU=wV (xb t) (Dq t)):=ae (by rw[HR.aa,hr];rfl);clear hr HR;have D:=Ta.aa H u3;have q:=D.q;have jn:=C.dk.len;have hrl:=C.fe;have Cf:=C.me;have hpl:=(sD C.tr).2;have pg:(dy t).length<=16:=by unfold dy;rw[List.length_map];exact bn (Hv _ _) (sD C.tr).2
   simp only[fT,dE,decide_eq_true_eq]at Cf;obtain⟨mn,vT⟩:=Int.eq_ofNat_of_zero_le Cf.1;have NI:mn<t.par.length:=af;have NJ:=ae (axc vT NI);have CL:=ae λW (k:K H W)=>TW (D.st k) C
   have CA:=ae λW (k:K H W)=>acb (D.st k) C
   have HD:=ae λW (k:K H W)=>D.bI.at k
   have Mf:=D.bI.now.par;have hs1:=aw D.bI.now.list;have fC:=aw D.bI.now.prom;have eU:=aw D.bI.now.fe;have Nx:=ae D;rw[Y]at q CL CA;obtain⟨g',gl,gd,gr,gt,vd,vr,vp,vh,vl,vq,va,vt,vf,vw,kr⟩:=p';simp only at q HD Mf hs1 fC eU;simp only[Gy,vT]at q;obtain⟨Al,cl,rfl⟩:=hs1;obtain⟨Aq,cq,rfl⟩:=fC;obtain⟨Af,cf,rfl⟩:=eU;obtain⟨Ap,cp,rfl,Mg,-⟩:=Mf;obtain⟨bp,op,rfl,U⟩:=ints_at Mg af;have S:=λW (k:K H W)=>U W k mn NI
   have uv:(mn:Int)<(t.par.length:Int):=af;have hw:=ajp t.st.list.length af;clear D U Mg Cf vT u3;go_wp2_with fail
   have qs:=And.intro q (And.intro S (And.intro uv hw));refine dD 33 (([],[]) :: ([],[]) :: ([1],[(16,1)]) :: ([2],[(17,2)]) :: ([3],[(18,3)]) :: ([],[]) :: ([5],[(20,5)]) :: ([6],[(21,6)]) :: ([7],[(22,7)]) :: ([4,8],[(19,4),(23,8)]) :: ([9],[(24,9)]) :: ([],[]) :: ([11],[(26,11)]) :: ([12],[(27,12)]) :: ([13],[(28,13)]) :: ([14],[(29,14)]) :: ([15],[(30,15)]) :: ([16],[(31,16)]) :: ([],[]) :: ([18],[(33,18)]) :: ([19],[(34,19)]) :: ([20],[(35,20)]) :: ([21],[(36,21)]) :: ([],[]) :: ([23],[(38,23)]) :: ([24],[(39,24)]) :: ([25],[(40,25)]) :: ([],[]) :: ([27],[(42,27)]) :: ([22,26,28],[(37,22),(41,26),(43,28)]) :: ([],[]) :: ([30],[(45,30)]) :: ([17,29,31],[(32,17),(44,29),(46,31)]) :: ([0,10,31,32],[(15,0),(25,10),(47,32)]) :: []) 64 ?_;iterate 28 refine au.i ?_
   refine au.op (λv W=>aq xJ (dy t) v W) (λ_ _ _ h k=>bo h k) (λV W kW hp=>?_) ?_
   ·(try simp only[cd,aO,aQ,bW,bY,aJ]at hp)
    simp[bP,aE,List.lookup,hp,cN,execOp,aF,q,S,uv,hw,go_sem];refine (CL.aa W kW).mono ?_;exact aii
   refine au.op (λv W=>aq nL (Ln t.st.prom t.refused (dy t)) v W) (λ_ _ _ h k=>bo h k) (λV W kW hp=>?_) ?_
   ·(try simp only[cd,aO,aQ,bW,bY,aJ]at hp)
    simp[bP,aE,List.lookup,hp,cN,execOp,aF,q,S,uv,hw,go_sem];refine (aqz t.st.prom t.refused (dy t) _ _ _ W (HD.aa W kW).prom (HD.aa W kW).fe hp.2.2.1 af af af (λm hm=>by have:=(C.last hm).2.1;omega)).mono ?_;rintro e w4⟨v4,rfl,hO,k4⟩;exact⟨_,rfl,hO.aq,k4⟩
   refine au.i ?_;refine au.op (λv W=>aq aU (mo t) v W) (λ_ _ _ h k=>bo h k) (λV W kW hp=>?_) ?_
   ·(try simp only[cd,aO,aQ,bW,bY,aJ]at hp)
    simp[bP,aE,List.lookup,hp,cN,execOp,aF,q,S,uv,hw,go_sem];refine (CA.aa W kW).mono ?_;exact aii
   refine au.op (λv W=>lF (Dq t) v W) (λ_ _ _ h k=>XA h k) (λV W kW hp=>?_) ?_
   ·simp only[cd,aO,aQ,bW,bY,aJ]at hp;obtain⟨EN,h29,h31,-⟩:=hp;obtain⟨A29,c29,e29⟩:=aw h29;obtain⟨A31,c31,e31⟩:=aw h31;simp[bP,aE,List.lookup,EN,e29,e31,cN,execOp,aF,cM,go_sem];rw[e29]at h29;rw[e31]at h31;exact⟨_,_,_,_,_,_,rfl,h29,h31,gh _ _,gh _ _,gh _ _,gh _ _⟩
   clear qs;intro V W kW hA;simp only[aO,aQ,cz,aJ,Nat.reduceAdd]at hA;obtain⟨f0,f1,f2,f3,f4,f5,f6,f7,f8,f9,f10,f11,f12,f13,f14,f15,f16,f17,f18,f19,f20,f21,f22,f23,f24,f25,f26,f27,f28,f29,f30,f31,f32,-⟩:=hA;have aZ:=I0.av kW;have nt:=kW.size;have CS:=ae (ack (xb t) (Dq t) _ aZ (js.st kW) f32 (ach C NH) hgb af aj);rw[NJ.aa]at CS;clear f1 f2 f3 f4 f5 f6 f7 f8 f9 f11 f12 f13 f14 f15 f16 f17 f18 f19 f20 f21 f22 f23 f24 f25 f26 f27 f28 f29 f30 f31 f32 CL CA q S;refine aH.call _ _ rfl (by simp[aE,List.lookup,ba,f0,f10,execOp,aF,go_sem];exact⟨rfl,rfl⟩) ?_;refine CS.aa.mono ?_;rintro e T⟨rfl,o',gT,I,u5,-⟩;refine⟨_,rfl,?_⟩;refine aH.nil ?_;simp only[fX,Act.put,rJ,qM,qL,Nat.reduceAdd,ba];have U5:=ae ((Bd.aa.tr (ag.aT kW (λk=>k=gb∨base<=k))).tr (u5.more λk hk=>hk.imp id λh=>wR));rw[aO,<- NJ.aa,<- HO.aa]at I;clear CS f0 f10 u5;go_wp2_with fail
   go_meet
   case rel=>exact⟨_,gT,I,U5.aa⟩
  ·have HO:Hid (OU=[]):=ae (by rw[HR.aa,hr];rfl);clear hr HR;go_wp2_with fail
   go_meet
   case rel=>exact⟨_,I0,by rw[HO.aa];exact js,Bd.aa⟩
 case rest =>
  obtain⟨o,hbo,hO,u4⟩:=hcut;have G2:=Ta.aa wc u4;have CK:=ae (TS G2 C);rw[Y]at CK;have pg:(oU t).length<=16:=bn (Hv _ _) (sD C.tr).2;have h0l:=adF t;have HX0:Hid (ye t=tH t++tI t (oU t)):=ae rfl;have hwz:=u4.size;clear G2 I0 js k3 u3 Bd jl;go_wp2_with fail
  refine CK.aa.mono ?_;rintro e T⟨v5,rfl,I,k5⟩;generalize oU t=y at *;obtain⟨A5,c5,rfl⟩:=I.slice;have s6:=ae (I.fx λ_ h=>h);have bR:=hO.blk;have gT:=hbo.av k5;have D7:aA (λk=>k<base) base 96 zY (tH t++tI t (y.take 0)) o T:=by have:=hO.st k5;simpa [tI]using this
  have u5:=ae (u4.tr (ag.aT k5 _));have hU5:=ag.rf (λk=>k=gb∨o.ownBlock=some k) T;clear CK I hbo hO u4;go_wp2_with fail
  go_loopw [6,52] (fun _ i W=>∃(j:Nat) (o2:Value),j<=y.length/\i=.int .i64 (j:Int)/\ah W gb 92 #[o2]/\aA (fun k=>k<base) base 96 zY (tH t++tI t (y.take j)) o2 W/\ag (fun k=>k=gb∨o.ownBlock=some k) T W/\∀k,o2.ownBlock=some k->o.ownBlock=some k∨T.heap.size<=k) (fun _ i _=>y.length-(intOf i).toNat)
  case atStart=>exact⟨0,o,af,rfl,gT,D7,hU5,λ_ h=>.inl h⟩
  case round =>
   clear gT D7 hU5;obtain⟨j,o2,hj,rfl,hb,hO,u,lD⟩:=hrel;have L:=u5.aa.tr (u.more λk hk=>hk.imp id λh=>(bR k h).1);have aEo:=L.size;have hus:=u.size;by_cases hlt:j<y.length
   ·have aP:(j:Int)<(y.length:Int):=af;have hl:=(s6.aa.up u λk hk=>by rcases hk with hk|hk;omega;exact (bR k hk).2).now;obtain⟨A,c,e,hl,-⟩:=hl;injection e with e1 e2 e3;subst e1;clear e2 e3;obtain⟨b,off,rfl,U⟩:=ints_at hl af;have cj:=U wr (K.rf _) j hlt;have hV:=Ta.aa wr L;have O:=aoC hV C NH.nd htW y[j];have hcf:=abL C y[j];have HS:Hid (tH t++tI t (y.take (j+1))=(tH t++tI t (y.take j))++wV y[j] (wL t y[j])):=ae (by
     unfold tI;rw[gj hlt,List.flatMap_append,<- dY];simp only[rI,List.flatMap_nil,List.append_nil])
    have NG:=Ut t (y.take j);have xI:(tH t++tI t (y.take j)).length<=1000:=by rw[cF];rw[nX]at NG;omega
    rw[Y]at O;have O:=ae O;generalize y[j]=kd at *;generalize tH t++tI t (y.take j)=os at *;generalize wL t kd=cm at *;clear U hl hV NG;go_wp2_with fail
    refine O.aa.mono ?_;rintro e w6⟨v6,rfl,yK,k6⟩;have jm:=hb.av k6;have xg:=k6.size;have C7:=ae (ack kd cm v6 jm (hO.st k6) yK hcf hgb af xI);obtain⟨m1,m2,m3,m4,m5,m6,rfl,-⟩:=yK;clear O cj hb hO;go_wp2_with fail
    refine C7.aa.mono ?_;rintro e w7⟨rfl,o7,iT,jC,u7,Rw⟩;rw[<- HS.aa]at jC;have hU7:=ae ((u.tr (ag.aT k6 _)).gg u7 λk hk E=>E.imp id λh=>(lD k h).resolve_right af);have SN:=ae λk hk=>(Rw k hk).elim (λh=>lD k h) λh=>.inr af
    clear C7 Rw u7 lD;go_wp2;go_roundw
    case rel=>exact⟨j+1,o7,af,bJ,iT,jC,hU7.aa,SN.aa⟩
    case measure=>simp[intOf];omega
   ·have aP:¬(j:Int)<(y.length:Int):=af;obtain rfl:j=y.length:=af;rw[lL,<- HX0.aa]at hO;obtain⟨Ao,co,rfl⟩:=hO.slice;have q:=hb.cell;obtain⟨J,hkey,iQ,G,Rl⟩:=HX.aa;have HF:=ae (show bA (λk=>M k∨bw p' k) p' t wr from (Ta.aa wr L).less (λk hk=>.inr hk) λk hk=>.inl hk);have hUF:=((J.tr (ag.aT SC.aa _)).gg L λk hk E=>by
     have:=G;rcases E with E|E <;> omega)
    have HU:=ae hUF;have yZ:=ae ((hO.fx λ_ h=>h).less (N:=λk=>M k∨bw p' k) λk hk=>by have:=G k hk;omega);have HK:=ae hkey;have EA:=ae iQ;clear hO J hkey iQ G Rl L hUF;go_wp2;go_ret;first|exact⟨_,rfl,p',HF.aa,HU.aa,HK.aa,EA.aa,yZ.aa⟩|exact⟨_,p',rfl,HF.aa,HU.aa,HK.aa,EA.aa,yZ.aa⟩
abbrev tg:=(Int×Int)×List (List UInt8)
def nu(L:List tg)(k:Int×Int):Option (List (List UInt8)):=(L.find? λp=>decide (p.1=k)).map (·.2)
def jK(L:List tg)(k:Int×Int)(l:List (List UInt8)):List tg:=L.map λp=>if p.1=k then (p.1,l)else p
def yg(L:List tg)(k:Int×Int)(b:List UInt8):List tg:=match nu L k with
 | some l=>if l.length<8 then jK L k (l++[b])else L
 | none=>L
structure JV where
 up:Option bj
 dk:oK
structure bH where
 par:List Int
 ai:List Int
 dX:List tg
 gF:List JV
 cur:List Int
 got:List (List (List (List cT)))
structure nc(O:bH):Prop where
 tr:gQ O.par=true
 hm:pW O.par O.ai=true
 ln:O.gF.length=O.par.length
 lc:O.cur.length=O.ai.length
 lg:O.got.length=O.ai.length
def ku(O:bH)(n:Int):Bool:=fT O.par n
def cX(O:bH)(n:Int):Option bj:=if ku O n then (O.gF[n.toNat]?).bind (·.up)else none
def ot(O:bH)(n:Int)(x:JV):bH:={ O with gF:=O.gF.set n.toNat x }
def sN(O:bH)(n:Int)(B:bj):bH:=ot O n ⟨some B,B.dk⟩
def kH(O:bH)(c:Int):Bool:=decide (0<=c)&&decide (c<(O.ai.length:Int))
def mU(O:bH)(c:Int):Int:=(O.ai[c.toNat]?).getD 0
def uZ{α:Type}(O:bH)(c:Int)(z:α)(f:bj->bj×α×Int):bH×α×Int :=
 if kH O c then (match cX O (mU O c)with|none=>(O,z,210)|some B=>(sN O (mU O c) (f B).1,(f B).2))else (O,z,1)
def wH{α:Type}(O:bH)(c:Int)(a:aR)(z:α)(f:bj->bj×α×Int):bH×α×Int :=
 if kH O c&&(cX O (mU O c)).isSome&&decide (a.1≠mU O c)then (O,z,1)else uZ O c z f
def uJ(O:bH)(c:Int):bH×aR×Int:=uZ O c (0,0,0) λB=>wT B c
def yD(O:bH)(c:Int)(n:Nat)(f:List dt):bH×aR×Int:=uZ O c (0,0,0) λB=>yw B c n f
def pM(O:bH)(c:Int)(a:aR)(f:List eF->List eF×Int):bH×Unit×Int:=wH O c a () λB=>((fo B (f B.aB)).1,(),(fo B (f B.aB)).2)
def Dx(O:bH)(c:Int)(a:aR):Int×Int:=let r:=wH O c a (0:Int) λB=>(B,Fy B a,0);r.2
def pN(O:bH)(c:Int):bH×List (List cT)×Int :=
 if kH O c then (match cX O (mU O c)with
  | none=>(O,[],210)
  | some B =>
   let r:=oW B c ((O.cur[c.toNat]?).getD 0)
   if r.2.2=0 then ({ O with cur:=O.cur.set c.toNat r.2.1,got:=if r.1=[]then O.got else O.got.modify c.toNat λg=>g++[r.1] },r.1,0)else (O,[],r.2.2))
 else (O,[],1)
def tJ(O:bH)(n:Int):bH×Int :=
 if ku O n then (match cX O n with
  | none=>(O,210)
  | some B=>({ sN O n (gZ B)with dX:=(ye (gZ B)).foldl (λL m=>yg L (n,m.1) m.2) O.dX },0))
 else (O,1)
def rF(O:bH)(a b:Int):bH×Int:=match nu O.dX (a,b)with
 | none=>(O,140)
 | some []=>(O,141)
 | some (m :: l) =>
  let P:={ O with dX:=jK O.dX (a,b) l }
  match cX O b with
  | none=>(P,210)
  | some B=>(sN P b (il B a m).1,(il B a m).2)
def nY(O:bH)(a b:Int):Nat:=((nu O.dX (a,b)).getD []).length
def FD(a b:Int):Nat->bH->bH
 | 0,O=>O
 | k+1,O=>FD a b k (rF O a b).1
def yh(O:bH)(n:Nat):bH:=if (tJ O n).2=0 then (List.range O.par.length).foldl (λO (t:Nat)=>if t=n then O else FD n t (nY O n t) O) (tJ O n).1 else O
def wU(O:bH):bH:=((List.range O.par.length).reverse++List.range O.par.length).foldl yh O
def zE(O:bH)(n:Int):bH×Int:=if ku O n then (match cX O n with|none=>(O,210)|some B=>(ot O n ⟨none,B.dk⟩,0))else (O,1)
def JW(d:oK):dc:=(i6 dw d.eT).getD dw
def tK(O:bH)(n:Int):bH×Int :=
 let d:=((O.gF[n.toNat]?).map (·.dk)).getD ⟨[],0⟩
 if iO (dF (cZ (JW d)))<=d.room then (sN O n (uY n O.par O.ai ⟨dF (cZ (JW d)),d.room⟩ (cZ (JW d))),0)else (O,90)
def zu(O:bH)(n:Int):bH×Int:=if ku O n then (if (cX O n).isSome then (O,210)else tK O n)else (O,1)
def oR(O:bH)(n:Int):dc:=if ku O n then (match cX O n with|some B=>B.st|none=>((O.gF[n.toNat]?).map λx=>JW x.dk).getD dw)else dw
def IJ(O:bH)(n:Int):Nat:=(oR O n).prom.length+(match cX O n with|some B=>(B.aB.filter (·.asked)).length+B.waits.length|none=>0)
def IC(par:List Int):List tg:=(List.range par.length).tail.flatMap λ(k:Nat)=>let p:=(par[k]?).getD 0;[(((k:Int),p),[]),((p,(k:Int)),[])]
def tO(par ai:List Int)(room:Nat):bH :=
 ⟨par,ai,IC par,(List.range par.length).map λ(n:Nat)=>let d:oK:=⟨dF (cZ dw),room⟩;⟨some (uY n par ai d (cZ dw)),d⟩,ai.map λ_=>0,ai.map λ_=>[]⟩
def NK(M C:Nat->Prop)(v:Value)(j:List (List UInt8))(W:World):Prop:=∃c vs,v=.chan (some c)/\C c/\pn c vs W/\vs.length=j.length/\∀(i:Nat) (h:i<vs.length) (h':i<j.length),j[i].length<=1000000000/\Fx M (λW=>sl j[i] vs[i] W) W
structure xL(M C:Nat->Prop)(gn gm:Nat)(ak:List ((Int×Int)×Value))(L:List tg)(W:World):Prop where
 blk:ah W gn 149 #[.map (some gm)]
 map:ei qQ W gm ak
 len:ak.length=L.length
 ls:∀(i:Nat) (h:i<ak.length) (h':i<L.length),ak[i].1=L[i].1/\NK M C ak[i].2 L[i].2 W
 nd:(ak.map (·.2)).Nodup
 kn:∀(i j:Nat) (h1:i<ak.length) (h2:j<ak.length),ak[i].1=ak[j].1->i=j
 ne:¬M gn/\¬M gm
 sub:∀k,C k->M k
def sy(M C:Nat->Prop)(j:Nat)(L:List tg)(W:World):Prop:=∃t ak,xL M C j t ak L W
section
variable {M M' C X:Nat->Prop} {gn gm:Nat} {ak:List ((Int×Int)×Value)} {L:List tg} {W W':World} {v:Value} {ms:List (List UInt8)} {a b:Int}
theorem NK.to(h:NK M C v ms W)(u:ag X W W')(G:∀k,X k->M k)(E:∀k,C k->¬X k)(D:∀k,k<W.heap.size->M' k->M k):NK M' C v ms W':=by obtain⟨c,vs,e,j,B,F,t⟩:=h;exact⟨c,vs,e,j,B.aX u (E c j),F,λi y A=>⟨(t i y A).1,(t i y A).2.to u G D⟩⟩
theorem sy.to(h:sy M C gn L W)(u:ag X W W')(t:∀k,X k->M k)(F:∀k,C k->¬X k)(j:∀k,k<W.heap.size->M' k->M k)(E:∀k,C k->M' k):sy M' C gn L W':=by
 obtain⟨A,ak,h⟩:=h;have hg:=h.blk.lt;have hm:A<W.heap.size:=by obtain⟨es,c,D,-⟩:=h.map;exact (Array.getElem?_eq_some_iff.1 D).1
 exact⟨A,ak,h.blk.aX u λe=>h.ne.1 (t _ e),h.map.aX u λe=>h.ne.2 (t _ e),h.len,λi y B=>⟨(h.ls i y B).1,(h.ls i y B).2.to u t F j⟩,h.nd,h.kn,⟨λe=>h.ne.1 (j _ hg e),λe=>h.ne.2 (j _ hm e)⟩,E⟩
theorem Qv:∀(ak:List ((Int×Int)×Value)) (L:List tg) (k:Int×Int),ak.length=L.length->(∀(i:Nat) (h:i<ak.length) (h':i<L.length),ak[i].1=L[i].1)->(nu L k=none/\∀j,fR k ak j=none)∨∃i,∃(h:i<ak.length) (h':i<L.length),ak[i].1=k/\nu L k=some L[i].2/\∀j,fR k ak j=some (i+j,ak[i].2)
 | [],[],k,_,_=>.inl ⟨rfl,λ_=>rfl⟩
 | [],_ :: _,_,h,_=>wQ
 | _ :: _,[],_,h,_=>wQ
 | p :: r,q :: s,k,h,he=>by
  have t:=he 0 aj aj;simp only[List.getElem_cons_zero]at t;by_cases hk:p.1=k
  ·exact .inr ⟨0,aj,aj,hk,by simp[nu,<- t,hk],λj=>by simp[fR,hk]⟩
  ·rcases Qv r s k zw (λi h1 h2=>he (i+1) Bo xU)with ⟨h1,h2⟩|⟨i,h1,h2,h3,y,u⟩
   ·exact .inl ⟨by unfold nu at *;simpa [<- t,hk]using h1,λj=>by simp[fR,hk,h2]⟩
   ·exact .inr ⟨i+1,Bo,xU,KX,by unfold nu at *;simpa [<- t,hk]using y,λj=>by simp[fR,hk,u];omega⟩
theorem XD{L k l i}(h:i<(jK L k l).length)(j:i<L.length):(jK L k l)[i]=if L[i].1=k then (L[i].1,l)else L[i]:=by simp[jK]
theorem xL.set(h:xL M C gn gm ak L W){i c k}(hi:i<ak.length)(hk:ak[i].1=k)(R:ak[i].2=.chan (some c)){l}(u:ag (λk=>k=c) W W')(G:NK M C ak[i].2 l W'):xL M C gn gm ak (jK L k l) W':=by
 have N:C c:=by
  obtain⟨Q,vs,e,h1,-⟩:=G
  grind
 have y:=h.sub c N;refine⟨h.blk.aX u λe=>h.ne.1 (e▸y),h.map.aX u λe=>h.ne.2 (e▸y),by simp[jK,h.len],λj h1 F=>?_,h.nd,h.kn,h.ne,h.sub⟩;have E:j<L.length:=by rw[<- h.len];exact h1
 obtain⟨A,O⟩:=h.ls j h1 E;rw[XD F E];by_cases t:L[j].1=k
 ·rw[if_pos t];obtain rfl:=h.kn j i h1 hi ((A.trans t).trans hk.symm);grind
 ·rw[if_neg t];refine⟨A,?_⟩;obtain⟨c2,vs,e,H,I,J,B⟩:=O;refine⟨c2,vs,e,H,I.aX u λS=>t ?_,J,λi hi D=>⟨(B i hi D).1,(B i hi D).2.up u λk e=>e▸y⟩⟩;have:=(List.getElem_inj (h₀:=Bo) (h₁:=Pp) h.nd).1 aG;subst this;exact A.symm.trans hk
theorem aqQ(h:sy M C gn L W) :
 Calls prog 56 #[.pointer (some ⟨gn,0,none⟩),.int .i64 a,.int .i64 b] W λe w'=>∃v B,e=.returned (.tuple #[v,.int .i64 B])/\ag C W w'/\(nu L (a,b)=none/\B=140/\sy M C gn L w'∨nu L (a,b)=some []/\B=141/\sy M C gn L w' ∨
  ∃m l,nu L (a,b)=some (m :: l)/\B=0/\sy M C gn (jK L (a,b) l) w'/\m.length<=1000000000/\Fx M (λW=>sl m v W) w'):=by
 obtain⟨E,ak,h⟩:=h
 have Q:=h.kn
 rcases Qv ak L (a,b) h.len (λi t D=>(h.ls i t D).1)with ⟨t,D⟩|⟨i,t,D,N,H,h5⟩
 ·apply bF (avm h.blk h.map Ir);rintro w' rfl;exact⟨_,_,rfl,ag.rf _ _,.inl ⟨t,rfl,E,ak,h⟩⟩
 ·obtain⟨c,vs,e,I,U,F,y⟩:=(h.ls i t D).2;have V:∀x∈vs,∃A n d,x=.slice A n d:=λx R=>by
   obtain⟨j,hj,rfl⟩:=List.getElem_of_mem R
   obtain⟨A,d,e,-⟩:=(y j hj af).2.now
   grind
  apply bF (ap5 h.blk h.map Ir U V);rintro w'⟨Y,u⟩;have O:=h.sub c I;have key:∀l,vs.tail.length=l.length->(∀(j:Nat) (hj:j<vs.tail.length) (hj':j<l.length),l[j].length<=1000000000/\Fx M (λW=>sl l[j] vs.tail[j] W) w')->xL M C gn E ak (jK L (a,b) l) w':=λl S X =>
   h.set t N e u ⟨c,vs.tail,e,I,Y,S,X⟩
  refine⟨_,_,rfl,u.more λk hk=>hk▸I,?_⟩;obtain⟨G,J⟩:∃G,L[i].2=G:=⟨_,rfl⟩;simp only[J]at H F y;cases G with
  | nil =>
   obtain rfl:vs=[]:=List.eq_nil_of_length_eq_zero (by simpa using F);have T:jK L (a,b) []=L:=List.ext_getElem (by simp[jK]) λj Z g2=>by
    rw[XD Z g2];split
    ·next hj =>
     have:=Q j i aij t (((h.ls j _ g2).1.trans hj).trans N.symm);subst this;exact Prod.ext rfl J.symm
    ·rfl
   exact .inr (.inl ⟨H,aj,E,ak,T▸key [] aj (λj hj=>by simp at hj)⟩)
  | cons m l =>
   cases vs with
   | nil=>simp at F
   | cons x vs => refine .inr (.inr ⟨m,l,H,aj,⟨E,ak,key l (by simpa using F) λj hj hj'=>?_⟩,(y 0 aj aj).1,(y 0 aj aj).2.up u λk e=>e▸O⟩);have:=y (j+1) Dm U8;exact⟨this.1,this.2.up u λk e=>e▸O⟩
theorem aqR(h:sy M C gn L W)(V:∀k,M k->k<W.heap.size) bs u(hb:sl bs u W)(hn:bs.length<=1000000000) :
 Calls prog 47 #[.pointer (some ⟨gn,0,none⟩),.int .i64 a,.int .i64 b,u] W λe w'=>∃O,e=.returned (.int .i64 O)/\ag C W w'/\sy M C gn (yg L (a,b) bs) w':=by
 obtain⟨N,ak,h⟩:=h
 have Q:=h.kn
 rcases Qv ak L (a,b) h.len (λi t B=>(h.ls i t B).1)with ⟨t,B⟩|⟨i,t,B,F,T,Y⟩
 ·apply bF (avn h.blk h.map Ir);rintro w' rfl;exact⟨_,rfl,ag.rf _ _,N,ak,by grind [yg]⟩
 ·obtain⟨c,vs,e,E,S,I,D⟩:=(h.ls i t B).2;apply bF (ap7 h.blk h.map Ir S bs u hb hn);rintro w'⟨⟨v',A,X⟩,u⟩;have J:=h.sub c E;refine⟨_,rfl,u.more λk hk=>hk▸E,N,ak,?_⟩;unfold yg;rw[T];unfold XJ at A;simp only;by_cases h8:vs.length<8
  ·rw[if_pos h8]at A;rw[if_pos af];refine h.set t F e u ⟨c,_,e,E,A,by simp[I],λj y G=>?_⟩;by_cases H:j<vs.length
   ·simp only[List.getElem_append_left H,List.getElem_append_left (show j<L[i].2.length by omega)];exact⟨(D j H af).1,(D j H af).2.up u λk e=>e▸J⟩
   ·obtain rfl:j=vs.length:=by simp at y;omega
    simp only[List.getElem_concat_length,I];exact⟨hn,X.less V⟩
  ·rw[if_neg h8]at A;rw[if_neg af];have R:jK L (a,b) L[i].2=L:=List.ext_getElem (by simp[jK]) λj U g2=>by
    rw[XD U g2];split
    ·next y =>
     have:=Q j i aij t (((h.ls j _ g2).1.trans y).trans F.symm);subst this;rfl
    ·rfl
   exact R▸h.set t F e u ⟨c,vs,e,E,A,I,λj y G=>⟨(D j y G).1,(D j y G).2.up u λk e=>e▸J⟩⟩
theorem aqS(h:sy M C gn L W) :
 Calls prog 76 #[.pointer (some ⟨gn,0,none⟩),.int .i64 a,.int .i64 b] W λe w'=>e=.returned (.int .i64 (((nu L (a,b)).getD []).length:Int))/\w'=W:=by
 obtain⟨F,ak,h⟩:=h
 rcases Qv ak L (a,b) h.len (λi j t=>(h.ls i j t).1)with ⟨j,t⟩|⟨i,j,t,G,u,E⟩
 ·rw[j];exact avo h.blk h.map Ir
 ·obtain⟨c,vs,e,D,y,A,B⟩:=(h.ls i j t).2;rw[u,Option.getD_some,<- A];exact ap6 h.blk h.map Ir y
end
structure fO(B B':bj):Prop where
 list:B.st.list <+: B'.st.list
 ab:B.st.ab <+: B'.st.ab
 life:B'.st.life=B.st.life
theorem fO.rf B:fO B B:=⟨List.prefix_refl _,List.prefix_refl _,rfl⟩
theorem fO.tr{A B C}(h:fO A B)(k:fO B C):fO A C:=⟨h.list.trans k.list,h.ab.trans k.ab,k.life.trans h.life⟩
structure iq(B:bj):Prop where
 ab:∀a∈B.st.ab,bT B.st.list a=false
 prom:B.st.prom.length<=6
theorem asi{l a b}(h:dG l a=false)(hb:b∈l):b≠a:=by
 grind [dG]
theorem axd{s t r}(hk:r.kind≠1)(e:dU s r=some t)(y:∀a∈s.ab,bT s.list a=false):s.list <+: t.list/\s.ab <+: t.ab/\t.life=s.life/\(∀a∈t.ab,bT t.list a=false)/\(t.prom.length<=s.prom.length+(if r.kind=3 then 1 else 0)):=by
 have B:=ahF hk e;unfold dU at e;rw[if_neg hk]at e;split at e
 ·rename_i j;unfold xj at e;split at e
  ·cases e
  split at e
  ·cases e
  split at e
  ·cases e
  rename_i C u;injection e with e;subst e;refine⟨List.prefix_append _ _,List.prefix_refl _,rfl,λa A=>?_,?_⟩
  ·grind [bT,Bool.or_eq_false_iff,asi]
  ·grind [dU,bT,ar,iM]
 split at e
 ·grind [dU,bT,xm]
 split at e
 ·grind [dU,bT,xp,iA,iM]
 ·grind [dU,bT,yR,iA,iM]
theorem adG{B r}(hk:r.kind≠1)(A:∀a∈B.st.ab,bT B.st.list a=false):fO B (cY B r).1/\(∀a∈(cY B r).1.st.ab,bT (cY B r).1.st.list a=false)/\(cY B r).1.st.prom.length<=B.st.prom.length+(if r.kind=3 then 1 else 0):=by
 unfold cY;split
 ·split
  ·grind [fO.rf]
  ·rename_i t D;obtain⟨j,u,E,y,C⟩:=axd hk D A;exact⟨⟨j,u,E⟩,y,C⟩
 ·grind [fO.rf]
theorem Pj{B r}(hk:r.kind≠1)(j:r.kind≠3)(h:iq B):fO B (cY B r).1/\iq (cY B r).1:=by obtain⟨a,b,c⟩:=adG hk h.ab;rw[if_neg j]at c;exact⟨a,⟨b,bn c h.prom⟩⟩
theorem aei{B}(h:iq B) x:fO B (mq B x).1/\iq (mq B x).1:=Pj zC zC h
theorem at0{B}(h:iq B) a:fO B (nA B a).1/\iq (nA B a).1:=by
 have:=Pj (B:=B) (r:=jj 4 a) Du Du h;unfold nA;split
 ·exact⟨⟨this.1.list,this.1.ab,this.1.life⟩,⟨this.2.ab,this.2.prom⟩⟩
 ·grind [fO.rf]
theorem acT{B}(h:iq B) a:fO B (jd B a)/\iq (jd B a):=by
 grind [jd,Pj,jj,fO.rf]
theorem UT{α:Type}{f}(j:∀B x,iq B->fO B (f B x)/\iq (f B x)):∀(l:List α) (B:bj),iq B->fO B (l.foldl f B)/\iq (l.foldl f B):=by
 intro l
 induction l with
 | nil=>intro B h;exact⟨fO.rf _,h⟩
 | cons x l t => intro B h;obtain⟨a,b⟩:=j B x h;obtain⟨c,d⟩:=t (f B x) b;exact⟨a.tr c,d⟩
theorem at1{kids p x}(h:iq p.1):fO p.1 (kJ kids p x).1/\iq (kJ kids p x).1:=by
 grind [kJ,aei,fO.rf,at0]
theorem at2{kids}:∀(l:List aK) (p:bj×List aK),iq p.1->fO p.1 (l.foldl (kJ kids) p).1/\iq (l.foldl (kJ kids) p).1:=by
 intro l
 induction l with
 | nil=>intro p h;exact⟨fO.rf _,h⟩
 | cons x l j => intro p h;obtain⟨a,b⟩:=at1 (kids:=kids) (x:=x) h;obtain⟨c,d⟩:=j (kJ kids p x) b;exact⟨a.tr c,d⟩
theorem aej{B}(h:iq B):fO B (gZ B)/\iq (gZ B):=by
 unfold gZ;split
 ·obtain⟨a,b⟩:=UT (f:=λb x=>(mq b x).1) (λB x h=>aei h x) (oQ B.st B.waits (mo B)).2 B h;obtain⟨c,d⟩:=at2 (kids:=dy B) (oQ B.st B.waits (mo B)).1 (zK B,[]) b;exact⟨⟨(a.tr c).list,(a.tr c).ab,(a.tr c).life⟩,⟨d.ab,d.prom⟩⟩
 ·grind [fO.rf]
theorem at3:∀(l:List aK) (B:bj) (n:Nat),iq B->fO B (lP B n l)/\iq (lP B n l):=by
 intro l
 induction l with
 | nil=>intro B n h;exact⟨fO.rf _,h⟩
 | cons x l j =>
  intro B n h;unfold lP;split
  ·split
   ·obtain⟨a,b⟩:=Pj (B:=B) (r:=mr n x) zC zC h;obtain⟨c,d⟩:=j (cY B (mr n x)).1 ((n+1)%18446744073709551616) b;exact⟨a.tr c,d⟩
   ·grind [fO.rf]
  ·grind
theorem at4{B}(h:iq B) a:fO B (mR B a)/\iq (mR B a):=by
 unfold mR;split
 ·grind [fO.rf]
 ·have j:iq { B with told:=B.told++[a],aB:=fJ B.aB a }:=⟨h.ab,h.prom⟩;obtain⟨b,c⟩:=acT j a;exact⟨⟨b.list,b.ab,b.life⟩,c⟩
theorem apN{s}(j:s.prom.length<=6):∀(l:List aK) (p:List aK×List aR),s.prom.length+p.1.length<=6->s.prom.length+(l.foldl (iN s) p).1.length<=6:=by
 intro l
 induction l with
 | nil=>intro p h;exact h
 | cons x l t =>
  grind [iN]
theorem at5:∀(l:List aK) (p:bj×List aR),(∀a∈p.1.st.ab,bT p.1.st.list a=false)->p.1.st.prom.length+l.length<=6->fO p.1 (l.foldl iL p).1/\iq (l.foldl iL p).1:=by
 intro l
 induction l with
 | nil=>intro p j t;exact⟨fO.rf _,⟨j,aG⟩⟩
 | cons x l y =>
  intro p j t;simp only[eQ]at t;have hn:=adG (B:=p.1) (r:=tM x) Dw j;have u:fO p.1 (iL p x).1/\(∀a∈(iL p x).1.st.ab,bT (iL p x).1.st.list a=false)/\(iL p x).1.st.prom.length<=p.1.st.prom.length+1:=by
   unfold iL;split
   ·grind
   ·simp_all [fO.rf,Nat.le_succ]
  obtain⟨a,b⟩:=y (iL p x) u.2.1 af;exact⟨u.1.tr a,b⟩
theorem avM{B}(h:iq B) l:fO B (uV B l)/\iq (uV B l):=by have j:=apN h.prom (mw B l) ([],[]) (by simpa using h.prom);obtain⟨a,b⟩:=at5 (nU B.st (mw B l)).1 (B,tN B l++(nU B.st (mw B l)).2) h.ab j;unfold uV sH;exact⟨⟨a.list,a.ab,a.life⟩,⟨b.ab,b.prom⟩⟩
theorem avN{B}(h:iq B) m:fO B (qO B m)/\iq (qO B m):=by obtain⟨u,j⟩:=at3 m.entries B m.got h;obtain⟨y,A⟩:=UT (f:=mR) (λB x h=>at4 h x) m.dN _ j;obtain⟨t,E⟩:=UT (f:=jd) (λB x h=>acT h x) m.ends _ A;obtain⟨D,C⟩:=avM E m.fc;exact⟨((u.tr y).tr t).tr D,C⟩
theorem acU{B}(h:iq B) j b:fO B (il B j b).1/\iq (il B j b).1:=by
 unfold il;split
 ·split
  ·grind [fO.rf]
  ·rename_i m _;split
   ·have t:iq { B with bQ:=nV B.bQ j m }:=⟨h.ab,h.prom⟩;obtain⟨a,c⟩:=aej t;exact⟨⟨a.list,a.ab,a.life⟩,c⟩
   ·grind [avN,fO.rf]
 ·grind [fO.rf]
theorem avO{B}(h:iq B) c j:fO B (jg B c j).1/\iq (jg B c j).1:=by
 unfold jg;split
 ·exact aik
 ·grind [fO.rf]
theorem avP{B}(h:iq B) r:fO B (fo B r).1/\iq (fo B r).1:=by unfold fo;exact aik
