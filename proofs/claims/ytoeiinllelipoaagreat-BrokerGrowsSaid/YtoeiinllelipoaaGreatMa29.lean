/-
  The walk of wire.Encode (layer 13). Conditions: lists of which a message may have that many.
-/
import Derived.Test.YtoeiinllelipoaaGreatMa28
import Derived.Test.YtoeiinllelipoaaGreatMz
set_option maxRecDepth 100000
set_option maxHeartbeats 16000000
set_option linter.unusedVariables false
set_option linter.unusedSimpArgs false
namespace Go.Proofs.YtoeiinllelipoaaGreat
open Go Go.RowKit _root_.Go.Proofs.Tryz
theorem Ih{a:av}(h:df a):(eV a).length<=30000:=by exact aiT
theorem ar5{a:av}(h:df a):(eV a).length<=27:=by exact aiT
theorem Uf{v:fG}(h:df v.id):(lX v).length<=30000:=by have i:=ar5 h;have j:=cG (if v.yes then 1 else 0) WK;unfold lX;simp only[cT];omega
theorem acj{x:aq}(h:cK x):(nY x).length<=20000:=by
 unfold nY;cases hok:bP x
 ·simp
 ·exact Ib hok h
theorem EY{x:aq}(h:cK x):(gK x).length<=30000:=by have i:=acj h;have j:=cG (nY x).length af;unfold gK gZ;simp only[cT];omega
theorem Kk{α:Type}(enc:α->List UInt8)(B:Nat):∀(l:List α),(∀x∈l,(enc x).length<=B)->(l.flatMap enc).length<=B*l.length
 | [],_=>aj
 | x :: l,h=>by have j:=h x aj;have i:=Kk enc B l (λy hy=>h y Bd);simp only[oc,cT,iE,Nat.mul_succ];omega
theorem abH(l:List UInt8)(v:Value)(a:av)(w:World)(h:sl l v w)(hl:l.length<=900000000)(hf:df a) :
 Calls prog 52 #[v,.agg (bZ a)] w λe w'=>∃G,e=.returned G/\Own w' w.heap.size 5 G (l++eV a)/\K w w':=by
 obtain⟨A,c,rfl,Y⟩:=h
 obtain⟨b,i,j⟩:=a
 obtain⟨N,u,B⟩:=hf
 simp only at N u B
 have p0:=cG (bf b) (fI b)
 have p1:=cG i u
 have I:=ai.new w 46 #[.int .i64 b,.int .u64 (i:Int),.int .u64 (j:Int)]
 have s:K w (w.alloc (.cells #[.int .i64 b,.int .u64 (i:Int),.int .u64 (j:Int)] 46)):=(K.rf w).al _
 have O:=(Y.below s (aG _)).more s.size
 go_enter func52,ntmps52
 go_upto_region 1 with (fail)
 generalize w.alloc _=D at *
 have S:=I.cells
 have kk:=K.rf D
 go_wp2_with fail
 rw[AY b]
 refine (vJ A _ c l (bf b) (fI b) D _ O (aG _) af).mono ?_
 rintro e X⟨v2,rfl,H,t⟩
 obtain⟨V,c2,rfl,rD⟩:=(eN H)
 have fg:(l++aD (bf b)).length<=900000009:=aU
 generalize L:(l++aD (bf b)).length=T at *
 clear L
 go_wp2_with fail
 refine (vJ V T c2 _ i u X _ rD (aG _) af).mono ?_
 rintro e R⟨v3,rfl,F,Q⟩
 replace t:=t.tr Q
 obtain⟨A3,c3,rfl,J⟩:=(eN F)
 have rz:(l++aD (bf b)++aD i).length<=900000018:=aU
 generalize W:(l++aD (bf b)++aD i).length=Z at *
 clear W
 go_wp2_with fail
 refine (vJ A3 Z c3 _ j B R _ J (aG _) af).mono ?_
 rintro e w4⟨v4,rfl,C,M⟩
 have y:=my (s.tr t).size C
 have E:l++aD (bf b)++aD i++aD j=l++eV (b,i,j):=by simp[eV]
 rw[E]at y
 have U:=ae y
 have kk:=s.tr (t.tr M)
 clear y C F H E S
 go_wp2
 go_ret
 exact⟨_,rfl,U.aa,kk⟩
theorem aoY(l:List UInt8)(v:Value)(x:fG)(w:World)(h:sl l v w)(M:l.length<=800000000)(C:df x.id) :
 Calls prog 48 #[v,.agg (fk x)] w λe w'=>∃B,e=.returned B/\Own w' w.heap.size 5 B (l++lX x)/\K w w':=by
 have t:=ai.new w 117 (fk x)
 have k1:K w (w.alloc (.cells (fk x) 117)):=(K.rf w).al _
 have u:=iQ _ _ _ _ h k1
 have s:=ae (abH l v x.id _ u af C)
 have D:=Ih C
 obtain⟨A,c,rfl,-⟩:=h
 obtain⟨a,y⟩:=x
 have D:(eV a).length<=30000:=D
 clear u
 go_enter func48,ntmps48
 go_upto_region 1 with (fail)
 generalize w.alloc _=G at *
 generalize w.heap.size=g at t⊢
 have qx:=t.cells
 have kk:=K.rf G
 cases y
 ·go_wp2_with fail
  refine s.aa.mono ?_;rintro e L⟨H,rfl,hs,k2⟩;have i:=tM 0 (eN hs) af aiU;rw[show ((0:Nat):Int)=0 from rfl]at i;replace i:=ae i;obtain⟨F,c2,rfl,-⟩:=eN hs;generalize j:(l++eV a).length=E at *;clear j;go_wp2_with fail
  refine i.aa.mono ?_;rintro e J⟨I,rfl,ho,k3⟩;have hs:=my (k1.tr k2).size ho;rw[show l++eV a++aD 0=l++lX ⟨a,false⟩from by simp[lX]]at hs;exact aiV
 ·go_wp2_with fail
  refine s.aa.mono ?_;rintro e L⟨H,rfl,hs,k2⟩;have i:=tM 1 (eN hs) af aiU;rw[show ((1:Nat):Int)=1 from rfl]at i;replace i:=ae i;obtain⟨F,c2,rfl,-⟩:=eN hs;generalize j:(l++eV a).length=E at *;clear j;go_wp2_with fail
  refine i.aa.mono ?_;rintro e J⟨I,rfl,ho,k3⟩;have hs:=my (k1.tr k2).size ho;rw[show l++eV a++aD 1=l++lX ⟨a,true⟩from by simp[lX]]at hs;exact aiV
theorem aou(l:List UInt8)(v:Value)(x:aq)(u:Value)(w:World)(h:sl l v w)(D:cR x u w)(X:l.length<=800000000)(C:cK x) :
 Calls prog 50 #[v,u] w λe w'=>∃B,e=.returned B/\Own w' w.heap.size 5 B (l++gK x)/\K w w':=by
 obtain⟨vf,Y,rfl,t,s⟩:=D
 obtain⟨I,M,rfl⟩:=cB t
 obtain⟨H,Q,rfl⟩:=az s
 have j:K w (w.alloc (.cells (aA x (.slice I x.f.length M) (.slice H x.es.length Q)) 102)):=(K.rf w).al _
 have N:=ae (NR x _ _ ⟨_,_,rfl,dB _ _ _ _ t j,aW s j⟩ C)
 have O:=ae λW (L:K w W)=>iQ _ _ _ _ h L
 have Z:=acj C
 obtain⟨A,c,rfl,-⟩:=h
 clear t s
 go_enter func50,ntmps50
 go_wp2_with fail
 generalize w.alloc _=T at *
 refine N.aa.mono ?_
 rintro e J⟨R,rfl,i,y⟩
 have E:=ae (Kc (O.aa J (j.tr y)) (eN i) af af)
 obtain⟨V,c2,rfl,-⟩:=eN i
 clear i
 go_wp2_with fail
 refine E.aa.mono ?_
 rintro e U⟨S,rfl,i,F⟩
 have G:=ae (my (j.tr y).size i)
 clear i
 go_wp2
 go_ret
 exact⟨_,rfl,G.aa,j.tr (y.tr F)⟩
theorem apG(b:List UInt8)(l:List fG)(v u:Value)(w:World)(hb:sl b v w)(h:ar jW l u w)(X:b.length<=500000000)(V:l.length<=16)(hfit:∀s∈l,df s.id) :
 Calls prog 47 #[v,u,.func (Fn.func 48) #[] #[]] w λe w'=>∃J,e=.returned J/\Own w' w.heap.size 5 J (b++gj lX l)/\K w w':=by
 obtain⟨A,c,rfl,R,hc⟩:=h
 have H:=ae hfit
 clear hfit
 have F:=ae (tM l.length hb af af)
 obtain⟨Ab,cb,rfl,-⟩:=hb
 have hpl:=cG l.length af
 have hu:IntKind.u64.wrap (l.length:Int)=(l.length:Int):=WX
 go_enter func47,ntmps47
 go_wp2_with fail
 refine F.aa.mono ?_
 rintro e Y⟨U,rfl,I,kk⟩
 have xc:=ae I
 clear I F
 go_wp2_with fail
 go_loopw [0,8,16] (fun o _ i wr=>∃j:Nat,j<=l.length/\i=.int .i64 (j:Int)/\Hid (Own wr w.heap.size 5 o (b++aD l.length++(l.take j).flatMap lX))/\K w wr) (fun _ _ i _=>l.length-(intOf i).toNat)
 case atStart=>exact⟨0,af,rfl,ae WY,kk⟩
 case round =>
  clear kk;obtain⟨j,hj,rfl,HB,kr⟩:=hrel;by_cases hlt:j<l.length
  ·have S:(j:Int)<(l.length:Int):=af;obtain⟨M,G,cs,rfl,N,D,B,d⟩:=dM R j hlt au;have HS:Hid (b++aD l.length++(l.take (j+1)).flatMap lX=b++aD l.length++(l.take j).flatMap lX++lX l[j]):=ae WZ;have C:=H.aa _ (bW hlt);have T:(b++aD l.length++(l.take j).flatMap lX).length<=600000000:=by have:=Kk lX 30000 (l.take j) (λx t=>by have C:=H.aa x (lE t);exact Uf C);exact W6
   generalize l[j]=x at *;obtain rfl:=D w (K.rf w);have B:∀W,K wr W->W.cell? ⟨M,G+j*4,none⟩=some (.int .i64 x.id.1):=λW y=>B W (kr.tr y)
   have d:∀W,K wr W->∀i,i<4->W.cell? ⟨M,G+j*4+i,none⟩=(fk x)[i]?:=λW y i Q=>(d W (kr.tr y) i Q).trans Array.getElem?_toList
   have kk:=K.rf wr;have O:=K.rf wr;have t:=ai.new wr 117 (fk x);have E:K wr (wr.alloc (.cells (fk x) 117)):=(K.rf wr).al _;clear N D;go_upto_region 5 with (fail);have tu:=kr.tr E;generalize wr.alloc _=L at *;generalize wr.heap.size=Z at *;have q:=t.cells;have kk:=K.rf L;clear B d t;go_wp2_with fail
   refine (aoY _ _ x L (iQ _ _ _ _ (eN HB.aa) (O.tr E)) af C).mono ?_;exact W7
  ·have S:¬(j:Int)<(l.length:Int):=af;have hs:=HB.aa;rw[eT af,dG]at hs;have HS:=ae (show Own wr w.heap.size 5 u0 (b++gj lX l)from hs);exact Xa
theorem Tf(b:List UInt8)(l:List aq)(v u:Value)(w:World)(hb:sl b v w)(h:ar aQ l u w)(bN:b.length<=500000000)(QA:l.length<=16)(hfit:∀s∈l,cK s) :
 Calls prog 49 #[v,u,.func (Fn.func 50) #[] #[]] w λe w'=>∃Q,e=.returned Q/\Own w' w.heap.size 5 Q (b++gj gK l)/\K w w':=by
 obtain⟨A,c,rfl,Y,hc⟩:=h
 have N:=ae hfit
 clear hfit
 have L:=ae (tM l.length hb af af)
 obtain⟨Ab,cb,rfl,-⟩:=hb
 have hpl:=cG l.length af
 have hu:IntKind.u64.wrap (l.length:Int)=(l.length:Int):=WX
 go_enter func49,ntmps49
 go_wp2_with fail
 refine L.aa.mono ?_
 rintro e w1⟨v1,rfl,O,kk⟩
 have xc:=ae O
 clear O L
 go_wp2_with fail
 go_loopw [0,8,16] (fun o _ i wr=>∃j:Nat,j<=l.length/\i=.int .i64 (j:Int)/\Hid (Own wr w.heap.size 5 o (b++aD l.length++(l.take j).flatMap gK))/\K w wr) (fun _ _ i _=>l.length-(intOf i).toNat)
 case atStart=>exact⟨0,af,rfl,ae WY,kk⟩
 case round =>
  clear kk;obtain⟨j,hj,rfl,HB,kr⟩:=hrel;by_cases hlt:j<l.length
  ·have Z:(j:Int)<(l.length:Int):=af;obtain⟨T,M,cs,rfl,U,H,E,d⟩:=dM Y j hlt au;have HS:Hid (b++aD l.length++(l.take (j+1)).flatMap gK=b++aD l.length++(l.take j).flatMap gK++gK l[j]):=ae WZ;have G:=N.aa _ (bW hlt);have hbj:(b++aD l.length++(l.take j).flatMap gK).length<=600000000:=by have:=Kk gK 30000 (l.take j) (λx t=>by have G:=N.aa x (lE t);exact EY G);exact W6
   generalize l[j]=x at *;obtain⟨vf,ve,rfl,S,J⟩:=H w (K.rf w);obtain⟨B,D,rfl⟩:=cB S;obtain⟨y,F,rfl⟩:=az J;have E:∀W,K wr W->W.cell? ⟨T,M+j*8,none⟩=some (.int .i64 x.kind):=λW C=>E W (kr.tr C)
   have d:∀W,K wr W->∀i,i<8->W.cell? ⟨T,M+j*8+i,none⟩=(aA x (.slice B x.f.length D) (.slice y x.es.length F))[i]?:=λW C i X=>(d W (kr.tr C) i X).trans Array.getElem?_toList
   have kk:=K.rf wr;have V:=K.rf wr;have t:=ai.new wr 102 (aA x (.slice B x.f.length D) (.slice y x.es.length F));have I:K wr (wr.alloc (.cells (aA x (.slice B x.f.length D) (.slice y x.es.length F)) 102)):=(K.rf wr).al _;clear U H;go_upto_region 5 with (fail);have tu:=kr.tr I;generalize wr.alloc _=R at *;generalize wr.heap.size=gx at *;have q:=t.cells;have kk:=K.rf R;clear E d t;go_wp2_with fail
   refine (aou _ _ x _ R (iQ _ _ _ _ (eN HB.aa) (V.tr I)) ⟨_,_,rfl,dB _ _ _ _ S tu,aW J tu⟩ af G).mono ?_;exact W7
  ·have Z:¬(j:Int)<(l.length:Int):=af;have hs:=HB.aa;rw[eT af,dG]at hs;have HS:=ae (show Own wr w.heap.size 5 u0 (b++gj gK l)from hs);exact Xa
theorem ack(b:List UInt8)(l:List av)(v u:Value)(w:World)(hb:sl b v w)(h:ar bI l u w)(X:b.length<=500000000)(V:l.length<=16)(hfit:∀s∈l,df s) :
 Calls prog 51 #[v,u,.func (Fn.func 52) #[] #[]] w λe w'=>∃J,e=.returned J/\Own w' w.heap.size 5 J (b++gj eV l)/\K w w':=by
 obtain⟨A,c,rfl,R,hc⟩:=h
 have H:=ae hfit
 clear hfit
 have F:=ae (tM l.length hb af af)
 obtain⟨Ab,cb,rfl,-⟩:=hb
 have hpl:=cG l.length af
 have hu:IntKind.u64.wrap (l.length:Int)=(l.length:Int):=WX
 go_enter func51,ntmps51
 go_wp2_with fail
 refine F.aa.mono ?_
 rintro e Y⟨U,rfl,I,kk⟩
 have xc:=ae I
 clear I F
 go_wp2_with fail
 go_loopw [0,8,16] (fun o _ i wr=>∃j:Nat,j<=l.length/\i=.int .i64 (j:Int)/\Hid (Own wr w.heap.size 5 o (b++aD l.length++(l.take j).flatMap eV))/\K w wr) (fun _ _ i _=>l.length-(intOf i).toNat)
 case atStart=>exact⟨0,af,rfl,ae WY,kk⟩
 case round =>
  clear kk;obtain⟨j,hj,rfl,HB,kr⟩:=hrel;by_cases hlt:j<l.length
  ·have S:(j:Int)<(l.length:Int):=af;obtain⟨M,G,cs,rfl,N,D,B,d⟩:=dM R j hlt au;have HS:Hid (b++aD l.length++(l.take (j+1)).flatMap eV=b++aD l.length++(l.take j).flatMap eV++eV l[j]):=ae WZ;have C:=H.aa _ (bW hlt);have T:(b++aD l.length++(l.take j).flatMap eV).length<=600000000:=by have:=Kk eV 30000 (l.take j) (λx t=>by have C:=H.aa x (lE t);exact Ih C);exact W6
   generalize l[j]=x at *;obtain rfl:=D w (K.rf w);have B:∀W,K wr W->W.cell? ⟨M,G+j*3,none⟩=some (.int .i64 x.1):=λW y=>B W (kr.tr y)
   have d:∀W,K wr W->∀i,i<3->W.cell? ⟨M,G+j*3+i,none⟩=(bZ x)[i]?:=λW y i Q=>(d W (kr.tr y) i Q).trans Array.getElem?_toList
   have kk:=K.rf wr;have O:=K.rf wr;have t:=ai.new wr 46 (bZ x);have E:K wr (wr.alloc (.cells (bZ x) 46)):=(K.rf wr).al _;clear N D;go_upto_region 5 with (fail);have tu:=kr.tr E;generalize wr.alloc _=L at *;generalize wr.heap.size=Z at *;have q:=t.cells;have kk:=K.rf L;clear B d t;go_wp2_with fail
   refine (abH _ _ x L (iQ _ _ _ _ (eN HB.aa) (O.tr E)) af C).mono ?_;exact W7
  ·have S:¬(j:Int)<(l.length:Int):=af;have hs:=HB.aa;rw[eT af,dG]at hs;have HS:=ae (show Own wr w.heap.size 5 u0 (b++gj eV l)from hs);exact Xa
theorem vQ{α:Type}(enc:α->List UInt8)(l:List α)(h:∀x∈l,(enc x).length<=30000)(j:l.length<=16):(gj enc l).length<=480009:=by have s:=Kk enc 30000 l h;have i:=cG l.length af;unfold gj;simp only[cT];omega
theorem avh{m:bK}(h:ed m=true)(I:oQ m):(mh m).length<=2000000:=by obtain⟨-,y,A,j,t,u,s⟩:=T1 h;obtain⟨-,G,D,H,B,C,F,E⟩:=I;have P:=vQ lX m.bM (λx i=>Uf (D x i)) y.1;have M:=vQ gK m.asks (λx i=>EY (H x i)) A.1;have Q:=vQ gK m.entries (λx i=>EY (B x i)) j.1;have N:=vQ gK m.cH (λx i=>EY (C x i)) t.1;have J:=vQ eV m.bY (λx i=>Ih (F x i)) u.1;have O:=vQ eV m.ends (λx i=>Ih (E x i)) s.1;have R:=cG (bf m.kind) (fI _);have L:=cG m.got G;unfold mh;split <;> simp only[cT] <;> omega
theorem aaS(m:bK)(v:Value)(w:World)(h:js m v w)(hf:oQ m) :
 Calls prog 16 #[v] w λe w'=>∃v',e=.returned (.tuple #[v',.int .i64 (ig m)])/\Own w' w.heap.size 5 v' (xH m)/\K w w':=by
 have C0:=ae λW (i:K w W)=>aa6 m v W (Xx h i)
 obtain⟨v1,v2,v3,v4,v5,v6,rfl,T,X,S,h4,Y,h6⟩:=h
 have L1:=ae λW (i:K w W)=>aW T i
 have L2:=ae λW (i:K w W)=>aW X i
 have L3:=ae λW (i:K w W)=>aW S i
 have L4:=ae λW (i:K w W)=>aW h4 i
 have L5:=ae λW (i:K w W)=>aW Y i
 have L6:=ae λW (i:K w W)=>aW h6 i
 obtain⟨A1,c1,rfl⟩:=az T
 obtain⟨A2,c2,rfl⟩:=az X
 obtain⟨A3,c3,rfl⟩:=az S
 obtain⟨A4,c4,rfl⟩:=az h4
 obtain⟨A5,c5,rfl⟩:=az Y
 obtain⟨A6,c6,rfl⟩:=az h6
 clear T X S h4 Y h6
 have j:=ai.new w 41 (fH m (.slice A1 m.bM.length c1) (.slice A2 m.asks.length c2) (.slice A3 m.entries.length c3) (.slice A4 m.cH.length c4) (.slice A5 m.bY.length c5) (.slice A6 m.ends.length c6))
 have k1:K w (w.alloc (.cells (fH m (.slice A1 m.bM.length c1) (.slice A2 m.asks.length c2) (.slice A3 m.entries.length c3) (.slice A4 m.cH.length c4) (.slice A5 m.bY.length c5) (.slice A6 m.ends.length c6)) 41)):=(K.rf w).al _
 have s:=ae hf
 clear hf
 have J:Hid (ig m=if ed m then 0 else 130):=ae rfl
 have M:Hid (xH m=if ed m then mh m else []):=ae rfl
 generalize ig m=CK at *
 generalize xH m=L at *
 go_enter func16,ntmps16
 go_upto_region 1 with (fail)
 generalize w.alloc _=w1 at *
 have qx:=j.cells
 have kk:=K.rf w1
 generalize w.heap.size=g at *
 clear j
 go_wp2_with fail
 refine (C0.aa w1 k1).mono ?_
 rintro e w2⟨rfl,k2⟩
 have gP:=k1.tr k2
 cases hok:ed m
 ·obtain rfl:CK=130:=by rw[J.aa,hok];rfl
  obtain rfl:L=[]:=by rw[M.aa,hok];rfl
  clear J M;go_wp2;go_ret2;exact⟨_,rfl,iF _ _ _ _,gP⟩
 obtain rfl:CK=0:=by rw[J.aa,hok];rfl
 have HR:Hid (L=mh m):=ae (by rw[M.aa,hok];rfl)
 clear J M
 have t:=ae (T1 hok)
 clear hok C0
 have N:=λW (i:K w2 W)=>qx W (k2.tr i)
 have kk:=K.rf w2
 have oU:=cG (bf m.kind) (fI _)
 have ij:=cG m.got s.aa.2.1
 clear qx
 go_upto_region 4 with (fail)
 refine sR [ag (.pointer (some ⟨g,0,none⟩)),
  ag (.int .i64 m.kind),
  ag (.int .u64 (bf m.kind:Int)),
  (sl (aD (bf m.kind))),
  ag (.pointer (some ⟨g,1,none⟩)),
  ag (.int .u64 (m.got:Int)),
  (sl (aD (bf m.kind)++aD m.got)),
  (sl (aD (bf m.kind)++aD m.got))]
  [([],[]),([0],[(11,0)]),([1],[(12,1)]),([2],[(13,2)]),([],[]),([4],[(15,4)]),([3,5],[(14,3),(16,5)]),([6],[(17,6)])] 47 rfl ak ak ak ?F6 ?F9 ?_
 case F6 =>
  simp only[aI]
  and_intros
  all_goals first|exact jN _|exact iQ _|exact mz|simp
 case F9 =>
  simp only[mS]
  and_intros
  all_goals try trivial
  all_goals
   intro V W i u
   try simp only[aI,aE,aF,ag]at u
   try simp[aL,aw,List.lookup,u,aE,aF,aS,execOp,ay,ag,aN,i,N,AY,go_sem]
  ·refine (tM (bf m.kind) (ajy _) (fI _) aj).mono ?_;rintro e w9⟨v9,rfl,Z,k9⟩;exact⟨_,rfl,by simpa using eN Z,k9⟩
  ·refine (tM m.got u.1 s.aa.2.1 af).mono ?_;rintro e w9⟨v9,rfl,Z,k9⟩;exact⟨_,rfl,eN Z,k9⟩
 intro V W i u
 have h7:=u 7 aj
 simp only[aE,aF]at h7
 clear u
 simp only[bF,Act.put,cO,cM,cL]
 generalize V 7=v7 at *
 have O:=h7
 have Q:=gP.tr i
 have kv0:=i
 generalize W=y at *
 have b0:(aD (bf m.kind)++aD m.got).length<=18:=IE
 clear h7 oU ij
 by_cases eK:m.kind=1
 ·have kk:=K.rf y;have G:=ae (apG _ m.bM _ _ y O (L1.aa _ Q) af t.aa.2.1.1 s.aa.2.2.1);have jD:=vQ lX m.bM (λx j=>Uf (s.aa.2.2.1 x j)) t.aa.2.1.1;have b1:(aD (bf m.kind)++aD m.got++gj lX m.bM).length<=480027:=IE;obtain⟨B0,e0,rfl,-⟩:=O;generalize (aD (bf m.kind)++aD m.got).length=n0 at *;have kk:=K.rf y;go_wp2_with fail
  refine G.aa.mono ?_;rintro e D⟨v19,rfl,I,E⟩;have A:=Q.tr E;have kv1:=kv0.tr E;clear G;have F:=ae (Tf _ m.asks _ _ D (eN I) (L2.aa _ A) af t.aa.2.2.1.1 s.aa.2.2.2.1);have fg:=vQ gK m.asks (λx j=>EY (s.aa.2.2.2.1 x j)) t.aa.2.2.1.1;have b2:(aD (bf m.kind)++aD m.got++gj lX m.bM++gj gK m.asks).length<=960036:=IE;obtain⟨B1,e1,rfl,-⟩:=eN I;generalize (aD (bf m.kind)++aD m.got++gj lX m.bM).length=n1 at *;have kk:=K.rf D;go_wp2_with fail
  refine F.aa.mono ?_;rintro e H⟨v29,rfl,C,B⟩;have R:=A.tr B;have kv2:=kv1.tr B;clear F;have HS:=ae (show Own H w.heap.size 5 v29 L from by rw[HR.aa];have h:=my A.size C;simp only[mh,dG,ite_true,eK]at h⊢;exact h);clear C;go_wp2;go_ret2;exact⟨_,rfl,HS.aa,R⟩
 ·have kk:=K.rf y;have G:=ae (Tf _ m.entries _ _ y O (L3.aa _ Q) af t.aa.2.2.2.1.1 s.aa.2.2.2.2.1);have jD:=vQ gK m.entries (λx j=>EY (s.aa.2.2.2.2.1 x j)) t.aa.2.2.2.1.1;have b1:(aD (bf m.kind)++aD m.got++gj gK m.entries).length<=480027:=IE;obtain⟨B0,e0,rfl,-⟩:=O;generalize (aD (bf m.kind)++aD m.got).length=n0 at *;have kk:=K.rf y;go_wp2_with fail
  refine G.aa.mono ?_;rintro e D⟨v19,rfl,I,E⟩;have A:=Q.tr E;have kv1:=kv0.tr E;clear G;have F:=ae (Tf _ m.cH _ _ D (eN I) (L4.aa _ A) af t.aa.2.2.2.2.1.1 s.aa.2.2.2.2.2.1);have fg:=vQ gK m.cH (λx j=>EY (s.aa.2.2.2.2.2.1 x j)) t.aa.2.2.2.2.1.1;have b2:(aD (bf m.kind)++aD m.got++gj gK m.entries++gj gK m.cH).length<=960036:=IE;obtain⟨B1,e1,rfl,-⟩:=eN I;generalize (aD (bf m.kind)++aD m.got++gj gK m.entries).length=n1 at *;have kk:=K.rf D;go_wp2_with fail
  refine F.aa.mono ?_;rintro e H⟨v29,rfl,C,B⟩;have R:=A.tr B;have kv2:=kv1.tr B;clear F;have C3:=ae (ack _ m.bY _ _ H (eN C) (L5.aa _ R) af t.aa.2.2.2.2.2.1.1 s.aa.2.2.2.2.2.2.1);have rz:=vQ eV m.bY (λx j=>Ih (s.aa.2.2.2.2.2.2.1 x j)) t.aa.2.2.2.2.2.1.1;have b3:(aD (bf m.kind)++aD m.got++gj gK m.entries++gj gK m.cH++gj eV m.bY).length<=1440045:=IE;obtain⟨B2,e2,rfl,-⟩:=eN C;generalize (aD (bf m.kind)++aD m.got++gj gK m.entries++gj gK m.cH).length=n2 at *;have N:=λW (i:K H W)=>N W (kv2.tr i)
  have kk:=K.rf H;go_wp2_with fail
  refine C3.aa.mono ?_;rintro e W3⟨v39,rfl,dF,j3⟩;have U:=R.tr j3;have kv3:=kv2.tr j3;clear C3 N;have C4:=ae (ack _ m.ends _ _ W3 (eN dF) (L6.aa _ U) af t.aa.2.2.2.2.2.2.1 s.aa.2.2.2.2.2.2.2);have lh:=vQ eV m.ends (λx j=>Ih (s.aa.2.2.2.2.2.2.2 x j)) t.aa.2.2.2.2.2.2.1;obtain⟨B3,e3,rfl,-⟩:=eN dF;generalize (aD (bf m.kind)++aD m.got++gj gK m.entries++gj gK m.cH++gj eV m.bY).length=n3 at *;have kk:=K.rf W3;go_wp2_with fail
  refine C4.aa.mono ?_;rintro e W4⟨v49,rfl,hs4,j4⟩;have Mw:=U.tr j4;clear C4;have HS:=ae (show Own W4 w.heap.size 5 v49 L from by rw[HR.aa];have h:=my U.size hs4;simp only[mh,dG,ite_false,eK]at h⊢;exact h);clear hs4;go_wp2;go_ret2;exact⟨_,rfl,HS.aa,Mw⟩
theorem aa1(m:bK)(v:Value)(w:World)(h:js m v w)(j:oQ m) :
 Calls prog 16 #[v] w λe w'=>∃i,e=.returned (.tuple #[i,.int .i64 (ig m)])/\sl (xH m) i w'/\K w w':=by
 refine (aaS m v w h j).mono ?_
 rintro e w'⟨i,rfl,s,k⟩
 exact⟨i,rfl,eN s,k⟩
def BN:cF (Int×List UInt8) where
 size:=2
 rel x cs w:=∃v,cs=[.int .i64 x.1,v]/\sl x.2 v w
 len:=by rintro _ _ _⟨v,rfl,_⟩;rfl
 one:=by rintro x _ _⟨v,rfl,A,c,rfl,_⟩ u i;simp at i;rcases i with rfl|rfl <;> rfl
 st:=by rintro _ _ _ _⟨v,rfl,h⟩ k;exact⟨v,rfl,iQ _ _ _ _ h k⟩
theorem awv:(prog.info? 129).map (λi=>(i.zero,i.size,i.bytes))=some (some (.agg #[.int .i64 0,.slice none 0 0]),2,32):=by kernel_rfl
theorem azB:gJ prog 62 129 (.agg #[.int .i64 0,.slice none 0 0]) 2 32:=⟨underlying62,awv,rfl,au⟩
def zb(h:Int)(m:bK):List (Int×List UInt8):=if ed m then [(h,mh m)]else []
theorem abI{base j:Nat}{s:List (Int×List UInt8)}{o:Value}{w:World}(i:Int)(m:bK)(N:Value)(hb:ai w j 62 #[o])(J:aT (λk=>k<base) base 129 BN s o w)(hm:js m N w)(hfit:oQ m)(hgb:j<base)(hz:base<=w.heap.size)(hn:s.length<=1000) :
 Calls prog 59 #[.int .i64 i,N,.pointer (some ⟨j,0,none⟩)] w λe w'=>e=.returned (.tuple #[])/\∃o',ai w' j 62 #[o']/\aT (λk=>k<base) base 129 BN (s++zb i m) o' w'/\ah (λk=>k=j∨o.ownBlock=some k) w w'/\∀k,o'.ownBlock=some k->o.ownBlock=some k∨w.heap.size<=k:=by
 have F:Hid (zb i m=if ed m then [(i,mh m)]else []):=ae rfl
 have H:Hid (ig m=if ed m then 0 else 130):=ae rfl
 have Z:Hid (xH m=if ed m then mh m else []):=ae rfl
 have C1:=ae λW (k:K w W)=>aaS m N W (Xx hm k) hfit
 obtain⟨v1,v2,v3,v4,v5,v6,rfl,h1,h2,h3,h4,h5,h6⟩:=hm
 obtain⟨A1,c1,rfl⟩:=az h1
 obtain⟨A2,c2,rfl⟩:=az h2
 obtain⟨A3,c3,rfl⟩:=az h3
 obtain⟨A4,c4,rfl⟩:=az h4
 obtain⟨A5,c5,rfl⟩:=az h5
 obtain⟨A6,c6,rfl⟩:=az h6
 have T:=(K.rf w).al (.cells (fH m (.slice A1 m.bM.length c1) (.slice A2 m.asks.length c2) (.slice A3 m.entries.length c3) (.slice A4 m.cH.length c4) (.slice A5 m.bY.length c5) (.slice A6 m.ends.length c6)) 41)
 have A:=ai.new w 41 (fH m (.slice A1 m.bM.length c1) (.slice A2 m.asks.length c2) (.slice A3 m.entries.length c3) (.slice A4 m.cH.length c4) (.slice A5 m.bY.length c5) (.slice A6 m.ends.length c6))
 obtain⟨t,y,rfl⟩:=J.slice
 generalize zb i m=SM at *
 generalize ig m=CK at *
 generalize xH m=EM at *
 clear h1 h2 h3 h4 h5 h6
 go_enter func59,ntmps59
 go_upto_region 1 with (fail)
 generalize w.alloc _=w1 at *
 have qx:=A.cell
 have C2:=ae (C1.aa w1 T)
 clear C1
 go_wp2_with fail
 refine C2.aa.mono ?_
 rintro e B⟨v7,rfl,G,k2⟩
 have C:=T.tr k2
 have R:=J.st C
 have E:=hb.below C hb.lt
 have hz1:=T.size
 have hz2:=C.size
 have bN:=J.blk
 cases hk:ed m
 ·obtain rfl:CK=130:=by rw[H.aa,hk];rfl
  have HS:Hid (SM=[]):=ae (by rw[F.aa,hk];rfl);clear C2 qx hk H Z F;go_wp2;go_end0;exact⟨rfl,_,E,by rw[HS.aa,List.append_nil];exact R,ah.bg C _,λ_ h=>.inl h⟩
 obtain rfl:CK=0:=by rw[H.aa,hk];rfl
 obtain rfl:EM=mh m:=by rw[Z.aa,hk];rfl
 have HS:Hid (SM=[(i,mh m)]):=ae (by rw[F.aa,hk];rfl)
 have q2:=E.cell
 have jH:Fx (λk=>k<base∨(Value.slice t s.length y).ownBlock=some k) (λW=>BN.rel (i,mh m) (Value.agg #[.int .i64 i,v7]).cells.toList W) B:=λW u=>⟨v7,rfl,eN (eE G u λk hk A=>by
  have:=(G.lt k hk).1;rcases A with A|A
  ·omega
  ·have:=(bN k A).2;omega)⟩
 obtain⟨U,L,rfl,-⟩:=eN G
 have hr:=fE.new (S:=BN) (e:=129) (v:=.agg #[.int .i64 i,.slice U (mh m).length L]) jH 0 (fw _)
 have Y:K B (B.alloc (.cells #[.int .i64 i,.slice U (mh m).length L] 129)):=(K.rf B).al _
 have b5:=R.st Y
 have bD:=E.below Y E.lt
 have je:=C.tr Y
 have iW:=je.size
 clear C2 qx hk H Z F jH G R J
 go_wp2_with (at_builtin;refine jK rfl _ _ 62 rfl _ 2 32 azB rfl rfl b5 _ rfl (i,mh m) ?p1 ?p2 ?p3 ?_)
 case p1=>exact hr
 case p2=>omega
 case p3=>exact bq hz iW
 intro v9 w9 D M dc bo
 have u9:ah (λk=>k=j∨(Value.slice t s.length y).ownBlock=some k) (B.alloc (.cells #[.int .i64 i,.slice U (mh m).length L] 129)) w9:=ah.fM M λk hk=>.inr hk
 have hat:∀k,v9.ownBlock=some k->(Value.slice t s.length y).ownBlock=some k∨w.heap.size<=k:=λk hk=>by
  rcases dc with e|e
  ·exact .inl (e▸hk)
  ·rw[e]at hk;injection hk with hk;exact .inr af
 have uP:=ae hat
 have hgo:∀k,v9.ownBlock=some k->base<=k:=λk hk=>(D.blk k hk).1
 have I:ai w9 j 62 #[.slice t s.length y]:=bD.bT (ah.fM (X:=λk=>(Value.slice t s.length y).ownBlock=some k) M λk hk=>hk) λhk=>by have:=(bN j hk).1;omega
 obtain⟨V,Q,rfl⟩:=D.slice
 generalize (s++[(i,mh m)]).length=O at *
 have q9:=I.cell
 have z9:=I.frozen
 have hbF:=I.aR 0 (.slice V O Q)
 have uF:=((ah.bg je (λk=>k=j∨(Value.slice t s.length y).ownBlock=some k)).tr u9).tr (ah.b6 (X:=λk=>k=j∨(Value.slice t s.length y).ownBlock=some k) (.inl rfl) 0 (.slice V O Q))
 have hOF:=ae (D.up (Y':=λk=>k=j) (ah.b6 (X:=λk=>k=j) rfl 0 (.slice V O Q)) (λk e=>by subst e;exact hgb) λk e=>by subst e;exact hgb)
 have UF:=ae uF
 have BF:=ae hbF
 clear D M dc bo b5 hr hat u9 uF hbF q2 I
 go_wp2
 go_end0
 exact⟨rfl,_,BF.aa,by rw[HS.aa];exact hOF.aa,UF.aa,uP.aa⟩
def ua(B:aB):List (Int×List UInt8):=if jO B then []else zb (uo B) (Dx B)
def ud(B:aB)(l:List Int):List (Int×List UInt8):=l.flatMap λk=>zb k (xu B k)
def aj2(B:aB):List (Int×List UInt8):=ua B++ud B (mF B)
theorem ac7(k:Int)(m:bK):(zb k m).length<=1:=by unfold zb;split <;> simp
theorem ac8(B:aB):∀l:List Int,(ud B l).length<=l.length
 | []=>by simp[ud]
 | k :: l=>by have:=ac7 k (xu B k);have:=ac8 B l;simp only[ud,oc,cT,iE]at *;omega
theorem atO(B:aB):(ua B).length<=1:=by unfold ua;split;simp;exact ac7 _ _
theorem aww{B:aB}{m:Nat}(h1:B.me=(m:Int))(h2:m<B.par.length):uo B=B.par[m]:=by exact aiW
set_option linter.constructorNameAsVariable false in
theorem aqF{M:Nat->Prop}{p:cV}{B:aB}{w:World}(h:bC M p B w)(hG:bH B)(hF:lL B)(gA:B.told.length<=800000) :
 Calls prog 18 #[.pointer (some ⟨p.g,0,none⟩)] w λe w'=>∃v' p',e=.returned v'/\bC (λk=>M k∨bn p' k) p' (ic B) w'/\ah (bn p) w w'/\p'.key=p.key/\(∀k,bn p' k->bn p k∨w.heap.size<=k)/\Fx (λk=>M k∨bn p' k) (λW=>ar BN (aj2 (ic B)) v' W) w':=by
 have C1:=ae (Tz h hG)
 have hS:=Oi hG
 have D:=Oe hG
 have mJ:=T6 hG hF
 have htW:(ic B).told.length<=800000:=by rw[hS.told];exact gA
 generalize ic B=s at *
 obtain⟨g,hg⟩:∃g,g=p.g:=⟨_,rfl⟩
 rw[<- hg]at C1⊢
 have HG:=ae hg
 clear h hG hF gA hS hg
 go_enter func18,ntmps18
 go_wp2_with fail
 refine C1.aa.mono ?_
 rintro e F⟨rfl,hN⟩
 obtain⟨p',ku,R,im,oZ⟩:=hN
 have kA:K F (F.alloc (.cells #[.slice none 0 0] 62)):=(K.rf F).al _
 have jZ:=ai.new F 62 #[.slice none 0 0]
 have FK:(F.alloc (.cells #[.slice none 0 0] 62)).heap.size=F.heap.size+1:=aj
 have sH:bC (λk=>(M k∨bn p' k)∨k=F.heap.size) p' s (F.alloc (.cells #[.slice none 0 0] 62)) :=
  ku.far (X:=λ_=>False) (ah.bg kA _) (λ_ h=>h.elim) (λ_ h=>h.elim) (λk hk H=>H.resolve_right af) (λk hk=>.inl (.inr hk)) λk hk=>by
   rcases hk with hk|hk
   ·have:=ku.low k hk;omega
   ·omega
 have R5:=ae kA
 have L:=ku.low
 have u1s:=R.size
 clear C1 ku
 go_upto_region 5 with (fail)
 generalize F.alloc _=S at *
 generalize I4:F.heap.size=E at *
 have iN:p'.g=g:=(yA im).trans HG.aa.symm
 obtain⟨base,hbase⟩:∃base,base=S.heap.size:=⟨_,rfl⟩
 have hgb:E<base:=af
 have SD:Hid (∀W,ah (λk=>k=E∨base<=k) S W->bC (λk=>(M k∨bn p' k)∨k=E) p' s W):=ae λW u =>
  have u':ah (λk=>k=E) S W:=⟨u.os,u.tape,u.output,u.size,λk h1 h2=>u.block k h1 λh=>h.elim h2 λh=>af⟩
  sH.far u' (λk hk=>.inr hk) (λk hk H=>by have:=L k (.inr H);omega) (λ_ _ h=>h) (λk hk=>.inl (.inr hk)) λk hk=>bB (sH.low k hk) u.size
 have HV2:=ae sH
 have HX:=ae (And.intro R (And.intro im (And.intro oZ (And.intro L I4))))
 clear sH R im oZ L I4
 go_wp2_with fail
 have CR:=ae (JV HV2.aa)
 rw[iN]at CR
 refine CR.aa.mono ?_
 rintro e J⟨rfl,k3⟩
 have u3:ah (λk=>k=E∨base<=k) S J:=ah.bg k3 _
 have wF:=jZ.below k3 jZ.lt
 have AL:=ae u3
 have jt:=aT.nil (λk=>k<base) base 129 BN J
 have iW:=k3.size
 clear CR jZ
 go_upto_if 14 with (fail)
 go_cut [13,14]from 15 to 48 (fun _ _ W=>∃o,ai W E 62 #[o]/\aT (fun k=>k<base) base 129 BN (ua s) o W/\ah (fun k=>k=E∨base<=k) S W)
 case first =>
  have HR:Hid (ua s=if jO s then []else zb (uo s) (Dx s)):=ae rfl;generalize ua s=OU at *;cases hr:jO s
  ·have HO:Hid (OU=zb (uo s) (Dx s)):=ae (by rw[HR.aa,hr];rfl);clear hr HR;have G:=SD.aa J u3;have q:=G.q;have jX:=D.dk.len;have hrl:=D.eX;have wX:=D.me;have hpl:=(vO D.tr).2;have oU:(cZ s).length<=16:=by unfold cZ;rw[List.length_map];exact bq (J9 _ _) (vO D.tr).2
   simp only[jd,cz,decide_eq_true_eq]at wX;obtain⟨mn,tz⟩:=Int.eq_ofNat_of_zero_le wX.1;have NA:mn<s.par.length:=af;have NC:=ae (aww tz NA);have CL:=ae λW (k:K J W)=>Ty (G.st k) D
   have CA:=ae λW (k:K J W)=>abA (G.st k) D
   have HD:=ae λW (k:K J W)=>G.bL.at k
   have L7:=G.bL.now.par;have hs1:=az G.bL.now.list;have dX:=az G.bL.now.prom;have dF:=az G.bL.now.eX;have Nq:=ae G;rw[iN]at q CL CA;obtain⟨g',gl,gd,gr,gt,vd,vr,vp,vh,vl,vq,va,vt,vf,vw,kr⟩:=p';simp only at q HD L7 hs1 dX dF;simp only[Gu,tz]at q;obtain⟨Al,cl,rfl⟩:=hs1;obtain⟨Aq,cq,rfl⟩:=dX;obtain⟨Af,cf,rfl⟩:=dF;obtain⟨Ap,cp,rfl,L8,-⟩:=L7;obtain⟨bp,op,rfl,Y⟩:=ints_at L8 af;have O:=λW (k:K J W)=>Y W k mn NA
   have Z:(mn:Int)<(s.par.length:Int):=af;have hw:=ajK s.st.list.length af;clear G Y L8 wX tz u3;go_wp2_with fail
   refine eM 33 (([],[]) :: ([],[]) :: ([1],[(16,1)]) :: ([2],[(17,2)]) :: ([3],[(18,3)]) :: ([],[]) :: ([5],[(20,5)]) :: ([6],[(21,6)]) :: ([7],[(22,7)]) :: ([4,8],[(19,4),(23,8)]) :: ([9],[(24,9)]) :: ([],[]) :: ([11],[(26,11)]) :: ([12],[(27,12)]) :: ([13],[(28,13)]) :: ([14],[(29,14)]) :: ([15],[(30,15)]) :: ([16],[(31,16)]) :: ([],[]) :: ([18],[(33,18)]) :: ([19],[(34,19)]) :: ([20],[(35,20)]) :: ([21],[(36,21)]) :: ([],[]) :: ([23],[(38,23)]) :: ([24],[(39,24)]) :: ([25],[(40,25)]) :: ([],[]) :: ([27],[(42,27)]) :: ([22,26,28],[(37,22),(41,26),(43,28)]) :: ([],[]) :: ([30],[(45,30)]) :: ([17,29,31],[(32,17),(44,29),(46,31)]) :: ([0,10,31,32],[(15,0),(25,10),(47,32)]) :: []) 64 rfl ak ak ak ak au ?_;simp only[dR,dN,ew,dP];iterate 28 (apply aV.is;intro V W C t;(try simp only[aI,aJ,aM,aE,aF,ag]at t);simp[aL,aw,List.lookup,t,aS,execOp,ay,ag,aN,C,q,O,Z,hw,go_sem];rfl)
   refine aV.op (λv W=>ar vE (cZ s) v W) (λ_ _ _ h k=>aW h k) (λV W C t=>?_) ?_
   ·(try simp only[aI,aJ,aM,aE,aF,ag]at t)
    simp[aL,aw,List.lookup,t,aS,execOp,ay,q,O,Z,hw,go_sem];refine (CL.aa W C).mono ?_;exact aiX
   refine aV.op (λv W=>ar jW (Lm s.st.prom s.refused (cZ s)) v W) (λ_ _ _ h k=>aW h k) (λV W C t=>?_) ?_
   ·(try simp only[aI,aJ,aM,aE,aF,ag]at t)
    simp[aL,aw,List.lookup,t,aS,execOp,ay,q,O,Z,hw,go_sem];refine (aqm s.st.prom s.refused (cZ s) _ _ _ W (HD.aa W C).prom (HD.aa W C).eX t.2.2.1 af af af (λm hm=>by have:=(D.last hm).2.1;omega)).mono ?_;exact WV
   (apply aV.is;intro V W C t;(try simp only[aI,aJ,aM,aE,aF,ag]at t);simp[aL,aw,List.lookup,t,aS,execOp,ay,ag,aN,C,q,O,Z,hw,go_sem];rfl)
   refine aV.op (λv W=>ar aQ (lY s) v W) (λ_ _ _ h k=>aW h k) (λV W C t=>?_) ?_
   ·(try simp only[aI,aJ,aM,aE,aF,ag]at t)
    simp[aL,aw,List.lookup,t,aS,execOp,ay,q,O,Z,hw,go_sem];refine (CA.aa W C).mono ?_;exact aiX
   refine aV.op (λv W=>js (Dx s) v W) (λ_ _ _ h k=>Xx h k) (λV W C t=>?_) ?_
   ·simp only[aI,aJ,aM,aE,aF,ag]at t;obtain⟨ZR,h29,h31,-⟩:=t;obtain⟨A29,c29,e29⟩:=az h29;obtain⟨A31,c31,e31⟩:=az h31;simp[aL,aw,List.lookup,ZR,e29,e31,aS,execOp,ay,aN,go_sem];rw[e29]at h29;rw[e31]at h31;exact⟨_,_,_,_,_,_,rfl,h29,h31,iu _ _,iu _ _,iu _ _,iu _ _⟩
   intro V W C hA;simp only[aJ,aM,eA,ag,Nat.reduceAdd]at hA;obtain⟨f0,f1,f2,f3,f4,f5,f6,f7,f8,f9,f10,f11,f12,f13,f14,f15,f16,f17,f18,f19,f20,f21,f22,f23,f24,f25,f26,f27,f28,f29,f30,f31,f32,-⟩:=hA;have bo:=wF.below C wF.lt;have nr:=C.size;have CS:=ae (abI (uo s) (Dx s) _ bo (jt.st C) f32 (aqt D mJ) hgb af aj);rw[NC.aa]at CS;clear f1 f2 f3 f4 f5 f6 f7 f8 f9 f11 f12 f13 f14 f15 f16 f17 f18 f19 f20 f21 f22 f23 f24 f25 f26 f27 f28 f29 f30 f31 f32 CL CA q O;refine bu.call _ _ rfl (by simp[aw,List.lookup,bj,f0,f10,execOp,ay,go_sem];exact⟨rfl,rfl⟩) ?_;refine CS.aa.mono ?_;rintro e I⟨rfl,o',gy,Q,u5,-⟩;refine⟨_,rfl,?_⟩;refine bu.nil ?_;simp only[bF,Act.put,cO,cM,cL,Nat.reduceAdd,bj];have U5:=ae ((AL.aa.tr (ah.bg C (λk=>k=E∨base<=k))).tr (u5.more λk hk=>hk.imp id λh=>vR));rw[aJ,<- NC.aa,<- HO.aa]at Q;clear CS f0 f10 u5;go_wp2_with fail
   go_meet
   case rel=>exact⟨_,gy,Q,U5.aa⟩
  ·have HO:Hid (OU=[]):=ae (by rw[HR.aa,hr];rfl);clear hr HR;go_wp2_with fail
   go_meet
   case rel=>exact⟨_,wF,by rw[HO.aa];exact jt,AL.aa⟩
 case rest =>
  obtain⟨o,hbo,hO,u4⟩:=hcut;have Ha:=SD.aa wc u4;have CK:=ae (N8 Ha D);rw[iN]at CK;have oU:(mF s).length<=16:=bq (J9 _ _) (vO D.tr).2;have h0l:=atO s;have HX0:Hid (aj2 s=ua s++ud s (mF s)):=ae rfl;have hwz:=u4.size;clear Ha wF jt k3 u3 AL iW;go_wp2_with fail
  refine CK.aa.mono ?_;rintro e I⟨v5,rfl,Q,k5⟩;generalize mF s=y at *;obtain⟨A5,c5,rfl⟩:=Q.slice;have pL:=ae (Q.fx λ_ h=>h);have bN:=hO.blk;have gy:=hbo.below k5 hbo.lt;have D8:aT (λk=>k<base) base 129 BN (ua s++ud s (y.take 0)) o I:=by have:=hO.st k5;simpa [ud]using this
  have u5:Hid (ah (λk=>k=E∨base<=k) S I):=ae (u4.tr (ah.bg k5 _));have hU5:=ah.rf (λk=>k=E∨o.ownBlock=some k) I;clear CK Q hbo hO u4;go_wp2_with fail
  go_loopw [6,52] (fun _ i W=>∃(j:Nat) (o2:Value),j<=y.length/\i=.int .i64 (j:Int)/\ai W E 62 #[o2]/\aT (fun k=>k<base) base 129 BN (ua s++ud s (y.take j)) o2 W/\ah (fun k=>k=E∨o.ownBlock=some k) I W/\∀k,o2.ownBlock=some k->o.ownBlock=some k∨I.heap.size<=k) (fun _ i _=>y.length-(intOf i).toNat)
  case atStart=>exact⟨0,o,af,rfl,gy,D8,hU5,λ_ h=>.inl h⟩
  case round =>
   clear gy D8 hU5;obtain⟨j,o2,hj,rfl,hb,hO,u,pC⟩:=hrel;have T:=u5.aa.tr (u.more λk hk=>hk.imp id λh=>(bN k h).1);have aDu:=T.size;have hus:=u.size;by_cases hlt:j<y.length
   ·have ba:(j:Int)<(y.length:Int):=af;have hl:=(pL.aa.up u λk hk=>by rcases hk with hk|hk;omega;exact (bN k hk).2).now;obtain⟨A,c,e,hl,-⟩:=hl;injection e with e1 e2 e3;subst e1;clear e2 e3;obtain⟨b,off,rfl,Y⟩:=ints_at hl af;have cj:=Y wr (K.rf _) j hlt;have hV:=SD.aa wr T;have U:=aot hV D mJ.nd htW y[j];have hcf:=apv D y[j];have HS:Hid (ua s++ud s (y.take (j+1))=(ua s++ud s (y.take j))++zb y[j] (xu s y[j])):=ae (by
     unfold ud;rw[gE hlt,List.flatMap_append,<- dG];simp only[oc,List.flatMap_nil,List.append_nil])
    have Eh:=ac8 s (y.take j);have xh:(ua s++ud s (y.take j)).length<=1000:=by rw[cT];rw[od]at Eh;omega
    rw[iN]at U;have U:=ae U;generalize y[j]=kd at *;generalize ua s++ud s (y.take j)=os at *;generalize xu s kd=cm at *;clear Y hl hV Eh;go_wp2_with fail
    refine U.aa.mono ?_;rintro e w6⟨v6,rfl,x9,k6⟩;have iy:=hb.below k6 hb.lt;have wK:=k6.size;have C7:=ae (abI kd cm v6 iy (hO.st k6) x9 hcf hgb af xh);obtain⟨m1,m2,m3,m4,m5,m6,rfl,-⟩:=x9;clear U cj hb hO;go_wp2_with fail
    refine C7.aa.mono ?_;rintro e w7⟨rfl,o7,ix,jh,u7,Q0⟩;rw[<- HS.aa]at jh;have hU7:=ae ((u.tr (ah.bg k6 _)).iA u7 λk hk H=>H.imp id λh=>(pC k h).resolve_right af);have Sj:Hid (∀k,o7.ownBlock=some k->o.ownBlock=some k∨I.heap.size<=k):=ae λk hk=>(Q0 k hk).elim (λh=>pC k h) λh=>.inr af
    clear C7 Q0 u7 pC;go_wp2;go_roundw
    case rel=>exact⟨j+1,o7,af,bO,ix,jh,hU7.aa,Sj.aa⟩
    case measure=>simp[intOf];omega
   ·have ba:¬(j:Int)<(y.length:Int):=af;obtain rfl:j=y.length:=af;rw[mC,<- HX0.aa]at hO;obtain⟨Ao,co,rfl⟩:=hO.slice;have q:=hb.cell;obtain⟨R,hkey,jz,L,I4⟩:=HX.aa;have HF:=ae (show bC (λk=>M k∨bn p' k) p' s wr from (SD.aa wr T).less (λk hk=>.inr hk) λk hk=>.inl hk);have hUF:ah (bn p) w wr:=((R.tr (ah.bg R5.aa _)).iA T λk hk H=>by
     have:=L;rcases H with H|H <;> omega)
    have HU:=ae hUF;have yy:=ae ((hO.fx λ_ h=>h).less (N:=λk=>M k∨bn p' k) λk hk=>by have:=L k hk;omega);have HK:=ae hkey;have Ew:=ae jz;clear hO R hkey jz L I4 T hUF;go_wp2;go_ret;first|exact⟨_,rfl,p',HF.aa,HU.aa,HK.aa,Ew.aa,yy.aa⟩|exact⟨_,p',rfl,HF.aa,HU.aa,HK.aa,Ew.aa,yy.aa⟩
theorem ac9{α:Type}[DecidableEq α]{k:α}:∀ {aY:List (α×Value)} {i:Nat},jT k aY i=none->∀p∈aY,p.1≠k
 | [],_,_=>aj
 | q :: r,i,h=>by
  unfold jT at h;split at h
  ·cases h
  ·rename_i s;intro p j;rcases List.mem_cons.1 j with rfl|j
   ·exact s
   ·exact ac9 h p j
theorem BJ.put{l:List (Int×bK)}{u:List (Int×Value)}{W:World}(h:BJ l u W)(hn:(l.map (·.1)).Nodup){k:Int}{m:bK}{v:Value}(hm:js m v W):BJ (nA l k m) (td u k v) W:=by
 have B:=h.1
 cases hi:jT k u 0 with
 | none =>
  have s:=ac9 hi;have A:¬(l.any λp=>decide (p.1=k))=true:=by rw[List.any_eq_true];rintro ⟨p,G,e⟩;obtain⟨j,hj,rfl⟩:=List.mem_iff_getElem.1 G;have:=(h.2 j af hj).1;exact s _ (bW (show j<u.length by omega)) (this.trans Iq)
  unfold nA td;rw[hi,if_neg A];refine⟨by simp[B],λj E h4=>?_⟩;by_cases hj:j<l.length
  ·rw[List.getElem_append_left (show j<u.length by omega),List.getElem_append_left hj];exact h.2 j _ _
  ·have e:j=l.length:=by simp at h4;omega
   subst e;rw[List.getElem_append_right af,List.getElem_append_right af];simpa [B]using hm
 | some x =>
  obtain⟨i,H⟩:=x;obtain⟨-,s⟩:=acJ hi;rw[Nat.sub_zero]at s;obtain⟨F,s⟩:=List.getElem?_eq_some_iff.1 s;have y:i<l.length:=af;have hk:l[i].1=k:=by rw[<- (h.2 i F y).1,s]
  have A:(l.any λp=>decide (p.1=k))=true:=by rw[List.any_eq_true];exact⟨l[i],bW y,pc⟩
  unfold nA td;rw[hi,if_pos A];refine⟨by simp[B],λj E h4=>?_⟩;have hj:j<l.length:=E5;rw[List.getElem_modify,List.getElem_map];by_cases e:i=j
  ·subst e;rw[if_pos rfl,if_pos hk,s];exact⟨rfl,hm⟩
  ·have D:l[j].1≠k:=λC=>e (by
    have:=List.nodup_iff_pairwise_ne.1 hn;rw[List.pairwise_iff_getElem]at this;rcases Nat.lt_trichotomy i j with t|t|t
    ·have g:=this i j (by simpa using y) vT t;simp[hk,C]at g
    ·exact t
    ·have g:=this j i vT (by simpa using y) t;simp[hk,C]at g)
   rw[if_neg e,if_neg D];exact h.2 j _ _
theorem bC.report{M:Nat->Prop}{p:cV}{B:aB}{w w':World}(h:bC M p B w){k:Int}{m:bK}{v:Value}(hm:fS encI w' p.gr (td p.kr k v))(hg:w.grownBy w' (some p.gr))(hn:(B.bR.map (·.1)).Nodup)(y:Fx M (λW=>js m v W) w):bC M { p with kr:=td p.kr k v } { B with bR:=nA B.bR k m } w':=by
 obtain⟨t,E,C,A,D⟩:=h.apart;have u:ah (λk=>k=p.gr) w w':=ah.fM hg λk e=>PJ
 have s:ah M w w':=u.more λk hk=>h.sub k (hk ▸ .inr (.inl rfl))
 refine⟨h.blk.bT u t,h.lg.bT u λk hk e=>A (e▸hk),hm,h.vA.bT u λe=>h.ne e.symm,λW j=>?_,h.sub,λk hk=>bB (h.low k hk) u.size,h.ne⟩;have i:=h.bL W (s.tr j);exact⟨i.par,i.aZ,i.list,i.prom,i.ab,i.aK,i.eX,i.waits,i.bR.put hn (y W (s.tr j))⟩
theorem ar6{M:Nat->Prop}{p:cV}{B:aB}{w:World}(h:bC M p B w)(k:Int){m:bK}{v:Value}(hn:(B.bR.map (·.1)).Nodup)(j:Fx M (λW=>js m v W) w) :
 ∃w',(Instr.mapUpdate 92 (.map (some p.gr)) (.int .i64 k) v).run prog w=.ok () w'/\bC M { p with kr:=td p.kr k v } { B with bR:=nA B.bR k m } w'/\ah (λk=>k=p.gr) w w':=by
 obtain⟨w',t,s,i⟩:=Ki (LF (P:=prog) (kt:=3) underlying3) underlying92 h.rep k v
 exact⟨w',t,h.report s i hn j,ah.fM i λk e=>PJ⟩
